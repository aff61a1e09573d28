/- Parts Aw37 RPts R37B AtrC R37D R37E LwKc. -/
import Derived.Test.YtohjmddnennajaaGreatDoorProg
import Derived.Test.YtohjmddnennajaaGreatDoorPi
import Derived.Test.YtohjmddnennajaaGreatDoorPg
import Derived.Test.YtohjmddnennajaaGreatDoorPf
import Derived.Test.YtohjmddnennajaaGreatDoorPc
import Derived.Test.YtohjmddnennajaaGreatDoorPa
import Derived.Test.YtohjmddnennajaaGreatDoorPh
import Derived.Deep.Cut
import Derived.Deep.QuietTactic
import Derived.BigQuiet
import Derived.Test.YtohjmddnennajaaGreatDoorPe

namespace Go.Proofs.YtohjmddnennajaaGreatDoor
set_option maxRecDepth 100000
set_option maxHeartbeats 4000000
section
open Go.RowKit Go.Shelf
attribute [local go_sem] Oper.semAt_some
theorem only_ok{ls:List Int}{n:Nat}(h:∀x∈ls,0<=x/\x<(n:Int))(k:Nat)(hk:k<ls.length):∃j:Nat,ls[k]=(j:Int)/\j<n:=by
 obtain⟨h1,h2⟩:=h _ (Ld hk);obtain⟨j,hj⟩:=Lr h1;exact⟨j,hj,by omega⟩
theorem ju(ls:List Int)(L:List Bool)(m:Nat)(hm:ls.length=m)(h:∀x∈ls,0<=x/\x<((8:Nat):Int))(hl:ls.length<=1000)(he:gE 8 ls=L)(A:Bb)(c:Nat)(w:Ba)(hI:IAt w w.heap.size A ls) :
  Calls Tryz.prog 14 #[.int .i64 8,.slice A m c] w fun e w'=>∃g,e=.returned (.slice (some ⟨g,0,none⟩) 8 8)/\BAt w' w'.heap.size (some ⟨g,0,none⟩) L/\Below w.heap.size w w':=by
 have O:=JO 8 (by decide) ls hl (only_ok h) A c w hI;unfold xe at O;rw[Zy,hm,he] at O;exact O.mono fun e w' ⟨g,e1,_,h2,h3⟩=>⟨g,e1,h2.at_ h2.lt,h3⟩
theorem uZ(L:List Bool)(h8:L.length=8)(A A':Bb)(c c':Nat)(w:Ba)(h:BAt w w.heap.size A L)(h':BAt w w.heap.size A' L) :
  Calls Tryz.prog 10 #[.slice A 8 c,.slice A' 8 c'] w fun e w'=>e=.returned (.bool true)/\Below w.heap.size w w':=by
 have O:=gU A A' c c' L L w w.heap.size (Le _) h h' (by omega) (by omega);rw[h8,show decide (L=L)=true by simp] at O;exact O.mono fun e w' ⟨h1,n,h2⟩=>⟨h1,by rw[h2];exact zT (Lo _ _) n⟩
theorem eqi_lit(L:List Int)(h8:L.length=8)(A A':Bb)(c c':Nat)(w:Ba)(h:IAt w w.heap.size A L)(h':IAt w w.heap.size A' L) :
  Calls Tryz.prog 11 #[.slice A 8 c,.slice A' 8 c'] w fun e w'=>e=.returned (.bool true)/\Below w.heap.size w w':=by
 have O:=XK A A' c c' L L w w.heap.size h h' (by omega) (by omega);rw[h8,show decide (L=L)=true by simp] at O;exact O.mono fun e w' ⟨h1,n,h2⟩=>⟨h1,by rw[h2];exact zT (Lo _ _) n⟩
theorem leaf_at{w:Ba}{g:Nat}(h:w.heap[g]?=some (.cells #[.int .i64 6,.int .i64 0,.int .i64 0,.int .i64 1,.int .i64 0,.slice none 0 0] 66 (0,0))):FsAt w w.heap.size 1 (some ⟨g,0,none⟩) ex7F.args:=fun _=>
 ⟨g,0,rfl,zj h,fun i hi=>by
  have h0:i=0:=by have:ex7F.args.length=1:=rfl;omega
  subst h0
  exact⟨none,0,fun j v hv=>by simp only[Nat.zero_mul,Nat.zero_add];exact zh h j hv,rfl⟩⟩
theorem jM(w:Ba)(hT:RowTab w):Calls Tryz.prog 5 #[] w fun e w'=>e=.returned (.bool true)/\Below w.heap.size w w':=by
 go_enter Tryz.func5,Tryz.ntmps5;go_wp2_with fail;refine(Yn w).mono ?_;rintro e w1 ⟨A,kc,SV,ks,AV,kv,AX,kx,rfl,hS,hb1⟩;have C1:=zH (fun (AB:Bb) (kb:Nat) (X:Ba) (h:SyAt X X.heap.size A SV AV AX yh) (hb:BAt X X.heap.size AB yb)=>(by have:=ZF yh jd qX 0 yb A SV AV AX AB kc ks kv kx kb (by decide) X h hb;rw[ex7_k0] at this;exact this:Calls Tryz.prog 15 #[.agg (yh.vs_ A kc SV ks AV kv AX kx),.int .i64 0,.slice AB 8 kb] X fun e w'=>∃A' c',e=.returned (.tuple #[.slice A' 8 c',.int .i64 0])/\BAt w' w'.heap.size A' QW/\Below X.heap.size X w'));have C2:=zH (fun (AB:Bb) (kb:Nat) (X:Ba) (h:SyAt X X.heap.size A SV AV AX yh) (hb:BAt X X.heap.size AB yb)=>(by have:=ZF yh jd qX 1 yb A SV AV AX AB kc ks kv kx kb (by decide) X h hb;rw[ex7_k1] at this;exact this:Calls Tryz.prog 15 #[.agg (yh.vs_ A kc SV ks AV kv AX kx),.int .i64 1,.slice AB 8 kb] X fun e w'=>∃A' c',e=.returned (.tuple #[.slice A' 8 c',.int .i64 0])/\BAt w' w'.heap.size A' yb/\Below X.heap.size X w'));have C3:=zH (fun (AB:Bb) (kb:Nat) (X:Ba) (h:SyAt X X.heap.size A SV AV AX yh) (hb:BAt X X.heap.size AB yb)=>(by have:=Yj yh jd qX 3 yb A SV AV AX AB kc ks kv kx kb (by decide) X h hb;rw[ex7_ev] at this;exact this:Calls Tryz.prog 16 #[.agg (yh.vs_ A kc SV ks AV kv AX kx),.int .i64 3,.slice AB 8 kb] X fun e w'=>∃A' c',e=.returned (.tuple #[.slice A' 8 c',.int .i64 0])/\BAt w' w'.heap.size A' QW/\Below X.heap.size X w'))
 have C4:=zH (fun (AB:Bb) (kb:Nat) (X:Ba) (h:SyAt X X.heap.size A SV AV AX yh) (hb:BAt X X.heap.size AB yb)=>(by have:=uU yh jd qX 3 yb A SV AV AX AB kc ks kv kx kb (by decide) X h hb;rw[ex7_ds] at this;exact this:Calls Tryz.prog 17 #[.agg (yh.vs_ A kc SV ks AV kv AX kx),.int .i64 3,.slice AB 8 kb] X fun e w'=>∃A' c',e=.returned (.tuple #[.slice A' 8 c',.int .i64 0])/\BAt w' w'.heap.size A' yb/\Below X.heap.size X w'))
 have C5:=zH (fun (AB:Bb) (kb:Nat) (X:Ba) (h:SyAt X X.heap.size A SV AV AX yh) (hb:BAt X X.heap.size AB yb)=>((wY yh jd qX 3 yb A SV AV AX AB kc ks kv kx kb (by decide) X h hb).mono (fun e w' hq=>by
  obtain⟨hb,h | ⟨_,M,gr,rfl,_,h1,h2,_,h3⟩⟩:=hq
  . exact absurd jW.1 h.1
  . obtain⟨rfl,hN⟩:=ex7_co h1 h2
    rw[hN] at h3
    exact⟨gr,by rw[xX.2.2];rfl,h3.at_ h3.lt,hb⟩):Calls Tryz.prog 6 #[.agg (yh.vs_ A kc SV ks AV kv AX kx),.int .i64 3,.slice AB 8 kb] X fun e w'=>∃gr,e=.returned (.tuple #[.slice (some ⟨gr,0,none⟩) 8 8,.int .i64 2,.int .i64 0])/\BAt w' w'.heap.size (some ⟨gr,0,none⟩) ex7N/\Below X.heap.size X w'))
 have C6:=zH (fun (AB:Bb) (kb:Nat) (X:Ba) (h:SyAt X X.heap.size A SV AV AX yh) (hb:BAt X X.heap.size AB yb)=>((wX yh jd qX 3 yb A SV AV AX AB kc ks kv kx kb (by decide) X h hb).mono (fun e w' hq=>by
  obtain⟨hb,h | ⟨_,M,gr,rfl,h1,h2,_,h3⟩⟩:=hq
  . exact absurd jW.1 h.1
  . have hN:=ex7_le h1 h2
    rw[hN] at h3
    exact⟨gr,by rw[xX.2.2],h3.iat,hb⟩):Calls Tryz.prog 8 #[.agg (yh.vs_ A kc SV ks AV kv AX kx),.int .i64 3,.slice AB 8 kb] X fun e w'=>∃gr,e=.returned (.tuple #[.slice (some ⟨gr,0,none⟩) 8 8,.int .i64 0])/\IAt w' w'.heap.size (some ⟨gr,0,none⟩) ex7L/\Below X.heap.size X w'))
 have C7:=zH (fun (AF:Bb) (X:Ba) (hT:RowTab X) (h:SyAt X X.heap.size A SV AV AX yh) (hA:FsAt X X.heap.size 1 AF ex7F.args)=>(by have:=kEval_any yh jd qX [] 1 ex7F (by decide) A SV AV AX AF none kc ks kv kx 1 0 X hT h (fun h0=>absurd h0 (by simp)) hA;rw[ex7_eva] at this;exact this:Calls Tryz.prog 18 #[.agg (yh.vs_ A kc SV ks AV kv AX kx),.agg #[.slice none 0 0],.agg #[.int .i64 13,.int .i64 0,.int .i64 0,.int .i64 0,.int .i64 3,.slice AF 1 1]] X fun e w'=>∃A' c',e=.returned (.tuple #[.slice A' 8 c',.int .i64 0])/\BAt w' w'.heap.size A' XJ/\Below X.heap.size X w'));obtain⟨T,hTT⟩:=Ki yh;rw[hTT] at hS C1 C2 C3 C4 C5 C6 C7 ⊢;unfold Sy.vs_ at C1 C2 C3 C4 C5 C6 C7 ⊢;clear hTT;go_upto_region 2 with fail
 obtain⟨w2,hw2,d2,hs2,hb2⟩:=zn w1 #[.int .i64 T.p.t.n,.int .i64 T.p.t.ins,.int .i64 T.p.t.outs,.slice A T.p.t.cases.length kc,.int .i64 T.p.a.n,.slice SV T.p.a.sts.length ks,.int .i64 T.p.k,.int .i64 T.n,.slice AV T.vs.length kv,.slice AX T.xs.length kx] 35;rw[hw2];have SY2:=zH (hS.up hb2);have DB2:=zH d2;have TB2:=zH ((hT.keep hb1 hT.1).keep hb2 (LC hT.1 hb1.size));have HB2:=zH (Lc hb1 hb2);clear hw2 d2 hs2 hb2 hS hb1 hT;go_wp2_with fail;obtain⟨w3,hw3,d3,hs3,hb3⟩:=zn w2 #[.int .i64 4,.int .i64 5,.int .i64 6,.int .i64 7] 3;rw[hw3];have DX3:=zH d3;have SY3:=zH (SY2.out.up hb3);have DB3:=zH (La hb3 DB2.out);have TB3:=zH (TB2.out.keep hb3 TB2.out.1);have HB3:=zH (Lc HB2.out hb3);clear hb3 SY2 DB2 TB2 HB2;clear hw3 d3 hs3;refine(ju [4,5,6,7] yb 4 rfl (by decide) (by decide) (by decide) (some ⟨w2.heap.size,0,none⟩) 4 w3 (jz DX3.out)).mono ?_;rintro e w4 ⟨g4,rfl,B4,hb4⟩;clear DX3;have HBk:=zH B4;clear B4;have SY4:=zH (SY3.out.up hb4);have DB4:=zH (La hb4 DB3.out);have TB4:=zH (TB3.out.keep hb4 TB3.out.1);have HB4:=zH (Lc HB3.out hb4);clear hb4 SY3 DB3 TB3 HB3;have S4x4:=HBk;clear HBk;obtain⟨p0,p1,p2,p3,p4,p5,p6,p7,p8,p9⟩:=zB (DB4.out);go_wp2_with fail;refine(C1.out (some ⟨g4,0,none⟩) 8 w4 SY4.out S4x4.out).mono ?_;rintro e w5 ⟨ARa,cRa,rfl,B5,hb5⟩;have HBk:=zH B5;clear B5 p0 p1 p2 p3 p4 p5 p6 p7 p8 p9 C1;have SY5:=zH (SY4.out.up hb5)
 have DB5:=zH (La hb5 DB4.out);have TB5:=zH (TB4.out.keep hb5 TB4.out.1);have HB5:=zH (Lc HB4.out hb5);have S4x5:=zH ((S4x4.out.keep hb5).more hb5.size);clear hb5 SY4 DB4 TB4 HB4 S4x4;have Rax5:=HBk;clear HBk;obtain⟨p0,p1,p2,p3,p4,p5,p6,p7,p8,p9⟩:=zB (DB5.out);go_wp2_with fail;refine(C2.out (some ⟨g4,0,none⟩) 8 w5 SY5.out S4x5.out).mono ?_;rintro e w6 ⟨ARb,cRb,rfl,B6,hb6⟩;have HBk:=zH B6;clear B6 p0 p1 p2 p3 p4 p5 p6 p7 p8 p9 C2;have SY6:=zH (SY5.out.up hb6);have DB6:=zH (La hb6 DB5.out);have TB6:=zH (TB5.out.keep hb6 TB5.out.1);have HB6:=zH (Lc HB5.out hb6);have S4x6:=zH ((S4x5.out.keep hb6).more hb6.size);have Rax6:=zH ((Rax5.out.keep hb6).more hb6.size);clear hb6 SY5 DB5 TB5 HB5 S4x5 Rax5;have Rbx6:=HBk;clear HBk;obtain⟨p0,p1,p2,p3,p4,p5,p6,p7,p8,p9⟩:=zB (DB6.out);go_wp2_with fail;refine(C3.out (some ⟨g4,0,none⟩) 8 w6 SY6.out S4x6.out).mono ?_;rintro e w7 ⟨ARc,cRc,rfl,B7,hb7⟩;have HBk:=zH B7;clear B7 p0 p1 p2 p3 p4 p5 p6 p7 p8 p9 C3;have SY7:=zH (SY6.out.up hb7);have DB7:=zH (La hb7 DB6.out);have TB7:=zH (TB6.out.keep hb7 TB6.out.1);have HB7:=zH (Lc HB6.out hb7);have S4x7:=zH ((S4x6.out.keep hb7).more hb7.size);have Rax7:=zH ((Rax6.out.keep hb7).more hb7.size);have Rbx7:=zH ((Rbx6.out.keep hb7).more hb7.size);clear hb7 SY6 DB6 TB6 HB6 S4x6 Rax6 Rbx6;have Rcx7:=HBk;clear HBk;obtain⟨p0,p1,p2,p3,p4,p5,p6,p7,p8,p9⟩:=zB (DB7.out)
 go_wp2_with fail;refine(C4.out (some ⟨g4,0,none⟩) 8 w7 SY7.out S4x7.out).mono ?_;rintro e w8 ⟨ARd,cRd,rfl,B8,hb8⟩;have HBk:=zH B8;clear B8 p0 p1 p2 p3 p4 p5 p6 p7 p8 p9 C4;have SY8:=zH (SY7.out.up hb8);have DB8:=zH (La hb8 DB7.out);have TB8:=zH (TB7.out.keep hb8 TB7.out.1);have HB8:=zH (Lc HB7.out hb8);have S4x8:=zH ((S4x7.out.keep hb8).more hb8.size);have Rax8:=zH ((Rax7.out.keep hb8).more hb8.size);have Rbx8:=zH ((Rbx7.out.keep hb8).more hb8.size);have Rcx8:=zH ((Rcx7.out.keep hb8).more hb8.size);clear hb8 SY7 DB7 TB7 HB7 S4x7 Rax7 Rbx7 Rcx7;have Rdx8:=HBk;clear HBk;go_wp2_with fail;obtain⟨w9,hw9,d9,hs9,hb9⟩:=zn w8 #[.int .i64 7] 3;rw[hw9];have DX9:=zH d9;have SY9:=zH (SY8.out.up hb9);have DB9:=zH (La hb9 DB8.out);have TB9:=zH (TB8.out.keep hb9 TB8.out.1);have HB9:=zH (Lc HB8.out hb9);have S4x9:=zH ((S4x8.out.keep hb9).more hb9.size);have Rax9:=zH ((Rax8.out.keep hb9).more hb9.size);have Rbx9:=zH ((Rbx8.out.keep hb9).more hb9.size);have Rcx9:=zH ((Rcx8.out.keep hb9).more hb9.size);have Rdx9:=zH ((Rdx8.out.keep hb9).more hb9.size);clear hb9 SY8 DB8 TB8 HB8 S4x8 Rax8 Rbx8 Rcx8 Rdx8;clear hw9 d9 hs9;refine(ju [7] QW 1 rfl (by decide) (by decide) (by decide) (some ⟨w8.heap.size,0,none⟩) 1 w9 (jz DX9.out)).mono ?_;rintro e w10 ⟨g10,rfl,B10,hb10⟩;clear DX9;have HBk:=zH B10;clear B10;have SY10:=zH (SY9.out.up hb10);have DB10:=zH (La hb10 DB9.out)
 have TB10:=zH (TB9.out.keep hb10 TB9.out.1);have HB10:=zH (Lc HB9.out hb10);have S4x10:=zH ((S4x9.out.keep hb10).more hb10.size);have Rax10:=zH ((Rax9.out.keep hb10).more hb10.size);have Rbx10:=zH ((Rbx9.out.keep hb10).more hb10.size);have Rcx10:=zH ((Rcx9.out.keep hb10).more hb10.size);have Rdx10:=zH ((Rdx9.out.keep hb10).more hb10.size);clear hb10 SY9 DB9 TB9 HB9 S4x9 Rax9 Rbx9 Rcx9 Rdx9;have S10x10:=HBk;clear HBk;go_wp2_with fail;refine(uZ QW rfl ARa (some ⟨g10,0,none⟩) cRa 8 w10 Rax10.out S10x10.out).mono ?_;rintro e w11 ⟨rfl,hb11⟩;have SY11:=zH (SY10.out.up hb11);have DB11:=zH (La hb11 DB10.out);have TB11:=zH (TB10.out.keep hb11 TB10.out.1);have HB11:=zH (Lc HB10.out hb11);have S4x11:=zH ((S4x10.out.keep hb11).more hb11.size);have Rax11:=zH ((Rax10.out.keep hb11).more hb11.size);have Rbx11:=zH ((Rbx10.out.keep hb11).more hb11.size);have Rcx11:=zH ((Rcx10.out.keep hb11).more hb11.size);have Rdx11:=zH ((Rdx10.out.keep hb11).more hb11.size);have S10x11:=zH ((S10x10.out.keep hb11).more hb11.size);clear hb11 SY10 DB10 TB10 HB10 S4x10 Rax10 Rbx10 Rcx10 Rdx10 S10x10;go_wp2_with fail;refine(uZ yb rfl ARb (some ⟨g4,0,none⟩) cRb 8 w11 Rbx11.out S4x11.out).mono ?_;rintro e w12 ⟨rfl,hb12⟩;have SY12:=zH (SY11.out.up hb12);have DB12:=zH (La hb12 DB11.out);have TB12:=zH (TB11.out.keep hb12 TB11.out.1);have HB12:=zH (Lc HB11.out hb12)
 have S4x12:=zH ((S4x11.out.keep hb12).more hb12.size);have Rax12:=zH ((Rax11.out.keep hb12).more hb12.size);have Rbx12:=zH ((Rbx11.out.keep hb12).more hb12.size);have Rcx12:=zH ((Rcx11.out.keep hb12).more hb12.size);have Rdx12:=zH ((Rdx11.out.keep hb12).more hb12.size);have S10x12:=zH ((S10x11.out.keep hb12).more hb12.size);clear hb12 SY11 DB11 TB11 HB11 S4x11 Rax11 Rbx11 Rcx11 Rdx11 S10x11;go_wp2_with fail;obtain⟨w13,hw13,d13,hs13,hb13⟩:=zn w12 #[.int .i64 7] 3;rw[hw13];have DX13:=zH d13;have SY13:=zH (SY12.out.up hb13);have DB13:=zH (La hb13 DB12.out);have TB13:=zH (TB12.out.keep hb13 TB12.out.1);have HB13:=zH (Lc HB12.out hb13);have S4x13:=zH ((S4x12.out.keep hb13).more hb13.size);have Rax13:=zH ((Rax12.out.keep hb13).more hb13.size);have Rbx13:=zH ((Rbx12.out.keep hb13).more hb13.size);have Rcx13:=zH ((Rcx12.out.keep hb13).more hb13.size);have Rdx13:=zH ((Rdx12.out.keep hb13).more hb13.size);have S10x13:=zH ((S10x12.out.keep hb13).more hb13.size);clear hb13 SY12 DB12 TB12 HB12 S4x12 Rax12 Rbx12 Rcx12 Rdx12 S10x12;clear hw13 d13 hs13;refine(ju [7] QW 1 rfl (by decide) (by decide) (by decide) (some ⟨w12.heap.size,0,none⟩) 1 w13 (jz DX13.out)).mono ?_;rintro e w14 ⟨g14,rfl,B14,hb14⟩;clear DX13;have HBk:=zH B14;clear B14;have SY14:=zH (SY13.out.up hb14);have DB14:=zH (La hb14 DB13.out);have TB14:=zH (TB13.out.keep hb14 TB13.out.1);have HB14:=zH (Lc HB13.out hb14)
 have S4x14:=zH ((S4x13.out.keep hb14).more hb14.size);have Rax14:=zH ((Rax13.out.keep hb14).more hb14.size);have Rbx14:=zH ((Rbx13.out.keep hb14).more hb14.size);have Rcx14:=zH ((Rcx13.out.keep hb14).more hb14.size);have Rdx14:=zH ((Rdx13.out.keep hb14).more hb14.size);have S10x14:=zH ((S10x13.out.keep hb14).more hb14.size);clear hb14 SY13 DB13 TB13 HB13 S4x13 Rax13 Rbx13 Rcx13 Rdx13 S10x13;have S14x14:=HBk;clear HBk;go_wp2_with fail;refine(uZ QW rfl ARc (some ⟨g14,0,none⟩) cRc 8 w14 Rcx14.out S14x14.out).mono ?_;rintro e w15 ⟨rfl,hb15⟩;have SY15:=zH (SY14.out.up hb15);have DB15:=zH (La hb15 DB14.out);have TB15:=zH (TB14.out.keep hb15 TB14.out.1);have HB15:=zH (Lc HB14.out hb15);have S4x15:=zH ((S4x14.out.keep hb15).more hb15.size);have Rax15:=zH ((Rax14.out.keep hb15).more hb15.size);have Rbx15:=zH ((Rbx14.out.keep hb15).more hb15.size);have Rcx15:=zH ((Rcx14.out.keep hb15).more hb15.size);have Rdx15:=zH ((Rdx14.out.keep hb15).more hb15.size);have S10x15:=zH ((S10x14.out.keep hb15).more hb15.size);have S14x15:=zH ((S14x14.out.keep hb15).more hb15.size);clear hb15 SY14 DB14 TB14 HB14 S4x14 Rax14 Rbx14 Rcx14 Rdx14 S10x14 S14x14;go_wp2_with fail;refine(uZ yb rfl ARd (some ⟨g4,0,none⟩) cRd 8 w15 Rdx15.out S4x15.out).mono ?_;rintro e w16 ⟨rfl,hb16⟩;have SY16:=zH (SY15.out.up hb16);have DB16:=zH (La hb16 DB15.out);have TB16:=zH (TB15.out.keep hb16 TB15.out.1)
 have HB16:=zH (Lc HB15.out hb16);have S4x16:=zH ((S4x15.out.keep hb16).more hb16.size);have Rax16:=zH ((Rax15.out.keep hb16).more hb16.size);have Rbx16:=zH ((Rbx15.out.keep hb16).more hb16.size);have Rcx16:=zH ((Rcx15.out.keep hb16).more hb16.size);have Rdx16:=zH ((Rdx15.out.keep hb16).more hb16.size);have S10x16:=zH ((S10x15.out.keep hb16).more hb16.size);have S14x16:=zH ((S14x15.out.keep hb16).more hb16.size);clear hb16 SY15 DB15 TB15 HB15 S4x15 Rax15 Rbx15 Rcx15 Rdx15 S10x15 S14x15;obtain⟨p0,p1,p2,p3,p4,p5,p6,p7,p8,p9⟩:=zB (DB16.out);go_wp2_with fail;refine(C5.out (some ⟨g4,0,none⟩) 8 w16 SY16.out S4x16.out).mono ?_;rintro e w17 ⟨gx,rfl,B17,hb17⟩;have HBk:=zH B17;clear B17 p0 p1 p2 p3 p4 p5 p6 p7 p8 p9 C5;have SY17:=zH (SY16.out.up hb17);have DB17:=zH (La hb17 DB16.out);have TB17:=zH (TB16.out.keep hb17 TB16.out.1);have HB17:=zH (Lc HB16.out hb17);have S4x17:=zH ((S4x16.out.keep hb17).more hb17.size);have Rax17:=zH ((Rax16.out.keep hb17).more hb17.size);have Rbx17:=zH ((Rbx16.out.keep hb17).more hb17.size);have Rcx17:=zH ((Rcx16.out.keep hb17).more hb17.size);have Rdx17:=zH ((Rdx16.out.keep hb17).more hb17.size);have S10x17:=zH ((S10x16.out.keep hb17).more hb17.size);have S14x17:=zH ((S14x16.out.keep hb17).more hb17.size);clear hb17 SY16 DB16 TB16 HB16 S4x16 Rax16 Rbx16 Rcx16 Rdx16 S10x16 S14x16;have Rxx17:=HBk;clear HBk;obtain⟨p0,p1,p2,p3,p4,p5,p6,p7,p8,p9⟩:=zB (DB17.out);go_wp2_with fail
 refine(C6.out (some ⟨g4,0,none⟩) 8 w17 SY17.out S4x17.out).mono ?_;rintro e w18 ⟨gl,rfl,B18,hb18⟩;have HBk:=zH B18;clear B18 p0 p1 p2 p3 p4 p5 p6 p7 p8 p9 C6;have SY18:=zH (SY17.out.up hb18);have DB18:=zH (La hb18 DB17.out);have TB18:=zH (TB17.out.keep hb18 TB17.out.1);have HB18:=zH (Lc HB17.out hb18);have S4x18:=zH ((S4x17.out.keep hb18).more hb18.size);have Rax18:=zH ((Rax17.out.keep hb18).more hb18.size);have Rbx18:=zH ((Rbx17.out.keep hb18).more hb18.size);have Rcx18:=zH ((Rcx17.out.keep hb18).more hb18.size);have Rdx18:=zH ((Rdx17.out.keep hb18).more hb18.size);have S10x18:=zH ((S10x17.out.keep hb18).more hb18.size);have S14x18:=zH ((S14x17.out.keep hb18).more hb18.size);have Rxx18:=zH ((Rxx17.out.keep hb18).more hb18.size);clear hb18 SY17 DB17 TB17 HB17 S4x17 Rax17 Rbx17 Rcx17 Rdx17 S10x17 S14x17 Rxx17;have Rlx18:=HBk;clear HBk;obtain⟨p0,p1,p2,p3,p4,p5,p6,p7,p8,p9⟩:=zB (DB18.out);go_wp2_with fail;obtain⟨w19,hw19,d19,hs19,hb19⟩:=zn w18 #[.int .i64 6,.int .i64 0,.int .i64 0,.int .i64 1,.int .i64 0,.slice none 0 0] 66;rw[hw19];have DX19:=zH d19;have SY19:=zH (SY18.out.up hb19);have DB19:=zH (La hb19 DB18.out);have TB19:=zH (TB18.out.keep hb19 TB18.out.1);have HB19:=zH (Lc HB18.out hb19);have S4x19:=zH ((S4x18.out.keep hb19).more hb19.size);have Rax19:=zH ((Rax18.out.keep hb19).more hb19.size);have Rbx19:=zH ((Rbx18.out.keep hb19).more hb19.size)
 have Rcx19:=zH ((Rcx18.out.keep hb19).more hb19.size);have Rdx19:=zH ((Rdx18.out.keep hb19).more hb19.size);have S10x19:=zH ((S10x18.out.keep hb19).more hb19.size);have S14x19:=zH ((S14x18.out.keep hb19).more hb19.size);have Rxx19:=zH ((Rxx18.out.keep hb19).more hb19.size);have Rlx19:=zH ((Rlx18.out.keep hb19).more hb19.size);clear hb19 SY18 DB18 TB18 HB18 S4x18 Rax18 Rbx18 Rcx18 Rdx18 S10x18 S14x18 Rxx18 Rlx18;clear hw19 d19 hs19;refine(C7.out (some ⟨w18.heap.size,0,none⟩) w19 TB19.out SY19.out (leaf_at DX19.out)).mono ?_;rintro e w20 ⟨Ay,cy,rfl,B20,hb20⟩;have HBk:=zH B20;clear B20 p0 p1 p2 p3 p4 p5 p6 p7 p8 p9 C7 DX19;have SY20:=zH (SY19.out.up hb20);have DB20:=zH (La hb20 DB19.out);have TB20:=zH (TB19.out.keep hb20 TB19.out.1);have HB20:=zH (Lc HB19.out hb20);have S4x20:=zH ((S4x19.out.keep hb20).more hb20.size);have Rax20:=zH ((Rax19.out.keep hb20).more hb20.size);have Rbx20:=zH ((Rbx19.out.keep hb20).more hb20.size);have Rcx20:=zH ((Rcx19.out.keep hb20).more hb20.size);have Rdx20:=zH ((Rdx19.out.keep hb20).more hb20.size);have S10x20:=zH ((S10x19.out.keep hb20).more hb20.size);have S14x20:=zH ((S14x19.out.keep hb20).more hb20.size);have Rxx20:=zH ((Rxx19.out.keep hb20).more hb20.size);have Rlx20:=zH ((Rlx19.out.keep hb20).more hb20.size);clear hb20 SY19 DB19 TB19 HB19 S4x19 Rax19 Rbx19 Rcx19 Rdx19 S10x19 S14x19 Rxx19 Rlx19;have Ryx20:=HBk;clear HBk;go_wp2_with fail
 refine(ju [] ex7N 0 rfl (by decide) (by decide) (by decide) none 0 w20 (fun h0=>absurd h0 (by simp))).mono ?_;rintro e w21 ⟨g21,rfl,B21,hb21⟩;have HBk:=zH B21;clear B21;have SY21:=zH (SY20.out.up hb21);have DB21:=zH (La hb21 DB20.out);have TB21:=zH (TB20.out.keep hb21 TB20.out.1);have HB21:=zH (Lc HB20.out hb21);have S4x21:=zH ((S4x20.out.keep hb21).more hb21.size);have Rax21:=zH ((Rax20.out.keep hb21).more hb21.size);have Rbx21:=zH ((Rbx20.out.keep hb21).more hb21.size);have Rcx21:=zH ((Rcx20.out.keep hb21).more hb21.size);have Rdx21:=zH ((Rdx20.out.keep hb21).more hb21.size);have S10x21:=zH ((S10x20.out.keep hb21).more hb21.size);have S14x21:=zH ((S14x20.out.keep hb21).more hb21.size);have Rxx21:=zH ((Rxx20.out.keep hb21).more hb21.size);have Rlx21:=zH ((Rlx20.out.keep hb21).more hb21.size);have Ryx21:=zH ((Ryx20.out.keep hb21).more hb21.size);clear hb21 SY20 DB20 TB20 HB20 S4x20 Rax20 Rbx20 Rcx20 Rdx20 S10x20 S14x20 Rxx20 Rlx20 Ryx20;have S21x21:=HBk;clear HBk;go_wp2_with fail;refine(uZ ex7N rfl (some ⟨gx,0,none⟩) (some ⟨g21,0,none⟩) 8 8 w21 Rxx21.out S21x21.out).mono ?_;rintro e w22 ⟨rfl,hb22⟩;have SY22:=zH (SY21.out.up hb22);have DB22:=zH (La hb22 DB21.out);have TB22:=zH (TB21.out.keep hb22 TB21.out.1);have HB22:=zH (Lc HB21.out hb22);have S4x22:=zH ((S4x21.out.keep hb22).more hb22.size);have Rax22:=zH ((Rax21.out.keep hb22).more hb22.size)
 have Rbx22:=zH ((Rbx21.out.keep hb22).more hb22.size);have Rcx22:=zH ((Rcx21.out.keep hb22).more hb22.size);have Rdx22:=zH ((Rdx21.out.keep hb22).more hb22.size);have S10x22:=zH ((S10x21.out.keep hb22).more hb22.size);have S14x22:=zH ((S14x21.out.keep hb22).more hb22.size);have Rxx22:=zH ((Rxx21.out.keep hb22).more hb22.size);have Rlx22:=zH ((Rlx21.out.keep hb22).more hb22.size);have Ryx22:=zH ((Ryx21.out.keep hb22).more hb22.size);have S21x22:=zH ((S21x21.out.keep hb22).more hb22.size);clear hb22 SY21 DB21 TB21 HB21 S4x21 Rax21 Rbx21 Rcx21 Rdx21 S10x21 S14x21 Rxx21 Rlx21 Ryx21 S21x21;go_wp2_with fail;obtain⟨w23,hw23,d23,hs23,hb23⟩:=zn w22 #[.int .i64 (-1),.int .i64 (-1),.int .i64 (-1),.int .i64 (-1),.int .i64 0,.int .i64 0,.int .i64 0,.int .i64 1] 3;rw[hw23];have DX23:=zH d23;have SY23:=zH (SY22.out.up hb23);have DB23:=zH (La hb23 DB22.out);have TB23:=zH (TB22.out.keep hb23 TB22.out.1);have HB23:=zH (Lc HB22.out hb23);have S4x23:=zH ((S4x22.out.keep hb23).more hb23.size);have Rax23:=zH ((Rax22.out.keep hb23).more hb23.size);have Rbx23:=zH ((Rbx22.out.keep hb23).more hb23.size);have Rcx23:=zH ((Rcx22.out.keep hb23).more hb23.size);have Rdx23:=zH ((Rdx22.out.keep hb23).more hb23.size);have S10x23:=zH ((S10x22.out.keep hb23).more hb23.size);have S14x23:=zH ((S14x22.out.keep hb23).more hb23.size);have Rxx23:=zH ((Rxx22.out.keep hb23).more hb23.size);have Rlx23:=zH ((Rlx22.out.keep hb23).more hb23.size)
 have Ryx23:=zH ((Ryx22.out.keep hb23).more hb23.size);have S21x23:=zH ((S21x22.out.keep hb23).more hb23.size);clear hb23 SY22 DB22 TB22 HB22 S4x22 Rax22 Rbx22 Rcx22 Rdx22 S10x22 S14x22 Rxx22 Rlx22 Ryx22 S21x22;clear hw23 d23 hs23;refine(eqi_lit ex7L rfl (some ⟨gl,0,none⟩) (some ⟨w22.heap.size,0,none⟩) 8 8 w23 Rlx23.out (jz DX23.out)).mono ?_;rintro e w24 ⟨rfl,hb24⟩;clear DX23;have SY24:=zH (SY23.out.up hb24);have DB24:=zH (La hb24 DB23.out);have TB24:=zH (TB23.out.keep hb24 TB23.out.1);have HB24:=zH (Lc HB23.out hb24);have S4x24:=zH ((S4x23.out.keep hb24).more hb24.size);have Rax24:=zH ((Rax23.out.keep hb24).more hb24.size);have Rbx24:=zH ((Rbx23.out.keep hb24).more hb24.size);have Rcx24:=zH ((Rcx23.out.keep hb24).more hb24.size);have Rdx24:=zH ((Rdx23.out.keep hb24).more hb24.size);have S10x24:=zH ((S10x23.out.keep hb24).more hb24.size);have S14x24:=zH ((S14x23.out.keep hb24).more hb24.size);have Rxx24:=zH ((Rxx23.out.keep hb24).more hb24.size);have Rlx24:=zH ((Rlx23.out.keep hb24).more hb24.size);have Ryx24:=zH ((Ryx23.out.keep hb24).more hb24.size);have S21x24:=zH ((S21x23.out.keep hb24).more hb24.size);clear hb24 SY23 DB23 TB23 HB23 S4x23 Rax23 Rbx23 Rcx23 Rdx23 S10x23 S14x23 Rxx23 Rlx23 Ryx23 S21x23;go_wp2_with fail;obtain⟨w25,hw25,d25,hs25,hb25⟩:=zn w24 #[.int .i64 1,.int .i64 3,.int .i64 5,.int .i64 7] 3;rw[hw25];have DX25:=zH d25;have SY25:=zH (SY24.out.up hb25)
 have DB25:=zH (La hb25 DB24.out);have TB25:=zH (TB24.out.keep hb25 TB24.out.1);have HB25:=zH (Lc HB24.out hb25);have S4x25:=zH ((S4x24.out.keep hb25).more hb25.size);have Rax25:=zH ((Rax24.out.keep hb25).more hb25.size);have Rbx25:=zH ((Rbx24.out.keep hb25).more hb25.size);have Rcx25:=zH ((Rcx24.out.keep hb25).more hb25.size);have Rdx25:=zH ((Rdx24.out.keep hb25).more hb25.size);have S10x25:=zH ((S10x24.out.keep hb25).more hb25.size);have S14x25:=zH ((S14x24.out.keep hb25).more hb25.size);have Rxx25:=zH ((Rxx24.out.keep hb25).more hb25.size);have Rlx25:=zH ((Rlx24.out.keep hb25).more hb25.size);have Ryx25:=zH ((Ryx24.out.keep hb25).more hb25.size);have S21x25:=zH ((S21x24.out.keep hb25).more hb25.size);clear hb25 SY24 DB24 TB24 HB24 S4x24 Rax24 Rbx24 Rcx24 Rdx24 S10x24 S14x24 Rxx24 Rlx24 Ryx24 S21x24;clear hw25 d25 hs25;refine(ju [1,3,5,7] XJ 4 rfl (by decide) (by decide) (by decide) (some ⟨w24.heap.size,0,none⟩) 4 w25 (jz DX25.out)).mono ?_;rintro e w26 ⟨g26,rfl,B26,hb26⟩;clear DX25;have HBk:=zH B26;clear B26;have SY26:=zH (SY25.out.up hb26);have DB26:=zH (La hb26 DB25.out);have TB26:=zH (TB25.out.keep hb26 TB25.out.1);have HB26:=zH (Lc HB25.out hb26);have S4x26:=zH ((S4x25.out.keep hb26).more hb26.size);have Rax26:=zH ((Rax25.out.keep hb26).more hb26.size);have Rbx26:=zH ((Rbx25.out.keep hb26).more hb26.size);have Rcx26:=zH ((Rcx25.out.keep hb26).more hb26.size)
 have Rdx26:=zH ((Rdx25.out.keep hb26).more hb26.size);have S10x26:=zH ((S10x25.out.keep hb26).more hb26.size);have S14x26:=zH ((S14x25.out.keep hb26).more hb26.size);have Rxx26:=zH ((Rxx25.out.keep hb26).more hb26.size);have Rlx26:=zH ((Rlx25.out.keep hb26).more hb26.size);have Ryx26:=zH ((Ryx25.out.keep hb26).more hb26.size);have S21x26:=zH ((S21x25.out.keep hb26).more hb26.size);clear hb26 SY25 DB25 TB25 HB25 S4x25 Rax25 Rbx25 Rcx25 Rdx25 S10x25 S14x25 Rxx25 Rlx25 Ryx25 S21x25;have S26x26:=HBk;clear HBk;go_wp2_with fail;refine(uZ XJ rfl Ay (some ⟨g26,0,none⟩) cy 8 w26 Ryx26.out S26x26.out).mono ?_;rintro e w27 ⟨rfl,hb27⟩;have SY27:=zH (SY26.out.up hb27);have DB27:=zH (La hb27 DB26.out);have TB27:=zH (TB26.out.keep hb27 TB26.out.1);have HB27:=zH (Lc HB26.out hb27);have S4x27:=zH ((S4x26.out.keep hb27).more hb27.size);have Rax27:=zH ((Rax26.out.keep hb27).more hb27.size);have Rbx27:=zH ((Rbx26.out.keep hb27).more hb27.size);have Rcx27:=zH ((Rcx26.out.keep hb27).more hb27.size);have Rdx27:=zH ((Rdx26.out.keep hb27).more hb27.size);have S10x27:=zH ((S10x26.out.keep hb27).more hb27.size);have S14x27:=zH ((S14x26.out.keep hb27).more hb27.size);have Rxx27:=zH ((Rxx26.out.keep hb27).more hb27.size);have Rlx27:=zH ((Rlx26.out.keep hb27).more hb27.size);have Ryx27:=zH ((Ryx26.out.keep hb27).more hb27.size);have S21x27:=zH ((S21x26.out.keep hb27).more hb27.size);have S26x27:=zH ((S26x26.out.keep hb27).more hb27.size)
 clear hb27 SY26 DB26 TB26 HB26 S4x26 Rax26 Rbx26 Rcx26 Rdx26 S10x26 S14x26 Rxx26 Rlx26 Ryx26 S21x26 S26x26;go_wp2_with fail;go_ret;exact⟨rfl,HB27.out⟩
theorem X6(s:Sy)(hs:LowS s)(hf:yR s.p)(A SV AV AX:Bb)(kc ks kv kx:Nat)(w:Ba)(hS:SyAt w w.heap.size A SV AV AX s) :
  Calls Tryz.prog 43 #[.agg (s.vs_ A kc SV ks AV kv AX kx)] w fun e w'=>e=.returned (.tuple #[.int .i64 (j6 s).1,.int .i64 (j6 s).2])/\Below w.heap.size w w':=by
 obtain⟨w1,hw1,d0,hs1,hB⟩:=zn w (s.vs_ A kc SV ks AV kv AX kx) 35;have HV:=zH (rver_any s hs hf A SV AV AX kc ks kv kx w1 (hS.up hB));have HE0:Hid (zV s≠0->j6 s=(0,zV s)):=fun h=>Lh h
 have HE1:Hid (zV s=0->j6 s=((ptn s:Int),0)/\∀X,Calls Tryz.prog 74 #[.agg (s.vs_ A kc SV ks AV kv AX kx)] X fun e w'=>e=.returned (.int .i64 (ptn s:Int))/\Below X.heap.size X w'):=fun h=>by
  obtain⟨_,K,N,hF⟩:=yn hf h;exact⟨Lg (by simpa using h),fun X=>YE s K N hF A SV AV AX kc ks kv kx X⟩
 obtain⟨r,hr⟩:=Ki (zV s);rw[hr] at HV HE0 HE1;obtain⟨R,hRR⟩:=Ki (j6 s);rw[hRR] at HE0 HE1 ⊢;unfold Sy.vs_ at hw1 d0 HV HE1 ⊢;have HW1:=zH hw1;have HB:=zH hB;have HD:=zH d0;obtain⟨p0,p1,p2,p3,p4,p5,p6,p7,p8,p9⟩:=zB (d0);clear hw1 d0 hB hS hr hRR hs hf;go_enter Tryz.func43,Tryz.ntmps43;go_wp2_with fail;rw[HW1.out];go_wp2_with fail;refine HV.out.mono ?_;rintro e w2 ⟨rfl,hb2⟩;have HB2:=zH (HB.out.trans (hb2.mono (by omega)));have d0:=Lb hb2 (by omega:w.heap.size<w1.heap.size) HD.out;clear p0 p1 p2 p3 p4 p5 p6 p7 p8 p9 hb2 HV HW1 HD;obtain⟨p0,p1,p2,p3,p4,p5,p6,p7,p8,p9⟩:=zB (d0);clear d0
 by_cases h0:r=0
 case neg=>
  have hR:Hid (R=(0,r)):=HE0.out h0;have e0:(r != 0)=true:=by simpa using h0
  clear HE0 HE1;go_wp2_with fail
  go_ret2
  rw[hR.out];exact⟨rfl,HB2.out⟩
 case pos=>
 subst h0;obtain⟨hRe,hC⟩:=HE1.out rfl;have HC:=zH (hC w2);have hR:=zH hRe;clear HE0 HE1 hRe hC;go_wp2_with fail;refine HC.out.mono ?_;rintro e w3 ⟨rfl,hb3⟩;have HB3:=zH (Lc HB2.out hb3);clear hb3 HC HB2 p0 p1 p2 p3 p4 p5 p6 p7 p8 p9;go_wp2_with fail
 go_ret2
 rw[hR.out];exact⟨rfl,HB3.out⟩
theorem wJ(s:Sy)(K N:Nat)(hF:Fine s K N)(G:Nat)(hG:G<32)(set:List Bool)(hsl:set.length=ptn s)(A SV AV AX AB:Bb)(kc ks kv kx kb:Nat)(w:Ba)(hS:SyAt w w.heap.size A SV AV AX s)(hB0:BAt w w.heap.size AB set) :
  Calls Tryz.prog 28 #[.agg (s.vs_ A kc SV ks AV kv AX kx),.int .i64 (G:Int),.slice AB (ptn s) kb] w (xe (evL (ptn s) (yx s) (zL G N) set) w):=by
 obtain⟨w1,hw1,d0,hs1,hB⟩:=zn w (s.vs_ A kc SV ks AV kv AX kx) 35
 have hpn:ptn s<=700:=by
  have hk:=hF.k;have hk6:=hF.k6;have:=LO hF.lx (show s.p.k.toNat+1<=7 by omega);unfold ptn;omega
 have hn5:=hF.n5;have hTn:=hF.n;have hcl:∀q,(yx s q).length=ptn s:=fun q=>ZX s q
 have HOW:=zH (fun (q:Nat) (hq:q<N) (X:Ba) (hX:Below w1.heap.size w1 X)=>rown_any s K N hF q hq A SV AV AX kc ks kv kx X ((hS.up hB).up hX).fx);have HBX:Hid (∀X,Below w1.heap.size w1 X->BAt X X.heap.size AB set):=fun X hX=>(((hB0.keep hB).more hB.size).keep hX).more hX.size
 obtain⟨cls,hcls⟩:=Ki (yx s);obtain⟨n,hn⟩:=Ki (ptn s);rw[hcls] at HOW hcl ⊢;rw[hn] at hcl hpn hsl ⊢;have HIN:=zH (fun (q:Nat) (A:Bb) (c:Nat) (X:Ba) (hX:Below w1.heap.size w1 X) (hI:IAt X X.heap.size A (cls q))=>Jz A AB c kb n (by omega) (cls q) set (hcl q) hsl X hI (HBX.out X hX));have HAN:=zH (fun (g g':Nat) (a b:List Bool) (ha:a.length=n) (hb:b.length=n) (X:Ba) (r1:BRow X g a) (r2:BRow X g' b)=>vy (some ⟨g,0,none⟩) (some ⟨g',0,none⟩) n n n (by omega) a b ha hb X (r1.at_ r1.lt) (r2.at_ r2.lt));have HALL:=zH (fun (X:Ba)=>Zs n (by omega) X);unfold xe at HIN HAN HALL ⊢;simp only[yI,yr,List.length_replicate,xL] at HIN HAN HALL ⊢;unfold RetOw at HOW;simp only[hcl] at HOW;unfold Sy.vs_ at hw1 d0 HOW ⊢;rw[hTn] at hw1 d0 HOW ⊢;have HW1:=zH hw1;have HB:=zH hB;have HD0:=zH d0;have HDX:Hid (∀X,Below w1.heap.size w1 X->X.heap[w.heap.size]?=w1.heap[w.heap.size]?):=fun X hX=>hX.block _ (zj d0)
 obtain⟨p0,p1,p2,p3,p4,p5,p6,p7,p8,p9⟩:=zB (d0);clear hw1 d0 hB hS hB0 hF hcl hcls hn hTn;go_enter Tryz.func28,Tryz.ntmps28;go_wp2_with fail;rw[HW1.out];go_wp2_with fail;refine(HALL.out w1).mono ?_;rintro e w2 ⟨g2,rfl,hg2,hr2,hb2⟩;have HR2:Hid (BRow w2 g2 (evL n cls (zL G 0) set)):=hr2;have HB2:=zH hb2;clear hr2 hb2 HALL HW1 p0 p1 p2 p3 p4 p5 p6 p7 p8 p9;go_wp2_with fail
 go_loopw [7,8] (fun o i wr=>∃k g:Nat,k<=N/\i=.int .i64 (k:Int)/\o=.slice (some ⟨g,0,none⟩) n n/\w1.heap.size<=g/\Hid (BRow wr g (evL n cls (zL G k) set))/\Hid (Below w1.heap.size w1 wr)) (fun _ i _=>N-(intOf i).toNat)
 case atStart=>exact⟨0,g2,by omega,rfl,rfl,hg2,HR2,HB2⟩
 case round=>
  obtain⟨k,g,hk,rfl,rfl,hg,hr,hbw⟩:=hrel;clear HR2;have hwk:IntKind.i64.wrap ((k:Int)+1)=((k+1:Nat):Int):=by rw[Lp];omega
  have dd:=(HDX.out wr hbw.out).trans HD0.out;obtain⟨p0,p1,p2,p3,p4,p5,p6,p7,p8,p9⟩:=zB (dd);clear dd
  by_cases hlt:k<N
  . have hk1:(k:Int)<(N:Int):=by omega
    go_wp2_with fail;refine(uk G k hG (by omega) wr).mono ?_;rintro e w3 ⟨rfl,hw3⟩;obtain rfl:=hw3
    by_cases hbit:G.testBit k=true
    case neg=>
     have hbf:G.testBit k=false:=by simpa using hbit
     rw[hbf];have hE:zL G (k+1)=zL G k:=by rw[km,Lg hbit]
     have hr2:Hid (BRow wr g (evL n cls (zL G (k+1)) set)):=by rw[hE];exact hr
     clear hr hE hbit hbf;go_wp2_with fail
     go_roundw
     case rel=>exact⟨k+1,g,by omega,by go_num,rfl,hg,hr2,hbw⟩
     case measure=>simp[intOf];omega
    case pos=>
    rw[hbit];have HE:Hid (evL n cls (zL G (k+1)) set=qG n (evL n cls (zL G k) set) (xU n (cls k) set)):=by rw[Hid,km,Lh hbit,ZV]
    have HC:=zH (HOW.out k hlt wr hbw.out);clear hbit;go_wp2_with fail;refine HC.out.mono ?_;rintro e w3 ⟨A3,c3,rfl,ho3,hb3⟩;have hsz:=hbw.out.size;have HB3:=zH (hbw.out.trans (hb3.mono hsz));have hr3:BRow w3 g (evL n cls (zL G k) set):=Lb hb3 hr.out.lt hr.out;have HR3:=zH hr3;have HC2:=zH (HIN.out k A3 c3 w3 HB3.out (Qr ho3));clear hr hbw ho3 hb3 hr3 HC p0 p1 p2 p3 p4 p5 p6 p7 p8 p9;go_wp2_with fail;refine HC2.out.mono ?_;rintro e w4 ⟨g4,rfl,hg4,hr4,hb4⟩;have hsz3:=HB3.out.size;have HB4:=zH (HB3.out.trans (hb4.mono hsz3));have hrw:BRow w4 g (evL n cls (zL G k) set):=Lb hb4 HR3.out.lt HR3.out;have HC3:=zH (HAN.out g g4 _ _ (xL n cls set (zL G k)) (yI n (cls k) set) w4 hrw hr4);rw[<-HE.out] at HC3;clear hr4 hb4 hrw HC2 HR3 HB3;go_wp2_with fail;refine HC3.out.mono ?_;rintro e w5 ⟨g5,rfl,hg5,hr5,hb5⟩;have HR5:=zH hr5;have HB5:=zH (Lc HB4.out hb5);have hg5':w1.heap.size<=g5:=by have:=HB4.out.size;omega
    clear hr5 hb5 HC3 HB4;go_wp2_with fail
    go_roundw
    case rel=>exact⟨k+1,g5,by omega,by go_num,rfl,hg5',HR5,HB5⟩
    case measure=>simp[intOf];omega
  . obtain rfl:N=k:=by omega
    have hk1:¬(N:Int)<(N:Int):=by omega
    have hsz:=HB.out.size;have HBF:=zH (HB.out.trans (hbw.out.mono hsz));have hg':w.heap.size<=g:=by omega
    clear hbw;go_wp2_with fail;go_ret;exact⟨g,rfl,hg',hr.out,HBF.out⟩
theorem vY(s:Sy)(hs:LowS s)(hf:yR s.p)(g:Int)(set:List Bool)(_hsl:set.length<=1000000)(A SV AV AX AB:Bb)(kc ks kv kx kb:Nat)(w:Ba)(hS:SyAt w w.heap.size A SV AV AX s) :
  Calls Tryz.prog 21 #[.agg (s.vs_ A kc SV ks AV kv AX kx),.int .i64 g,.slice AB set.length kb] w fun e w'=>e=.returned (.int .i64 (zN s g set))/\Below w.heap.size w w':=by
 obtain⟨w1,hw1,d0,hs1,hB⟩:=zn w (s.vs_ A kc SV ks AV kv AX kx) 35;have HC:=zH (X6 s hs hf A SV AV AX kc ks kv kx w1 (hS.up hB))
 have HVF:Hid (zV s=0->∃N:Nat,s.n=(N:Int)/\N<=5/\j6 s=((ptn s:Int),0)/\ptn s<=700):=fun h=>by
  obtain⟨_,K,N,hF⟩:=yn hf h;have hk:=hF.k;have hk6:=hF.k6;have:=LO hF.lx (show s.p.k.toNat+1<=7 by omega);exact⟨N,hF.n,hF.n5,Lg (by simpa using h),by unfold ptn;omega⟩
 have HV0:Hid (zV s≠0->j6 s=(0,zV s)):=fun h=>Lh h
 have HE:Hid (zN s g set=if (if zV s≠0 then zV s else if g<0\/2^s.n.toNat<=g then 2 else 0)≠0 then (if zV s≠0 then zV s else if g<0\/2^s.n.toNat<=g then 2 else 0) else if set.length≠ptn s then 15 else 0):=rfl;obtain⟨E,hE⟩:=Ki (zN s g set);rw[hE] at HE ⊢;obtain⟨r,hr⟩:=Ki (zV s);rw[hr] at HE HVF HV0;obtain⟨R,hR⟩:=Ki (j6 s);rw[hR] at HC HVF HV0;obtain⟨m,hm⟩:=Ki set.length;rw[hm] at HE _hsl ⊢;unfold Sy.vs_ at hw1 d0 HC ⊢;have HW1:=zH hw1;have HB:=zH hB;have HD0:=zH d0;obtain⟨p0,p1,p2,p3,p4,p5,p6,p7,p8,p9⟩:=zB (d0);clear hw1 d0 hB hS hE hr hR hm hs hf;go_enter Tryz.func21,Tryz.ntmps21;go_wp2_with fail;rw[HW1.out];go_wp2_with fail;refine HC.out.mono ?_;rintro e w2 ⟨rfl,hb2⟩;have HB2:=zH (Lc HB.out hb2);have HD2:=zH (La hb2 HD0.out);clear HC HW1 hb2 p0 p1 p2 p3 p4 p5 p6 p7 p8 p9
 by_cases h0:r=0
 case neg=>
  have hRR:=HV0.out h0;rw[hRR];have e0:(r != 0)=true:=by simpa using h0
  have hEE:Hid (E=r):=by rw[Hid,HE.out,Lh h0,Lh h0]
  clear HE HVF HV0;go_wp2_with fail;go_ret;rw[hEE.out];exact⟨rfl,HB2.out⟩
 subst h0;obtain⟨N,hN,hN5,hRR,hp7⟩:=HVF.out rfl;rw[hRR]
 have HE:Hid (E=if (if g<0\/(2:Int)^N<=g then (2:Int) else 0)≠0 then (if g<0\/(2:Int)^N<=g then (2:Int) else 0) else if m≠ptn s then 15 else 0):=by
  have h:=HE.out;rw[hN,Ls,Lg (show ¬((0:Int)≠0) by simp)] at h;exact h
 obtain⟨n,hn⟩:=Ki (ptn s);rw[hn] at HE hp7 ⊢
 have h2b:(1:Int)<=(2:Int)^N/\(2:Int)^N<=32:=by
  obtain rfl | rfl | rfl | rfl | rfl | rfl:N=0\/N=1\/N=2\/N=3\/N=4\/N=5:=by omega
  all_goals decide
 have h2w:IntKind.i64.wrap ((2:Int)^N)=(2:Int)^N:=by rw[Lp];omega
 have hmn:min N 64=N:=by omega
 have q7:w2.cell? ⟨w.heap.size,7,none⟩=some (.int .i64 (N:Int)):=by rw[<-hN];exact zh HD2.out 7 rfl
 have l7:=zj HD2.out;clear HVF HV0 hRR hn hN h2b
 by_cases hg0:g<0
 . have e0:decide (g<0)=true:=Lk hg0
   have hx:(if g<0\/(2:Int)^N<=g then (2:Int) else 0)=2:=Lh (.inl hg0);have hEE:Hid (E=2):=by rw[Hid,HE.out,hx];exact Lh (by decide)
   clear HE;go_wp2_with fail;go_ret;rw[hEE.out];exact⟨rfl,HB2.out⟩
 have e0:decide (g<0)=false:=Li hg0
 by_cases hg1:(2:Int)^N<=g
 . have e1:decide (g>=(2:Int)^N)=true:=Lk hg1
   have hx:(if g<0\/(2:Int)^N<=g then (2:Int) else 0)=2:=Lh (.inr hg1);have hEE:Hid (E=2):=by rw[Hid,HE.out,hx];exact Lh (by decide)
   clear HE;go_wp2_with fail;go_ret;rw[hEE.out];exact⟨rfl,HB2.out⟩
 have e1:decide (g>=(2:Int)^N)=false:=Li (by omega)
 have HE:Hid (E=if m≠n then 15 else 0):=by
  have hx:(if g<0\/(2:Int)^N<=g then (2:Int) else 0)=0:=Lg (by omega);rw[Hid,HE.out,hx];exact Lg (by decide)
 by_cases hmn2:m=n
 . subst hmn2
   have e2:((m:Int) != (m:Int))=false:=by simp
   have hEE:Hid (E=0):=by rw[Hid,HE.out,Lg (by simp)]
   clear HE;go_wp2_with fail;go_ret;rw[hEE.out];exact⟨rfl,HB2.out⟩
 . have e2:((m:Int) != (n:Int))=true:=by simpa using(by omega:¬(m:Int)=(n:Int))
   have hEE:Hid (E=15):=by rw[Hid,HE.out,Lh hmn2]
   clear HE;go_wp2_with fail;go_ret;rw[hEE.out];exact⟨rfl,HB2.out⟩
theorem ZN{s:Sy}{g:Int}{set:List Bool}(hf:yR s.p)(h:zN s g set=0):∃K N G:Nat,Fine s K N/\g=(G:Int)/\G<2^N/\G<32/\set.length=ptn s/\psG s g=zL G N:=by
 obtain⟨h1,h2⟩:=vF h;obtain⟨hv,hg0,hg1⟩:=jq h1;obtain⟨_,K,N,hF⟩:=yn hf hv;obtain⟨G,rfl⟩:=Lr hg0;have hN:=hF.n
 have hG:G<2^N:=by
  rw[hN,Ls] at hg1;have h2:((2^N:Nat):Int)=(2:Int)^N:=by push_cast;rfl
  omega
 have h3:=Ni (n:=2) (by omega) hF.n5;refine⟨K,N,G,hF,rfl,hG,by omega,h2,?_⟩;unfold psG;rw[hN,Ls,Ls]
theorem Jt(A B:Bb)(ca cb:Nat)(a b:List Bool)(hl:a.length<=100000)(w:Ba)(hA:BAt w w.heap.size A a)(hB:BAt w w.heap.size B b) :
  Calls Tryz.prog 45 #[.slice A a.length ca,.slice B b.length cb] w fun e w'=>e=.returned (.bool (decide (a=b)))/\Below w.heap.size w w':=by
 obtain⟨n,hn⟩:=Ki a.length;obtain⟨m,hm⟩:=Ki b.length;have HA:=zH hA;have HB:=zH hB;have HN:=zH hn;have HM:=zH hm;rw[hn,hm];rw[hn] at hl;obtain⟨E,hE⟩:∃E,decide (a=b)=E:=⟨_,rfl⟩;have HE:=zH hE.symm;rw[hE];clear hA hB hn hm hE;go_enter Tryz.func45,Tryz.ntmps45
 by_cases hnm:n=m
 case neg=>
  have e0:((n:Int) != (m:Int))=true:=by simpa using(by omega:¬(n:Int)=(m:Int))
  have hEE:Hid (E=false):=by
   rw[Hid,HE.out];exact Li fun h=>hnm (by rw[<-HN.out,<-HM.out,h])
  go_wp2_with fail;go_ret;rw[hEE.out];exact⟨rfl,Lo _ _⟩
 subst hnm;have e0:((n:Int) != (n:Int))=false:=by simp
 go_wp2_with fail
 go_loopw [5] (fun i wr=>∃k:Nat,k<=n/\i=.int .i64 (k:Int)/\Hid (∀j (h1:j<a.length) (h2:j<b.length),j<k->a[j]=b[j])/\Hid (Below w.heap.size w wr)) (fun i _=>n-(intOf i).toNat)
 case atStart=>exact⟨0,by omega,rfl,fun j _ _ h=>absurd h (by omega),Lo _ _⟩
 case round=>
  obtain⟨k,hk,rfl,hs,hbr⟩:=hrel
  by_cases hlt:k<n
  . have hka:k<a.length:=by rw[HN.out];exact hlt
    have hkb:k<b.length:=by rw[HM.out];exact hlt
    obtain⟨b1,o1,rfl,hb1,z1⟩:=((HA.out.keep hbr.out).more hbr.out.size).at_ k hka;obtain⟨b2,o2,rfl,hb2,z2⟩:=((HB.out.keep hbr.out).more hbr.out.size).at_ k hkb;obtain⟨x,hx⟩:=Ki (a[k]'hka);obtain⟨y,hy⟩:=Ki (b[k]'hkb);rw[hx] at z1;rw[hy] at z2;have hk0:(0:Int)<=(k:Int):=by omega
    have hk1:(k:Int)<(n:Int):=by omega
    have hwk:IntKind.i64.wrap ((k:Int)+1)=((k+1:Nat):Int):=by rw[Lp];omega
    by_cases hxy:x=y
    . subst hxy
      have e1:(x != x)=false:=by simp
      have hs2:Hid (∀j (h1:j<a.length) (h2:j<b.length),j<k+1->a[j]=b[j]):=fun j h1 h2 h3=>by
       by_cases e:j=k
       . subst e;rw[hx,hy]
       . exact hs.out j h1 h2 (by omega)
      clear hx hy hs hka hkb;go_wp2_with fail;go_quiet (fail);go_wp2_with fail
      go_roundw
      case rel=>exact⟨k+1,by omega,by go_num,hs2,zT hbr.out _⟩
      case measure=>simp[intOf];omega
    . have e1:(x != y)=true:=by simpa using hxy
      have e2:(x==y)=false:=by simpa using hxy
      have e3:(!x==y)=true:=by rw[show(x==y)=false from e2];rfl
      have hEE:Hid (E=false):=by
       rw[Hid,HE.out];refine Li fun h=>hxy ?_
       rw[<-hx,<-hy];subst h;rfl
      clear hx hy hs hka hkb hxy;go_wp2_with fail;go_quiet (fail);go_wp2_with fail;go_ret;rw[hEE.out];exact⟨rfl,by first | exact hbr.out | exact zT hbr.out _⟩
  . obtain rfl:k=n:=by omega
    have hk1:¬(k:Int)<(k:Int):=by omega
    have hEE:Hid (E=true):=by
     rw[Hid,HE.out];refine Lk (N6 (by rw[HN.out,HM.out]) fun j h1 h2=>hs.out j h1 h2 (by rw[<-HN.out];exact h1))
    clear hs;go_wp2_with fail;go_ret;rw[hEE.out];exact⟨rfl,hbr.out⟩
theorem Xj(s:Sy)(K N:Nat)(hF:Fine s K N)(G:Nat)(hG:G<32)(set:List Bool)(hsl:set.length=ptn s)(M:Nat)(hMn:M<=ptn s)(hM:zP (ptn s) (evL (ptn s) (yx s) (zL G N)) set (M+1)=zP (ptn s) (evL (ptn s) (yx s) (zL G N)) set M)(hlt:∀m,m<M->zP (ptn s) (evL (ptn s) (yx s) (zL G N)) set (m+1)≠zP (ptn s) (evL (ptn s) (yx s) (zL G N)) set m)(A SV AV AX AB:Bb)(kc ks kv kx kb:Nat)(w:Ba)(hS:SyAt w w.heap.size A SV AV AX s)(hB0:BAt w w.heap.size AB set) :
  Calls Tryz.prog 22 #[.agg (s.vs_ A kc SV ks AV kv AX kx),.int .i64 (G:Int),.slice AB (ptn s) kb] w fun e w'=>∃g':Nat,e=.returned (.tuple #[.slice (some ⟨g',0,none⟩) (ptn s) (ptn s),.int .i64 (M:Int)])/\w.heap.size<=g'/\BRow w' g' (zP (ptn s) (evL (ptn s) (yx s) (zL G N)) set M)/\Below w.heap.size w w':=by
 obtain⟨w1,hw1,d0,hs1,hB⟩:=zn w (s.vs_ A kc SV ks AV kv AX kx) 35
 have hpn:ptn s<=700:=by
  have hk:=hF.k;have hk6:=hF.k6;have:=LO hF.lx (show s.p.k.toNat+1<=7 by omega);unfold ptn;omega
 have hBX:∀X,Below w1.heap.size w1 X->BAt X X.heap.size AB set:=fun X hX=>(((hB0.keep hB).more hB.size).keep hX).more hX.size
 have HEV:=zH (fun (g:Nat) (a:List Bool) (ha:a.length=ptn s) (X:Ba) (hX:Below w1.heap.size w1 X) (hr:BRow X g a)=>wJ s K N hF G hG a ha A SV AV AX (some ⟨g,0,none⟩) kc ks kv kx (ptn s) X ((hS.up hB).up hX) (hr.at_ hr.lt));obtain⟨cls,hcls⟩:=Ki (yx s);obtain⟨n,hn⟩:=Ki (ptn s);rw[hcls] at HEV hM ⊢;simp only[hcls] at hlt;rw[hn] at HEV hM hMn hpn hsl ⊢;simp only[hn] at hlt;obtain⟨ps,hps⟩:=Ki (zL G N);rw[hps] at HEV hM ⊢;simp only[hps] at hlt;have HAN:=zH (fun (g:Nat) (b:List Bool) (hb:b.length=n) (X:Ba) (hX:Below w1.heap.size w1 X) (r2:BRow X g b)=>vy AB (some ⟨g,0,none⟩) kb n n (by omega) set b hsl hb X (hBX X hX) (r2.at_ r2.lt));have HALL:=zH (fun (X:Ba)=>Zs n (by omega) X);have HSM:=zH (fun (g g':Nat) (a b:List Bool) (ha:a.length=n) (hb:b.length=n) (X:Ba) (r1:BRow X g a) (r2:BRow X g' b)=>(by have:=Jt (some ⟨g,0,none⟩) (some ⟨g',0,none⟩) n n a b (by omega) X (r1.at_ r1.lt) (r2.at_ r2.lt);rw[ha,hb] at this;exact this:Calls Tryz.prog 45 #[.slice (some ⟨g,0,none⟩) n n,.slice (some ⟨g',0,none⟩) n n] X fun e w'=>e=.returned (.bool (decide (a=b)))/\Below X.heap.size X w'));unfold xe at HEV HAN HALL;simp only[yr,List.length_replicate,xL] at HEV HAN HALL;have HM:=zH hM;have HLT:=zH hlt;have HNL:Hid (∀m,(zP n (evL n cls ps) set m).length=n):=xp;have HST:Hid (∀m,zP n (evL n cls ps) set (m+1)=evL n cls ps (qG n set (zP n (evL n cls ps) set m))):=fun _=>rfl
 unfold Sy.vs_ at hw1 d0 HEV ⊢;have HW1:=zH hw1;have HB:=zH hB;have HDX:Hid (∀X,Below w1.heap.size w1 X->X.heap[w.heap.size]?=some (.cells #[.int .i64 s.p.t.n,.int .i64 s.p.t.ins,.int .i64 s.p.t.outs,.slice A s.p.t.cases.length kc,.int .i64 s.p.a.n,.slice SV s.p.a.sts.length ks,.int .i64 s.p.k,.int .i64 s.n,.slice AV s.vs.length kv,.slice AX s.xs.length kx] 35 (0,0))):=fun X hX=>La hX d0
 obtain⟨p0,p1,p2,p3,p4,p5,p6,p7,p8,p9⟩:=zB (d0);clear hw1 d0 hB hS hB0 hF hcls hn hps hM hlt hBX hsl;go_enter Tryz.func22,Tryz.ntmps22;go_wp2_with fail;rw[HW1.out];go_wp2_with fail;refine(HALL.out w1).mono ?_;rintro e w2 ⟨g2,rfl,hg2,hr2,hb2⟩;have HR2:Hid (BRow w2 g2 (zP n (evL n cls ps) set 0)):=hr2;have HB2:=zH hb2;clear hr2 hb2 HALL HW1 p0 p1 p2 p3 p4 p5 p6 p7 p8 p9;go_wp2_with fail
 go_loopw [8,9] (fun o i wr=>∃m g:Nat,m<=M/\i=.int .i64 (m:Int)/\o=.slice (some ⟨g,0,none⟩) n n/\w1.heap.size<=g/\Hid (BRow wr g (zP n (evL n cls ps) set m))/\Hid (Below w1.heap.size w1 wr)) (fun _ i _=>M-(intOf i).toNat)
 case atStart=>exact⟨0,g2,by omega,rfl,rfl,hg2,HR2,HB2⟩
 case round=>
  obtain⟨m,g,hm,rfl,rfl,hg,hr,hbw⟩:=hrel;clear HR2;have hwm:IntKind.i64.wrap ((m:Int)+1)=((m+1:Nat):Int):=by rw[Lp];omega
  have HC1:=zH (HAN.out g _ (HNL.out m) wr.drew hbw.out.drew hr.out);go_upto_region 4 with fail
  refine zz [(0,true),(1,true),(2,true),(3,true),(4,false),(5,false),(6,true)] (fun X=>X.heap[w.heap.size]?=some (.cells #[.int .i64 s.p.t.n,.int .i64 s.p.t.ins,.int .i64 s.p.t.outs,.slice A s.p.t.cases.length kc,.int .i64 s.p.a.n,.slice SV s.p.a.sts.length ks,.int .i64 s.p.k,.int .i64 s.n,.slice AV s.vs.length kv,.slice AX s.xs.length kx] 35 (0,0))) (by kernel_rfl) (by kernel_rfl) (HDX.out _ hbw.out.drew) ?_
  repeat
   apply zG rfl
   . rintro K' hK' X u
     obtain⟨p0,p1,p2,p3,p4,p5,p6,p7,p8,p9⟩:=zB (u);clear u;go_simp;exact hK'
  refine zE rfl ?_;intro K' hK';go_simp;refine HC1.out.mono ?_;rintro e w4 ⟨g4,rfl,hg4,hr4,hb4⟩;have G4:Hid (Below w1.heap.size w1 w4):=hbw.out.drew.trans (hb4.mono hbw.out.size);have HC2:=zH (HEV.out g4 _ (yr n set _) w4 G4.out hr4);have hr5:Hid (BRow w4 g (zP n (evL n cls ps) set m)):=Lb hb4 hr.out.lt hr.out;refine hK' _ _ (HDX.out _ G4.out) ?_;clear hK' K' hb4 hr4 HC1;refine zE rfl ?_;intro K' hK';go_simp;refine HC2.out.mono ?_;rintro e w6 ⟨g6,rfl,hg6,hr6,hb6⟩;have G6:Hid (Below w1.heap.size w1 w6):=Lc G4.out hb6;rw[<-HST.out m] at hr6;have hr7:Hid (BRow w6 g (zP n (evL n cls ps) set m)):=Lb hb6 hr5.out.lt hr5.out;have HR6:=zH hr6;have HC3:=zH (HSM.out g6 g _ _ (HNL.out (m+1)) (HNL.out m) w6 hr6 hr7.out);have hg7:w1.heap.size<=g6:=by have:=G4.out.size;omega
  refine hK' _ _ (HDX.out _ G6.out) ?_;clear hK' K' hb6 hr6 HC2 hr5
  repeat
   apply zG rfl
   . rintro K' hK' X u
     clear u;go_simp;exact hK'
  refine zQ ?_;go_wp2_with fail;refine HC3.out.mono ?_;rintro e w8 ⟨rfl,hb8⟩;have G8:=zH (Lc G6.out hb8);have hr8:Hid (BRow w8 g (zP n (evL n cls ps) set m)):=Lb hb8 hr7.out.lt hr7.out;have hr9:Hid (BRow w8 g6 (zP n (evL n cls ps) set (m+1))):=Lb hb8 HR6.out.lt HR6.out;clear hb8 HC3 hr7 HR6 hr hbw
  by_cases hmM:m<M
  . have he:decide (zP n (evL n cls ps) set (m+1)=zP n (evL n cls ps) set m)=false:=Li (HLT.out m hmM)
    rw[he];clear he hr8;go_wp2_with fail
    go_roundw
    case rel=>exact⟨m+1,g6,by omega,by go_num,rfl,hg7,hr9,G8⟩
    case measure=>simp[intOf];omega
  . obtain rfl:m=M:=by omega
    have he:decide (zP n (evL n cls ps) set (m+1)=zP n (evL n cls ps) set m)=true:=Lk HM.out;rw[he];have hg8:w.heap.size<=g:=by have:=HB.out.size;omega
    have HBF:=zH (Lc HB.out G8.out);clear he hr9;go_wp2_with fail
    go_ret2
    exact⟨g,rfl,hg8,hr8.out,HBF.out⟩
theorem Yf(s:Sy)(hs:LowS s)(hf:yR s.p)(g:Int)(set:List Bool)(hsl:set.length<=1000000)(A SV AV AX AB:Bb)(kc ks kv kx kb:Nat)(w:Ba)(hS:SyAt w w.heap.size A SV AV AX s)(hB0:BAt w w.heap.size AB set) :
  Calls Tryz.prog 7 #[.agg (s.vs_ A kc SV ks AV kv AX kx),.int .i64 g,.slice AB set.length kb] w (Xd s g set w):=by
 obtain⟨w1,hw1,d0,hs1,hB⟩:=zn w (s.vs_ A kc SV ks AV kv AX kx) 35;have HC:=zH (vY s hs hf g set hsl A SV AV AX AB kc ks kv kx kb w1 (hS.up hB))
 have HEV:=zH (fun (h:zN s g set=0)=>(by
  obtain⟨K,N,G,hF,rfl,hG,hG32,hl,hps⟩:=ZN hf h;obtain⟨M,m1,m2,m3⟩:=kY (F:=zP (ptn s) (evL (ptn s) (yx s) (psG s (G:Int))) set) xp qT;refine⟨M,m1,m2,m3,fun X hX=>?_⟩;have h2:=m2;have h3:=m3;unfold evG;rw[hps] at h2 h3 ⊢;rw[hl]
  exact Xj s K N hF G hG32 set hl M m1 h2 h3 A SV AV AX AB kc ks kv kx kb X ((hS.up hB).up hX) ((((hB0.keep hB).more hB.size).keep hX).more hX.size):∃M,M<=ptn s/\zP (ptn s) (evG s g) set (M+1)=zP (ptn s) (evG s g) set M/\(∀m,m<M->zP (ptn s) (evG s g) set (m+1)≠zP (ptn s) (evG s g) set m)/\∀(X:Ba),Below w1.heap.size w1 X->Calls Tryz.prog 22 #[.agg (s.vs_ A kc SV ks AV kv AX kx),.int .i64 g,.slice AB set.length kb] X fun e w'=>∃g':Nat,e=.returned (.tuple #[.slice (some ⟨g',0,none⟩) (ptn s) (ptn s),.int .i64 (M:Int)])/\X.heap.size<=g'/\BRow w' g' (zP (ptn s) (evG s g) set M)/\Below X.heap.size X w'))
 obtain⟨r,hr⟩:=Ki (zN s g set);unfold Xd;rw[hr] at HC HEV ⊢;obtain⟨n,hn⟩:=Ki (ptn s);rw[hn] at HEV ⊢;unfold Sy.vs_ at hw1 d0 HC HEV ⊢;have HW1:=zH hw1;have HB:=zH hB;have HDX:Hid (∀X,Below w1.heap.size w1 X->X.heap[w.heap.size]?=some (.cells #[.int .i64 s.p.t.n,.int .i64 s.p.t.ins,.int .i64 s.p.t.outs,.slice A s.p.t.cases.length kc,.int .i64 s.p.a.n,.slice SV s.p.a.sts.length ks,.int .i64 s.p.k,.int .i64 s.n,.slice AV s.vs.length kv,.slice AX s.xs.length kx] 35 (0,0))):=fun X hX=>La hX d0
 obtain⟨p0,p1,p2,p3,p4,p5,p6,p7,p8,p9⟩:=zB (d0);clear hw1 d0 hB hS hB0 hr hn hs hf;go_enter Tryz.func7,Tryz.ntmps7;go_wp2_with fail;rw[HW1.out];go_wp2_with fail;refine HC.out.mono ?_;rintro e w2 ⟨rfl,hb2⟩;have G2:=zH hb2;have HB2:=zH (Lc HB.out hb2);clear HC HW1 hb2 p0 p1 p2 p3 p4 p5 p6 p7 p8 p9
 by_cases h0:r=0
 case neg=>
  have e0:(r != 0)=true:=by simpa using h0
  clear HEV;go_wp2_with fail
  go_ret3
  exact⟨HB2.out,.inl ⟨h0,rfl⟩⟩
 subst h0;obtain⟨M,m1,m2,m3,hc⟩:=HEV.out rfl;have HCC:=zH (hc w2 G2.out);have HM:=zH (And.intro m1 (And.intro m2 m3));obtain⟨p0,p1,p2,p3,p4,p5,p6,p7,p8,p9⟩:=zB (HDX.out _ G2.out);clear HEV hc m1 m2 m3;go_wp2_with fail;refine HCC.out.mono ?_;rintro e w3 ⟨g3,rfl,hg3,hr3,hb3⟩;have HR3:=zH hr3;have HB3:=zH (Lc HB2.out hb3);have hgw:w.heap.size<=g3:=by have:=HB2.out.size;omega
 clear hr3 hb3 HCC p0 p1 p2 p3 p4 p5 p6 p7 p8 p9;go_wp2_with fail
 go_ret3
 exact⟨HB3.out,M,g3,rfl,HM.out.1,HM.out.2.1,HM.out.2.2,hgw,HR3.out⟩
end
section
open Go.RowKit Go.Shelf
attribute [local go_sem] Oper.semAt_some
section
variable {n:Nat} {cls:Nat->List Int} {ps:List Nat}
theorem out_now{set:List Bool}(hs:set.length=n){i:Nat}(hi:i<n){m:Nat}(h:(ya n (evL n cls ps) set m).getD i false=true):(yf n (evL n cls ps) set m).getD i 0=(m:Int)-1:=by
 have h1:=(JM (cls:=cls) (ps:=ps) (set:=set) hi m).2
 cases m with
 | zero=>
  have h2:=(JM (cls:=cls) (ps:=ps) (set:=set) hi 0).1;omega
 | succ k=>
  have h2:=(out_ge (cls:=cls) (ps:=ps) hs hi (k+1) k).2 ⟨by omega,QE hs (by omega) h⟩;omega
theorem YJ{set:List Bool}{M:Nat}(hM:ya n (evL n cls ps) set (M+1)=ya n (evL n cls ps) set M){i:Nat}(hi:i<n)(h:(ya n (evL n cls ps) set M).getD i false=false):∀d,(yf n (evL n cls ps) set (M+d)).getD i 0=(yf n (evL n cls ps) set M).getD i 0
 | 0=>rfl
 | d+1=>by
  show(yf n (evL n cls ps) set (M+d+1)).getD i 0=_;rw[yf,zt (by simpa using hi),LZ,Nb,uQ hM d,h,Lg (by simp)];exact YJ hM hi h d
theorem out_top{set:List Bool}{M:Nat}(hM:ya n (evL n cls ps) set (M+1)=ya n (evL n cls ps) set M)(hMn:M<=n):yf n (evL n cls ps) set (n+1)=jb n (evL n cls ps) set M:=by
 apply N6 (by rw[ua];simp[jb]);intro i h1 h2;have hi:i<n:=by rw[ua] at h1;exact h1
 have e1:(yf n (evL n cls ps) set (n+1)).getD i 0=(jb n (evL n cls ps) set M).getD i 0:=by
  have e2:(jb n (evL n cls ps) set M).getD i 0=if (ya n (evL n cls ps) set M).getD i false then (n:Int) else (yf n (evL n cls ps) set M).getD i 0:=by
   unfold jb;rw[zt (by simpa using hi),LZ,Nb]
  rw[e2,yf,zt (by simpa using hi),LZ,Nb,lev_up hM hMn]
  cases hl:(ya n (evL n cls ps) set M).getD i false with
  | true=>rw[Lh rfl,Lh rfl]
  | false=>
   rw[Lg (by simp),Lg (by simp)];have:=YJ hM hi hl (n-M);rwa[show M+(n-M)=n by omega] at this
 rwa[zt h1,zt h2] at e1
end
theorem Ye(s:Sy)(hs:LowS s)(hf:yR s.p)(g:Int)(set:List Bool)(hsl:set.length<=1000000)(A SV AV AX AB:Bb)(kc ks kv kx kb:Nat)(w:Ba)(hS:SyAt w w.heap.size A SV AV AX s)(hB0:BAt w w.heap.size AB set) :
  Calls Tryz.prog 9 #[.agg (s.vs_ A kc SV ks AV kv AX kx),.int .i64 g,.slice AB set.length kb] w (Xc s g set w):=by
 obtain⟨w1,hw1,d0,hs1,hB⟩:=zn w (s.vs_ A kc SV ks AV kv AX kx) 35;have HC:=zH (vY s hs hf g set hsl A SV AV AX AB kc ks kv kx kb w1 (hS.up hB))
 have HEV:=zH (fun (h:zN s g set=0)=>(by
  obtain⟨K,N,G,hF,rfl,hG,hG32,hl,hps⟩:=ZN hf h;obtain⟨_,_,_,_,hn1,hn7,_⟩:=xE hf h;obtain⟨M,m1,m2,m3⟩:=kY (F:=ya (ptn s) (evL (ptn s) (yx s) (psG s (G:Int))) set) (kN hl) (jc hl);refine⟨M,m2,m3,hl,hn1,hn7,kN hl,fun m j hj h=>out_now hl hj h,out_top m2 m1,fun a ha AQ cQ X hX hBX=>?_⟩;unfold evG;rw[hps];have:=wJ s K N hF G hG32 a ha A SV AV AX AQ kc ks kv kx cQ X ((hS.up hB).up hX) hBX;unfold xe at this
  rwa[xL] at this:∃M,ya (ptn s) (evG s g) set (M+1)=ya (ptn s) (evG s g) set M/\(∀m,m<M->ya (ptn s) (evG s g) set (m+1)≠ya (ptn s) (evG s g) set m)/\set.length=ptn s/\1<=ptn s/\ptn s<=700/\(∀m,(ya (ptn s) (evG s g) set m).length=ptn s)/\(∀m j,j<ptn s->(ya (ptn s) (evG s g) set m).getD j false=true->(yf (ptn s) (evG s g) set m).getD j 0=(m:Int)-1)/\yf (ptn s) (evG s g) set (ptn s+1)=jb (ptn s) (evG s g) set M /\
   ∀(a:List Bool) (ha:a.length=ptn s) (AQ:Bb) (cQ:Nat) (X:Ba),Below w1.heap.size w1 X->BAt X X.heap.size AQ a->Calls Tryz.prog 28 #[.agg (s.vs_ A kc SV ks AV kv AX kx),.int .i64 g,.slice AQ (ptn s) cQ] X fun e w'=>∃g':Nat,e=.returned (.slice (some ⟨g',0,none⟩) (ptn s) (ptn s))/\X.heap.size<=g'/\BRow w' g' (evG s g a)/\Below X.heap.size X w'))
 have HEL:Hid (∀x,(evG s g x).length=ptn s):=fun x=>xL _ _ _ _
 have HBA:Hid (∀X,Below w1.heap.size w1 X->BAt X X.heap.size AB set):=fun X hX=>(((hB0.keep hB).more hB.size).keep hX).more hX.size
 obtain⟨r,hr⟩:=Ki (zN s g set);unfold Xc;rw[hr] at HC HEV ⊢;obtain⟨n,hn⟩:=Ki (ptn s);rw[hn] at HEV HEL ⊢;obtain⟨EV,hEV⟩:=Ki (evG s g);rw[hEV] at HEV HEL ⊢;have HST:Hid (∀m,qG n (ya n EV set m) (EV (ya n EV set m))=ya n EV set (m+1)):=fun _=>rfl
 have HOL:Hid (∀m,(yf n EV set m).length=n):=fun m=>ua _ _ _ m
 have HON:Hid (∀k j,j<n->(yf n EV set (k+1)).getD j 0=if (ya n EV set k).getD j false then (k:Int) else (yf n EV set k).getD j 0):=fun k j h=>by
  rw[yf,yL (by simpa using h),LZ,Nb]
 have HL0:Hid (ya n EV set 0=set):=rfl;have HO0:Hid (yf n EV set 0=List.replicate n (-1)):=rfl;unfold Sy.vs_ at hw1 d0 HC HEV ⊢;have HW1:=zH hw1;have HB:=zH hB;have HDX:Hid (∀X,Below w1.heap.size w1 X->X.heap[w.heap.size]?=some (.cells #[.int .i64 s.p.t.n,.int .i64 s.p.t.ins,.int .i64 s.p.t.outs,.slice A s.p.t.cases.length kc,.int .i64 s.p.a.n,.slice SV s.p.a.sts.length ks,.int .i64 s.p.k,.int .i64 s.n,.slice AV s.vs.length kv,.slice AX s.xs.length kx] 35 (0,0))):=fun X hX=>La hX d0
 obtain⟨p0,p1,p2,p3,p4,p5,p6,p7,p8,p9⟩:=zB (d0);clear hw1 d0 hB hS hB0 hr hn hEV hs hf;go_enter Tryz.func9,Tryz.ntmps9;go_wp2_with fail;rw[HW1.out];go_wp2_with fail;refine HC.out.mono ?_;rintro e w2 ⟨rfl,hb2⟩;have G2:=zH hb2;have HB2:=zH (Lc HB.out hb2);clear HC HW1 hb2 p0 p1 p2 p3 p4 p5 p6 p7 p8 p9
 by_cases h0:r=0
 case neg=>
  have e0:(r != 0)=true:=by simpa using h0
  clear HEV;go_wp2_with fail
  go_ret2
  exact⟨HB2.out,.inl ⟨h0,rfl⟩⟩
 subst h0;obtain⟨M,m2,m3,hl,hn1,hn7,hLL,hon,htop,hc⟩:=HEV.out rfl;have HCC:=zH hc;have HM:=zH (And.intro m2 m3);have HLL:=zH hLL;have HNOW:=zH hon;have HTOP:=zH htop;have HSL:=zH hl;have hmk:=uO n (by omega);obtain⟨ar,har⟩:∃ar:List Value,(List.replicate n 0).map (Value.int .i64)=ar:=⟨_,rfl⟩;rw[har] at hmk;have HAR:=zH har;rw[hl];clear HEV hc m2 m3 hl hLL hon htop har;go_upto_region 5 with fail
 obtain⟨w3,hw3,d3,hs3,hB3⟩:=zn w2 ar.toArray 3;rw[hw3]
 have HR3:Hid (RowAt w3 w2.heap.size (List.replicate n 0)):=by
  show RowAt w3 w2.heap.size (List.replicate n 0);unfold RowAt;rw[HAR.out];exact d3
 have G3:=zH (Lc G2.out hB3);have HS3:=zH hB3;have hg10:w1.heap.size<=w2.heap.size:=G2.out.size;clear hw3 d3 hB3 hmk HAR;obtain⟨g10,hg⟩:=Ki w2.heap.size;rw[hg] at HR3 HS3 hs3 hg10 ⊢;obtain⟨nw,hnwE⟩:=Ki (yf n EV set 0);have HNL:Hid (nw.length=n):=by rw[<-hnwE];exact HOL.out 0
 have HNW:Hid (∀(j:Nat) (h:j<n),nw[j]'(by rw[HNL.out];exact h)=-1):=fun j h=>by
  have e:=hnwE;rw[HO0.out] at e;subst e;exact List.getElem_replicate ..
 have HNWE:=zH hnwE;clear hnwE;go_wp2_with fail
 go_loopw [10] (fun i wr=>∃j:Nat,j<=n/\i=.int .i64 (j:Int)/\Hid (RowAt wr g10 (ku nw (List.replicate n 0) j))/\Hid (Below g10 w3 wr)) (fun i _=>n-(intOf i).toNat)
 case atStart=>exact⟨0,by omega,rfl,by rw[jU];exact HR3,Lo _ _⟩
 case round=>
  obtain⟨j,hj,rfl,hrow,hbj⟩:=hrel;clear HR3;have hwj:IntKind.i64.wrap ((j:Int)+1)=((j+1:Nat):Int):=by rw[Lp];omega
  by_cases hlt:j<n
  . have hkb:j<(List.replicate n (0:Int)).length:=by rw[LB];exact hlt
    have hab:nw.length=(List.replicate n (0:Int)).length:=by rw[HNL.out,LB]
    have hml:=kM hab j;have y0:=hrow.out.cell j (by rw[hml];exact hkb);have f0:=hrow.out.froz j;have hlr:=hrow.out.lt;rw[ue hab hkb,List.getElem_replicate] at y0;have hj0:(0:Int)<=(j:Int):=by omega
    have hj1:(j:Int)<(n:Int):=by omega
    have hnw:=HNW.out j hlt;have hset:=hrow.out.set j (-1);have hms:=jw hab hkb;rw[hnw] at hms;rw[hms] at hset;have HROW:=zH hset;have HBJ:=zH (hbj.out.setCell (p:=⟨g10,j,none⟩) (by show g10<=g10;omega) (.int .i64 (-1)));clear hset hms hnw hrow hbj hml hab hkb;go_wp2_with fail
    go_roundw
    case rel=>exact⟨j+1,by omega,by go_num,HROW,HBJ⟩
    case measure=>simp[intOf];omega
  . obtain rfl:n=j:=by omega
    have hj1:¬(n:Int)<(n:Int):=by omega
    have HRO:Hid (RowAt wr g10 (yf n EV set 0)):=by rw[HNWE.out];have h:=hrow.out;rwa[uf (by rw[HNL.out,LB]) (by rw[LB])] at h
    have G4:Hid (Below w1.heap.size w1 wr):=G3.out.trans (hbj.out.mono (by rw[<-hg];exact G3.out.size |> fun _=>G2.out.size));have HBA4:Hid (BAt wr wr.heap.size AB (ya n EV set 0)):=by rw[HL0.out];exact HBA.out _ G4.out
    clear hrow hbj HNW HNWE HNL HBA HL0 HO0 G3 HS3 hwj;obtain⟨LV,hLV⟩:=Ki (ya n EV set);rw[hLV] at HBA4 HLL HST HON HM HNOW;go_wp2_with fail
    go_loopw [11,12] (fun o i wr=>∃(k:Nat) (AQ:Bb) (cQ:Nat),k<=n+1/\i=.int .i64 (k:Int)/\o=.slice AQ n cQ/\Hid (BAt wr wr.heap.size AQ (LV k))/\Hid (RowAt wr g10 (yf n EV set k))/\Hid (Below w1.heap.size w1 wr)) (fun _ i _=>n+1-(intOf i).toNat)
    case atStart=>exact⟨0,AB,kb,by omega,rfl,rfl,HBA4,HRO,G4⟩
    case round=>
     obtain⟨k,AQ,cQ,hk,rfl,rfl,hba,hro,hbw⟩:=hrel;clear HBA4 HRO G4;have hwk:IntKind.i64.wrap ((k:Int)+1)=((k+1:Nat):Int):=by rw[Lp];omega
     have hwm:IntKind.i64.wrap ((k:Int)-1)=(k:Int)-1:=by rw[Lp];omega
     by_cases hkn:k<=n
     case neg=>
      obtain rfl:k=n+1:=by omega
      have hk1:¬((n+1:Nat):Int)<=(n:Int):=by omega
      have hk2:¬(n:Int)+1<=(n:Int):=by omega
      have HROW:Hid (RowAt wr g10 (jb n EV set M)):=by rw[<-HTOP.out];exact hro
      have HBE:=zH (Lc HB.out hbw.out);have hgw:w.heap.size<=g10:=by have:=HB.out.size;omega
      clear hba hro hbw hwk hwm;go_wp2_with fail
      go_ret2
      exact⟨HBE.out,M,g10,rfl,HM.out.1,HM.out.2,hgw,HROW.out⟩
     have hk1:(k:Int)<=(n:Int):=by omega
     have HBQ:Hid (∃bq oq,AQ=some ⟨bq,oq,none⟩/\bq<wr.heap.size/\bq≠g10):=by
      obtain⟨bq,oq,e,hbq,zq⟩:=hba.out.at_ 0 (by rw[HLL.out];omega);exact⟨bq,oq,e,hbq,row_ne hro.out zq⟩
     obtain⟨nw,hnwE⟩:=Ki (yf n EV set (k+1));have HNL:Hid (nw.length=n):=by rw[<-hnwE];exact HOL.out (k+1)
     have HNW:Hid (∀j,j<n->nw.getD j 0=if (LV k).getD j false then (k:Int) else (yf n EV set k).getD j 0):=fun j h=>by
      subst hnwE;exact HON.out k j h
     have HNWE:=zH hnwE;clear hnwE;go_wp2_with fail;obtain⟨wL,rfl⟩:∃x,x=wr:=⟨_,rfl⟩
     go_loopw [13] (fun i wr=>∃j:Nat,j<=n/\i=.int .i64 (j:Int)/\Hid (RowAt wr g10 (ku nw (yf n EV set k) j))/\Hid (∀z,z≠g10->wr.heap[z]?=wL.heap[z]?)/\Hid (Below w1.heap.size wL wr)/\wL.heap.size<=wr.heap.size) (fun i _=>n-(intOf i).toNat)
     case atStart=>exact⟨0,by omega,rfl,by rw[jU];exact hro,fun _ _=>rfl,Lo _ _,Le _⟩
     case round=>
      obtain⟨j,hj,rfl,hrow,hoth,hbj,hsj⟩:=hrel;clear hro;have hwj:IntKind.i64.wrap ((j:Int)+1)=((j+1:Nat):Int):=by rw[Lp];omega
      by_cases hlt:j<n
      . obtain⟨b1,o1,e1,hb1,z0⟩:=hba.out.at_ j (by rw[HLL.out];exact hlt)
        have hne1:b1≠g10:=by
         obtain⟨bq,oq,e,_,hne⟩:=HBQ.out;rw[e1] at e
         cases e
         exact hne
        have z0:=(LA (hoth.out b1 hne1)).trans z0;have hnw:=HNW.out j hlt;have hkb:j<(yf n EV set k).length:=by rw[HOL.out];exact hlt
        have hab:nw.length=(yf n EV set k).length:=by rw[HNL.out,HOL.out]
        have hod:=HNOW.out k j hlt;rw[zt (by rw[HLL.out];exact hlt),yL hkb] at hod;rw[yL (by rw[hab];exact hkb),zt (by rw[HLL.out];exact hlt),yL hkb] at hnw;have hml:=kM hab j;have y0:=hrow.out.cell j (by rw[hml];exact hkb);have f0:=hrow.out.froz j;have hlr:=hrow.out.lt;rw[ue hab hkb] at y0;have hj0:(0:Int)<=(j:Int):=by omega
        have hj1:(j:Int)<(n:Int):=by omega
        have HE1:=zH e1;obtain⟨x,hx⟩:=Ki ((LV k)[j]'(by rw[HLL.out];exact hlt));rw[hx] at z0 hnw hod;obtain⟨ol,hol⟩:=Ki ((yf n EV set k)[j]'hkb);rw[hol] at hnw y0 hod;rw[e1]
        cases x with
        | true=>
         rw[Lh rfl] at hnw;rw[hod rfl] at y0;have hset:=hrow.out.set j (k:Int);rw[<-hnw,jw hab hkb,hnw] at hset;have HROW:=zH hset;have HOTH:Hid (∀z,z≠g10->(wr.setCell ⟨g10,j,none⟩ (.int .i64 (k:Int))).heap[z]?=wL.heap[z]?):=fun z hz=>(Lf wr ⟨g10,j,none⟩ _ z hz).trans (hoth.out z hz)
         have HBJ:=zH (hbj.out.setCell (p:=⟨g10,j,none⟩) (by show w1.heap.size<=g10;exact hg10) (.int .i64 (k:Int)));have HSJ:wL.heap.size<=(wr.setCell ⟨g10,j,none⟩ (.int .i64 (k:Int))).heap.size:=by simpa[World.setCell] using hsj
         clear hset hnw hrow hoth hbj hsj hml hab hkb hx hol hod e1;go_wp2_with fail
         go_roundw
         case rel=>exact⟨j+1,by omega,by go_num,HROW,HOTH,HBJ,HSJ⟩
         case measure=>simp[intOf];omega
        | false=>
         rw[Lg (by simp)] at hnw;have HROW:Hid (RowAt wr g10 (ku nw (yf n EV set k) (j+1))):=by rw[<-uM hab hkb (by rw[hnw,hol])];exact hrow
         clear hnw hrow hml hab hkb hx hol hod e1;go_wp2_with fail
         go_roundw
         case rel=>exact⟨j+1,by omega,by go_num,HROW,hoth,hbj,hsj⟩
         case measure=>simp[intOf];omega
      . obtain rfl:n=j:=by omega
        have hj1:¬(n:Int)<(n:Int):=by omega
        have HROW:Hid (RowAt wr g10 (yf n EV set (k+1))):=by rw[HNWE.out];have h:=hrow.out;rwa[uf (by rw[HNL.out,HOL.out]) (by rw[HOL.out])] at h
        have HBQ2:Hid (BAt wr wr.heap.size AQ (LV k)):=fun h0=>by
         obtain⟨b1,o1,e1,hb1,hz⟩:=hba.out h0;obtain⟨bq,oq,e,_,hne⟩:=HBQ.out;rw[e1] at e
         cases e
         exact⟨b1,o1,e1,by omega,fun i hi=>(LA (hoth.out b1 hne)).trans (hz i hi)⟩
        have G5:=zH (hbw.out.trans hbj.out);have HC1:=zH (HCC.out (LV k) (HLL.out k) AQ cQ wr G5.out HBQ2.out);obtain⟨p0,p1,p2,p3,p4,p5,p6,p7,p8,p9⟩:=zB (HDX.out _ G5.out);clear hrow hoth hbj HNW HNL HNWE hba hbw HBQ hwj;go_wp2_with fail;refine HC1.out.mono ?_;rintro e w5 ⟨g5,rfl,hg5,hr5,hb5⟩;have HBQ3:Hid (BAt w5 w5.heap.size AQ (LV k)):=(HBQ2.out.keep hb5).more hb5.size;have HRO5:Hid (RowAt w5 g10 (yf n EV set (k+1))):=Lb hb5 HROW.out.lt HROW.out;have G6:=zH (Lc G5.out hb5);have hc6:=vy AQ (some ⟨g5,0,none⟩) cQ n n (by omega) (LV k) (EV (LV k)) (HLL.out k) (HEL.out _) w5 HBQ3.out (hr5.at_ hr5.lt);unfold xe at hc6;rw[HST.out,HLL.out] at hc6;have HC6:=zH hc6;clear hr5 hb5 HC1 HROW HBQ2 hc6 p0 p1 p2 p3 p4 p5 p6 p7 p8 p9;go_wp2_with fail;refine HC6.out.mono ?_;rintro e w6 ⟨g6,rfl,hg6,hr6,hb6⟩;have HBA7:Hid (BAt w6 w6.heap.size (some ⟨g6,0,none⟩) (LV (k+1))):=hr6.at_ hr6.lt;have HRO7:Hid (RowAt w6 g10 (yf n EV set (k+1))):=Lb hb6 HRO5.out.lt HRO5.out;have G7:=zH (Lc G6.out hb6);clear hr6 hb6 HC6 HBQ3 HRO5;go_wp2_with fail
        go_roundw
        case rel=>exact⟨k+1,_,_,by omega,by go_num,rfl,HBA7,HRO7,G7⟩
        case measure=>simp[intOf];omega
end
section
open Go.RowKit
attribute [local go_sem] Oper.semAt_some
theorem co_fix{s:Sy}(hf:yR s.p)(g:Int)(bs:List Bool):∃(R:List Bool) (M E:Int),R.length<=700/\∀X e X',Xd s g bs X e X'->∃A c,e=.returned (.tuple #[.slice A R.length c,.int .i64 M,.int .i64 E])/\BAt X' X'.heap.size A R/\Below X.heap.size X X':=by
 by_cases h0:zN s g bs=0
 . obtain⟨G,hg,hG,hN,hn1,hn7,hl,hps⟩:=xE hf h0
   obtain⟨M,m1,m2,m3⟩:=kY (F:=zP (ptn s) (evG s g) bs) xp qT;have hR:(zP (ptn s) (evG s g) bs M).length=ptn s:=xp _;refine⟨zP (ptn s) (evG s g) bs M,M,0,by omega,fun X e X' h=>?_⟩;obtain⟨hb,h | ⟨_,M',gr,rfl,_,h1,h2,_,h3⟩⟩:=h
   . exact absurd h0 h.1
   . obtain rfl:=vP (F:=zP (ptn s) (evG s g) bs) h1 h2 m2 m3
     exact⟨_,_,by rw[hR],h3.at_ h3.lt,hb⟩
 . refine⟨[],0,zN s g bs,by simp,fun X e X' h=>?_⟩
   obtain⟨hb,⟨_,rfl⟩ | h⟩:=h
   . exact⟨none,0,rfl,fun h=>absurd h (by simp),hb⟩
   . exact absurd h.1 h0
theorem lv_fix{s:Sy}(hf:yR s.p)(g:Int)(bs:List Bool):∃(R:List Int) (E:Int),R.length<=700/\∀X e X',Xc s g bs X e X'->∃A c,e=.returned (.tuple #[.slice A R.length c,.int .i64 E])/\IAt X' X'.heap.size A R/\Below X.heap.size X X':=by
 by_cases h0:zN s g bs=0
 . obtain⟨G,hg,hG,hN,hn1,hn7,hl,hps⟩:=xE hf h0
   obtain⟨M,m1,m2,m3⟩:=kY (F:=ya (ptn s) (evG s g) bs) (kN hl) (jc hl);have hR:(jb (ptn s) (evG s g) bs M).length=ptn s:=by simp[jb]
   refine⟨jb (ptn s) (evG s g) bs M,0,by omega,fun X e X' h=>?_⟩;obtain⟨hb,h | ⟨_,M',gr,rfl,h1,h2,_,h3⟩⟩:=h
   . exact absurd h0 h.1
   . obtain rfl:=vP (F:=ya (ptn s) (evG s g) bs) h1 h2 m2 m3
     exact⟨_,_,by rw[hR],h3.iat,hb⟩
 . refine⟨[],zN s g bs,by simp,fun X e X' h=>?_⟩
   obtain⟨hb,⟨_,rfl⟩ | h⟩:=h
   . exact⟨none,0,rfl,fun h=>absurd h (by simp),hb⟩
   . exact absurd h.1 h0
theorem Xz(s:Sy)(hl:LowSy s)(A SV AV AX:Bb)(kc ks kv kx:Nat)(g:Int)(bs:List Bool)(AB:Bb)(kb:Nat)(w:Ba)(hT:RowTab w)(hS:SyAt w w.heap.size A SV AV AX s)(hb0:BAt w w.heap.size AB bs) :
  Calls Tryz.prog 3 #[.agg (s.vs_ A kc SV ks AV kv AX kx),.int .i64 g,.slice AB bs.length kb] w fun e w'=>e=.returned (.bool true)/\Below w.heap.size w w':=by
 obtain⟨w1,hw1,d0,hs1,hB1⟩:=zn w (s.vs_ A kc SV ks AV kv AX kx) 35;have hS1:=hS.up hB1;have hb1:=(hb0.keep hB1).more hB1.size;have HT:Hid (∀X,Below w1.heap.size w1 X->RowTab X):=fun X hX=>hT.keep (Lc hB1 hX) hT.1
 have HF:=zH (fewS_any s hl A SV AV AX kc ks kv kx w1 hS1)
 obtain⟨R,M,E,hrl,hfc⟩:∃(R:List Bool) (M E:Int),(qF s=true->R.length<=700)/\(qF s=true->∀X e X',Xd s g bs X e X'->∃A c,e=.returned (.tuple #[.slice A R.length c,.int .i64 M,.int .i64 E])/\BAt X' X'.heap.size A R/\Below X.heap.size X X'):=by
  by_cases h:qF s=true
  . obtain⟨R,M,E,h1,h2⟩:=co_fix (yV hl h).1 g bs
    exact⟨R,M,E,fun _=>h1,fun _=>h2⟩
  . exact⟨[],0,0,fun h'=>absurd h' h,fun h'=>absurd h' h⟩
 obtain⟨Q,Z,hql,hfl⟩:∃(Q:List Int) (Z:Int),(qF s=true->Q.length<=700)/\(qF s=true->∀X e X',Xc s g bs X e X'->∃A c,e=.returned (.tuple #[.slice A Q.length c,.int .i64 Z])/\IAt X' X'.heap.size A Q/\Below X.heap.size X X'):=by
  by_cases h:qF s=true
  . obtain⟨R,E,h1,h2⟩:=lv_fix (yV hl h).1 g bs
    exact⟨R,E,fun _=>h1,fun _=>h2⟩
  . exact⟨[],0,fun h'=>absurd h' h,fun h'=>absurd h' h⟩
 have C1:=zH (fun (h:qF s=true) (hq:bs.length<=1000000) (X:Ba) (hX:Below w1.heap.size w1 X)=>(wY s (yV hl h).2.2.1 (yV hl h).1 g bs A SV AV AX AB kc ks kv kx kb hq X (hS1.up hX) ((hb1.keep hX).more hX.size)).mono fun e X' hh=>hfc h X e X' hh);have C2:=zH (fun (h:qF s=true) (hq:bs.length<=1000000) (X:Ba) (hX:Below w1.heap.size w1 X)=>(Yf s (yV hl h).2.2.1 (yV hl h).1 g bs hq A SV AV AX AB kc ks kv kx kb X (hS1.up hX) ((hb1.keep hX).more hX.size)).mono fun e X' hh=>hfc h X e X' hh);have C3:=zH (fun (h:qF s=true) (hq:bs.length<=1000000) (X:Ba) (hX:Below w1.heap.size w1 X)=>(wX s (yV hl h).2.2.1 (yV hl h).1 g bs A SV AV AX AB kc ks kv kx kb hq X (hS1.up hX) ((hb1.keep hX).more hX.size)).mono fun e X' hh=>hfl h X e X' hh);have C4:=zH (fun (h:qF s=true) (hq:bs.length<=1000000) (X:Ba) (hX:Below w1.heap.size w1 X)=>(Ye s (yV hl h).2.2.1 (yV hl h).1 g bs hq A SV AV AX AB kc ks kv kx kb X (hS1.up hX) ((hb1.keep hX).more hX.size)).mono fun e X' hh=>hfl h X e X' hh);have HLN:Hid (qF s=true->R.length<=700/\Q.length<=700):=fun h=>⟨hrl h,hql h⟩
 unfold Sy.vs_ at hw1 d0 HF C1 C2 C3 C4 ⊢;have HW1:=zH hw1;have HB1:=zH hB1;have HDB:Hid (∀X,Below w1.heap.size w1 X->X.heap[w.heap.size]?=some (.cells #[.int .i64 s.p.t.n,.int .i64 s.p.t.ins,.int .i64 s.p.t.outs,.slice A s.p.t.cases.length kc,.int .i64 s.p.a.n,.slice SV s.p.a.sts.length ks,.int .i64 s.p.k,.int .i64 s.n,.slice AV s.vs.length kv,.slice AX s.xs.length kx] 35 (0,0))):=fun X hX=>La hX d0
 have G1:Hid (Below w1.heap.size w1 w1):=Lo _ _;obtain⟨F,hF⟩:=Ki (qF s);rw[hF] at HF C1 C2 C3 C4 HLN;clear hw1 d0 hB1 hS hS1 hF hl hrl hfc hql hfl hb0 hb1 hT;obtain⟨p0,p1,p2,p3,p4,p5,p6,p7,p8,p9⟩:=zB (HDB.out _ G1.out);go_enter Tryz.func3,Tryz.ntmps3;go_upto_region 1 with fail
 rw[HW1.out];go_wp2_with fail;refine HF.out.mono ?_;rintro e w2 ⟨rfl,hb2⟩;have G2:=zH (Lc G1.out hb2);clear hb2 HF HW1 p0 p1 p2 p3 p4 p5 p6 p7 p8 p9
 cases F with
 | false=>
  clear C1 C2 C3 C4 HLN;go_wp2_with fail;refine(jM w2 (HT.out _ G2.out)).mono ?_;rintro e v3 ⟨rfl,hb3⟩;have B3:=zH (HB1.out.trans ((Lc G2.out hb3).mono HB1.out.size));clear hb3;go_wp2_with fail;go_ret;exact⟨rfl,B3.out⟩
 | true=>
 by_cases hlen:(400:Int)<(bs.length:Int)
 . clear C1 C2 C3 C4 HLN
   have hq:((bs.length:Int)>400)=True:=eq_true hlen;go_wp2_with fail;refine(jM w2 (HT.out _ G2.out)).mono ?_;rintro e v3 ⟨rfl,hb3⟩;have B3:=zH (HB1.out.trans ((Lc G2.out hb3).mono HB1.out.size));clear hb3;go_wp2_with fail;go_ret;exact⟨rfl,B3.out⟩
 have D1:=zH (C1.out rfl (by omega));have D2:=zH (C2.out rfl (by omega));have D3:=zH (C3.out rfl (by omega));have D4:=zH (C4.out rfl (by omega));have hln:=zH (HLN.out rfl);clear C1 C2 C3 C4 HLN;obtain⟨p0,p1,p2,p3,p4,p5,p6,p7,p8,p9⟩:=zB (HDB.out _ G2.out);go_wp2_with fail;refine(D1.out w2 G2.out).mono ?_;rintro e w3 ⟨A3,c3,rfl,hr3,hb3⟩;have G3:=zH (Lc G2.out hb3);have Q3x3:=zH hr3;clear hb3 hr3 D1 hlen p0 p1 p2 p3 p4 p5 p6 p7 p8 p9;obtain⟨p0,p1,p2,p3,p4,p5,p6,p7,p8,p9⟩:=zB (HDB.out _ G3.out);go_wp2_with fail;refine(D2.out w3 G3.out).mono ?_;rintro e w4 ⟨A4,c4,rfl,hr4,hb4⟩;have G4:=zH (Lc G3.out hb4);have Q3x4:=zH ((Q3x3.out.keep hb4).more hb4.size);have Q4x4:=zH hr4;clear hb4 hr4 D2 p0 p1 p2 p3 p4 p5 p6 p7 p8 p9 Q3x3;obtain⟨p0,p1,p2,p3,p4,p5,p6,p7,p8,p9⟩:=zB (HDB.out _ G4.out);go_wp2_with fail;refine(D3.out w4 G4.out).mono ?_;rintro e w5 ⟨A5,c5,rfl,hr5,hb5⟩;have G5:=zH (Lc G4.out hb5);have Q3x5:=zH ((Q3x4.out.keep hb5).more hb5.size);have Q4x5:=zH ((Q4x4.out.keep hb5).more hb5.size);have Q5x5:=zH hr5;clear hb5 hr5 D3 p0 p1 p2 p3 p4 p5 p6 p7 p8 p9 Q3x4 Q4x4;obtain⟨p0,p1,p2,p3,p4,p5,p6,p7,p8,p9⟩:=zB (HDB.out _ G5.out);go_wp2_with fail;refine(D4.out w5 G5.out).mono ?_;rintro e w6 ⟨A6,c6,rfl,hr6,hb6⟩;have G6:=zH (Lc G5.out hb6);have Q3x6:=zH ((Q3x5.out.keep hb6).more hb6.size);have Q4x6:=zH ((Q4x5.out.keep hb6).more hb6.size);have Q5x6:=zH ((Q5x5.out.keep hb6).more hb6.size)
 have Q6x6:=zH hr6;clear hb6 hr6 D4 p0 p1 p2 p3 p4 p5 p6 p7 p8 p9 Q3x5 Q4x5 Q5x5;go_wp2_with fail;refine(jM w6 (HT.out _ G6.out)).mono ?_;rintro e w7 ⟨rfl,hb7⟩;have G7:=zH (Lc G6.out hb7);have Q3x7:=zH ((Q3x6.out.keep hb7).more hb7.size);have Q4x7:=zH ((Q4x6.out.keep hb7).more hb7.size);have Q5x7:=zH ((Q5x6.out.keep hb7).more hb7.size);have Q6x7:=zH ((Q6x6.out.keep hb7).more hb7.size);have HC:=gU A3 A4 c3 c4 R R w7 w7.heap.size (Le _) Q3x7.out Q4x7.out (by have:=hln.out.1;omega) (by have:=hln.out.1;omega);rw[show decide (R=R)=true by simp] at HC;have HC:=zH HC;clear hb7 Q3x6 Q4x6 Q5x6 Q6x6 Q3x7 Q4x7;go_wp2_with fail;refine HC.out.mono ?_;rintro e w8 ⟨rfl,n8,hn8⟩;have hb8:Below w7.heap.size w7 w8:=by rw[hn8];exact zT (Lo _ _) n8
 have G8:=zH (Lc G7.out hb8);have HC:=XK A5 A6 c5 c6 Q Q w8 w8.heap.size ((Q5x7.out.keep hb8).more hb8.size) ((Q6x7.out.keep hb8).more hb8.size) (by have:=hln.out.2;omega) (by have:=hln.out.2;omega);rw[show decide (Q=Q)=true by simp] at HC;have HC:=zH HC;clear hb8 hn8 Q5x7 Q6x7;go_wp2_with fail;refine HC.out.mono ?_;rintro e w9 ⟨rfl,n9,hn9⟩;have hb9:Below w8.heap.size w8 w9:=by rw[hn9];exact zT (Lo _ _) n9
 have B9:=zH (HB1.out.trans ((Lc G8.out hb9).mono HB1.out.size));clear hb9 hn9 HC;go_wp2_with fail;go_ret;exact⟨rfl,B9.out⟩
end
end Go.Proofs.YtohjmddnennajaaGreatDoor
