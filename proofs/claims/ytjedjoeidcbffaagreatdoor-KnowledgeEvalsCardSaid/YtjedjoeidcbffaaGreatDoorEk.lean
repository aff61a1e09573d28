/- Merged. -/
import Derived.Test.YtjedjoeidcbffaaGreatDoorEj
open Go.Proofs.Tryz
open Go.Value renaming int->O,slice->I,bool->Aj,agg->Ak
open Go.IntKind renaming i64->U
open Option renaming none->Z,some->J
open Go.Obj renaming cells->Ai
open Go.Ending renaming returned->Am
open Go.Proofs.Tryz renaming prog->Aq
open Go.RowKit renaming Below->Ar,intOf->Au,Hid->Aw
open Go renaming Calls->As
open Bool renaming true->AA,false->AC
namespace Go.Proofs.YtjedjoeidcbffaaGreatDoor
set_option maxRecDepth 100000
set_option maxHeartbeats 4000000
section
open Go.RowKit Go.Shelf
attribute [local go_sem] Oper.semAt_some
theorem us_class(op:Int)(h0:0<=op)(Na:op<=17):(usP op=AA/\usO op=AC/\usV op=AA/\usG op=AC)\/(usP op=AC/\usO op=AC/\usV op=AA/\usG op=AC)\/(usP op=AA/\usO op=AA/\usV op=AC/\usG op=AC)\/(usP op=AA/\usO op=AC/\usV op=AC/\usG op=AC)\/(usP op=AC/\usO op=AC/\usV op=AC/\usG op=AA)\/(usP op=AC/\usO op=AC/\usV op=AC/\usG op=AC):=by
 obtain rfl | rfl | rfl | rfl | rfl | rfl | rfl | rfl | rfl | rfl | rfl | rfl | rfl | rfl | rfl | rfl | rfl | rfl:op=0\/op=1\/op=2\/op=3\/op=4\/op=5\/op=6\/op=7\/op=8\/op=9\/op=10\/op=11\/op=12\/op=13\/op=14\/op=15\/op=16\/op=17:=by omega
 all_goals decide
theorem rnode10_any(n:Nat)(cU:1<=n)(hn:n<=5)(op hp ho hv hg:Int)(A:Bb)(m c:Nat)(w:Ba) :
  As Aq 152 #[Ak #[O U op,O U hp,O U ho,O U hv,O U hg,I A m c],O U (n:Int)] w fun e w'=>e=Am (O U (xV n ⟨op,hp,ho,hv,hg⟩ m))/\Ar w.heap.size w w':=by
 obtain⟨w1,ab,d0,aK,hB⟩:=zk w #[O U op,O U hp,O U ho,O U hv,O U hg,I A m c] 41;obtain⟨E,hE⟩:=Ki (xV n ⟨op,hp,ho,hv,hg⟩ m);have HE:=zH hE.symm;rw[hE];clear hE;unfold xV at HE;dsimp only at HE;have ai:=zH ab;have HB:=zH hB;have bK:=zH d0;obtain⟨p0,p1,p2,p3,p4,p5,_⟩:=Kg (d0);clear ab d0 hB;go_enter func152,ntmps152;go_wp2_with fail;rw[ai.out];go_wp2_with fail;refine(zE _ _ _ _).mono ?_;rintro e w2 ⟨rfl,bZ⟩;obtain rfl:=bZ
 by_cases cG:0<=op/\op<=17
 case neg=>
  have e0:decide (0<=op/\op<=17)=AC:=Lj cG;have aH:Aw (E=1):=by rw[Aw,HE.out,Li (by omega)]
  clear HE;go_wp2_with fail;go_ret;rw[aH.out];exact⟨rfl,HB.out⟩
 have e0:decide (0<=op/\op<=17)=AA:=Lm cG;obtain⟨aF,al⟩:=cG;have HE:Aw (E=_):=HE.out.trans (Lg (by omega));have ML:=zj bK.out
 by_cases fa:(m:Int)=arN op
 case neg=>
  have aH:Aw (E=15):=by rw[Aw,HE.out,Li fa]
  have e1:((m:Int) != arN op)=AA:=by simpa using fa
  clear HE;go_wp2_with fail;go_quiet (first | (go_at_call 111;exact Lf (zE _ _ _ _)) | (go_at_call 176;exact Lf (zz _ aF al _)) | (go_at_call 174;exact Lf (zL _ aF al _)));go_wp2_with fail;go_ret;rw[aH.out];exact⟨rfl,by first | exact HB.out | exact zP HB.out _⟩
 have e1:((m:Int) != arN op)=AC:=by simpa using fa
 have HE:Aw (E=_):=HE.out.trans (Lg (by simpa using fa));go_wp2_with fail;go_quiet (first | (go_at_call 111;exact Lf (zE _ _ _ _)) | (go_at_call 176;exact Lf (zz _ aF al _)) | (go_at_call 174;exact Lf (zL _ aF al _)));go_wp2_with fail;refine(J8 op aF al _).mono ?_;rintro e w3 ⟨rfl,aj⟩;have B3:=zH (zP HB.out nq |>.trans (aj.mono (by show w.heap.size<=w2.heap.size;omega)));have eK:w2.heap.size<=w3.heap.size:=aj.size;have sY:Aw (w3.heap[w.heap.size]?=_):=Lb aj (by show w.heap.size<w2.heap.size;omega) bK.out;go_upto_region 6 with fail
 obtain⟨W5,dM,d5,lL,aA⟩:=zk w3 #[Aj (usP op),Aj (usO op),Aj (usV op),Aj (usG op)] 235;rw[dM];have d6:=La aA sY.out;have B5:=zH (B3.out.trans (aA.mono (by omega)));obtain⟨p0,p1,p2,p3,p4,_⟩:=Kh (d6);obtain⟨q0,q1,q2,q3,_⟩:=Kb (d5);have hwn:IntKind.i64.wrap ((n:Int)-1)=(n:Int)-1:=by rw[Ls];omega
 have h2b:(1:Int)<=(2:Int)^n/\(2:Int)^n<=32:=by
  obtain rfl | rfl | rfl | rfl | rfl:n=1\/n=2\/n=3\/n=4\/n=5:=by omega
  all_goals decide
 have h2w:IntKind.i64.wrap ((2:Int)^n)=(2:Int)^n:=by rw[Ls];omega
 have h2v:IntKind.i64.wrap ((2:Int)^n-1)=(2:Int)^n-1:=by rw[Ls];omega
 have EI:min n 64=n:=by omega
 obtain⟨g1,fD⟩:=Ki (usP op);obtain⟨g2,ib⟩:=Ki (usO op);obtain⟨g3,u'⟩:=Ki (usV op);obtain⟨g4,tm⟩:=Ki (usG op);have aP:=us_class op aF al;rw[fD,ib,u',tm] at aP HE;rw[fD] at q0;rw[ib] at q1;rw[u'] at q2;rw[tm] at q3;rcases aP with ⟨rfl,rfl,rfl,rfl⟩ | ⟨rfl,rfl,rfl,rfl⟩ | ⟨rfl,rfl,rfl,rfl⟩ | ⟨rfl,rfl,rfl,rfl⟩ | ⟨rfl,rfl,rfl,rfl⟩ | ⟨rfl,rfl,rfl,rfl⟩
 ·
  by_cases r0:0<=hp/\hp<=(n:Int)-1
  case neg=>
   have aH:Aw (E=2):=by rw[Aw,HE.out];exact Li (by first | exact .inl ⟨rfl,r0⟩ | exact .inr (.inl ⟨rfl,r0⟩) | exact .inr (.inr (.inl ⟨rfl,r0⟩)) | exact .inr (.inr (.inr ⟨rfl,r0⟩)))
   go_wp2_with fail;go_quiet (first | (go_at_call 111;exact Lf (zE _ _ _ _)) | (go_at_call 176;exact Lf (zz _ aF al _)) | (go_at_call 174;exact Lf (zL _ aF al _)));go_wp2_with fail;go_ret;rw[aH.out];exact⟨rfl,by first | exact B5.out | exact zP B5.out _⟩
  by_cases r2:0<=hv/\hv<=mxV op
  case neg=>
   have aH:Aw (E=2):=by rw[Aw,HE.out];exact Li (by first | exact .inl ⟨rfl,r2⟩ | exact .inr (.inl ⟨rfl,r2⟩) | exact .inr (.inr (.inl ⟨rfl,r2⟩)) | exact .inr (.inr (.inr ⟨rfl,r2⟩)))
   go_wp2_with fail;go_quiet (first | (go_at_call 111;exact Lf (zE _ _ _ _)) | (go_at_call 176;exact Lf (zz _ aF al _)) | (go_at_call 174;exact Lf (zL _ aF al _)));go_wp2_with fail;go_ret;rw[aH.out];exact⟨rfl,by first | exact B5.out | exact zP B5.out _⟩
  have HE:Aw (E=_):=HE.out.trans (Lg (by rintro(⟨h,h2⟩ | ⟨h,h2⟩ | ⟨h,h2⟩ | ⟨h,h2⟩)<;>first | exact absurd h (by decide) | exact h2 r0 | exact h2 r2))
  by_cases z1:ho=0
  case neg=>
   have aH:Aw (E=3):=by rw[Aw,HE.out];exact Li (by first | exact .inl ⟨rfl,z1⟩ | exact .inr (.inl ⟨rfl,z1⟩) | exact .inr (.inr (.inl ⟨rfl,z1⟩)) | exact .inr (.inr (.inr ⟨rfl,z1⟩)))
   go_wp2_with fail;go_quiet (first | (go_at_call 111;exact Lf (zE _ _ _ _)) | (go_at_call 176;exact Lf (zz _ aF al _)) | (go_at_call 174;exact Lf (zL _ aF al _)));go_wp2_with fail;go_ret;rw[aH.out];exact⟨rfl,by first | exact B5.out | exact zP B5.out _⟩
  by_cases z3:hg=0
  case neg=>
   have aH:Aw (E=3):=by rw[Aw,HE.out];exact Li (by first | exact .inl ⟨rfl,z3⟩ | exact .inr (.inl ⟨rfl,z3⟩) | exact .inr (.inr (.inl ⟨rfl,z3⟩)) | exact .inr (.inr (.inr ⟨rfl,z3⟩)))
   go_wp2_with fail;go_quiet (first | (go_at_call 111;exact Lf (zE _ _ _ _)) | (go_at_call 176;exact Lf (zz _ aF al _)) | (go_at_call 174;exact Lf (zL _ aF al _)));go_wp2_with fail;go_ret;rw[aH.out];exact⟨rfl,by first | exact B5.out | exact zP B5.out _⟩
  have aH:Aw (E=0):=by rw[Aw,HE.out];exact Lg (by rintro(⟨h,h2⟩ | ⟨h,h2⟩ | ⟨h,h2⟩ | ⟨h,h2⟩)<;>first | exact absurd h (by decide) | exact h2 z1 | exact h2 z3)
  go_wp2_with fail;go_quiet (first | (go_at_call 111;exact Lf (zE _ _ _ _)) | (go_at_call 176;exact Lf (zz _ aF al _)) | (go_at_call 174;exact Lf (zL _ aF al _)));go_wp2_with fail;go_ret;rw[aH.out];exact⟨rfl,by first | exact B5.out | exact zP B5.out _⟩
 ·
  by_cases r2:0<=hv/\hv<=mxV op
  case neg=>
   have aH:Aw (E=2):=by rw[Aw,HE.out];exact Li (by first | exact .inl ⟨rfl,r2⟩ | exact .inr (.inl ⟨rfl,r2⟩) | exact .inr (.inr (.inl ⟨rfl,r2⟩)) | exact .inr (.inr (.inr ⟨rfl,r2⟩)))
   clear HE;go_wp2_with fail;go_quiet (first | (go_at_call 111;exact Lf (zE _ _ _ _)) | (go_at_call 176;exact Lf (zz _ aF al _)) | (go_at_call 174;exact Lf (zL _ aF al _)));go_wp2_with fail;go_ret;rw[aH.out];exact⟨rfl,by first | exact B5.out | exact zP B5.out _⟩
  have f2:decide (0<=hv/\hv<=mxV op)=AA:=Lm r2;have HE:Aw (E=_):=HE.out.trans (Lg (by rintro(⟨h,h2⟩ | ⟨h,h2⟩ | ⟨h,h2⟩ | ⟨h,h2⟩)<;>first | exact absurd h (by decide) | exact h2 r2))
  by_cases z0:hp=0
  case neg=>
   have v0:(hp != 0)=AA:=by simpa using z0
   have aH:Aw (E=3):=by rw[Aw,HE.out];exact Li (by first | exact .inl ⟨rfl,z0⟩ | exact .inr (.inl ⟨rfl,z0⟩) | exact .inr (.inr (.inl ⟨rfl,z0⟩)) | exact .inr (.inr (.inr ⟨rfl,z0⟩)))
   clear HE;go_wp2_with fail;go_quiet (first | (go_at_call 111;exact Lf (zE _ _ _ _)) | (go_at_call 176;exact Lf (zz _ aF al _)) | (go_at_call 174;exact Lf (zL _ aF al _)));go_wp2_with fail;go_ret;rw[aH.out];exact⟨rfl,by first | exact B5.out | exact zP B5.out _⟩
  have v0:(hp != 0)=AC:=by simpa using z0
  by_cases z1:ho=0
  case neg=>
   have v1:(ho != 0)=AA:=by simpa using z1
   have aH:Aw (E=3):=by rw[Aw,HE.out];exact Li (by first | exact .inl ⟨rfl,z1⟩ | exact .inr (.inl ⟨rfl,z1⟩) | exact .inr (.inr (.inl ⟨rfl,z1⟩)) | exact .inr (.inr (.inr ⟨rfl,z1⟩)))
   clear HE;go_wp2_with fail;go_quiet (first | (go_at_call 111;exact Lf (zE _ _ _ _)) | (go_at_call 176;exact Lf (zz _ aF al _)) | (go_at_call 174;exact Lf (zL _ aF al _)));go_wp2_with fail;go_ret;rw[aH.out];exact⟨rfl,by first | exact B5.out | exact zP B5.out _⟩
  have v1:(ho != 0)=AC:=by simpa using z1
  by_cases z3:hg=0
  case neg=>
   have v3:(hg != 0)=AA:=by simpa using z3
   have aH:Aw (E=3):=by rw[Aw,HE.out];exact Li (by first | exact .inl ⟨rfl,z3⟩ | exact .inr (.inl ⟨rfl,z3⟩) | exact .inr (.inr (.inl ⟨rfl,z3⟩)) | exact .inr (.inr (.inr ⟨rfl,z3⟩)))
   clear HE;go_wp2_with fail;go_quiet (first | (go_at_call 111;exact Lf (zE _ _ _ _)) | (go_at_call 176;exact Lf (zz _ aF al _)) | (go_at_call 174;exact Lf (zL _ aF al _)));go_wp2_with fail;go_ret;rw[aH.out];exact⟨rfl,by first | exact B5.out | exact zP B5.out _⟩
  have v3:(hg != 0)=AC:=by simpa using z3
  have aH:Aw (E=0):=by rw[Aw,HE.out];exact Lg (by rintro(⟨h,h2⟩ | ⟨h,h2⟩ | ⟨h,h2⟩ | ⟨h,h2⟩)<;>first | exact absurd h (by decide) | exact h2 z0 | exact h2 z1 | exact h2 z3)
  clear HE;go_wp2_with fail;go_quiet (first | (go_at_call 111;exact Lf (zE _ _ _ _)) | (go_at_call 176;exact Lf (zz _ aF al _)) | (go_at_call 174;exact Lf (zL _ aF al _)));go_wp2_with fail;go_ret;rw[aH.out];exact⟨rfl,by first | exact B5.out | exact zP B5.out _⟩
 ·
  by_cases r0:0<=hp/\hp<=(n:Int)-1
  case neg=>
   have f0:decide (0<=hp/\hp<=(n:Int)-1)=AC:=Lj r0;have aH:Aw (E=2):=by rw[Aw,HE.out];exact Li (by first | exact .inl ⟨rfl,r0⟩ | exact .inr (.inl ⟨rfl,r0⟩) | exact .inr (.inr (.inl ⟨rfl,r0⟩)) | exact .inr (.inr (.inr ⟨rfl,r0⟩)))
   clear HE;go_wp2_with fail;go_quiet (first | (go_at_call 111;exact Lf (zE _ _ _ _)) | (go_at_call 176;exact Lf (zz _ aF al _)) | (go_at_call 174;exact Lf (zL _ aF al _)));go_wp2_with fail;go_ret;rw[aH.out];exact⟨rfl,by first | exact B5.out | exact zP B5.out _⟩
  have f0:decide (0<=hp/\hp<=(n:Int)-1)=AA:=Lm r0
  by_cases r1:0<=ho/\ho<=(n:Int)-1
  case neg=>
   have f1:decide (0<=ho/\ho<=(n:Int)-1)=AC:=Lj r1;have aH:Aw (E=2):=by rw[Aw,HE.out];exact Li (by first | exact .inl ⟨rfl,r1⟩ | exact .inr (.inl ⟨rfl,r1⟩) | exact .inr (.inr (.inl ⟨rfl,r1⟩)) | exact .inr (.inr (.inr ⟨rfl,r1⟩)))
   clear HE;go_wp2_with fail;go_quiet (first | (go_at_call 111;exact Lf (zE _ _ _ _)) | (go_at_call 176;exact Lf (zz _ aF al _)) | (go_at_call 174;exact Lf (zL _ aF al _)));go_wp2_with fail;go_ret;rw[aH.out];exact⟨rfl,by first | exact B5.out | exact zP B5.out _⟩
  have f1:decide (0<=ho/\ho<=(n:Int)-1)=AA:=Lm r1;have HE:Aw (E=_):=HE.out.trans (Lg (by rintro(⟨h,h2⟩ | ⟨h,h2⟩ | ⟨h,h2⟩ | ⟨h,h2⟩)<;>first | exact absurd h (by decide) | exact h2 r0 | exact h2 r1))
  by_cases z2:hv=0
  case neg=>
   have v2:(hv != 0)=AA:=by simpa using z2
   have aH:Aw (E=3):=by rw[Aw,HE.out];exact Li (by first | exact .inl ⟨rfl,z2⟩ | exact .inr (.inl ⟨rfl,z2⟩) | exact .inr (.inr (.inl ⟨rfl,z2⟩)) | exact .inr (.inr (.inr ⟨rfl,z2⟩)))
   clear HE;go_wp2_with fail;go_quiet (first | (go_at_call 111;exact Lf (zE _ _ _ _)) | (go_at_call 176;exact Lf (zz _ aF al _)) | (go_at_call 174;exact Lf (zL _ aF al _)));go_wp2_with fail;go_ret;rw[aH.out];exact⟨rfl,by first | exact B5.out | exact zP B5.out _⟩
  have v2:(hv != 0)=AC:=by simpa using z2
  by_cases z3:hg=0
  case neg=>
   have v3:(hg != 0)=AA:=by simpa using z3
   have aH:Aw (E=3):=by rw[Aw,HE.out];exact Li (by first | exact .inl ⟨rfl,z3⟩ | exact .inr (.inl ⟨rfl,z3⟩) | exact .inr (.inr (.inl ⟨rfl,z3⟩)) | exact .inr (.inr (.inr ⟨rfl,z3⟩)))
   clear HE;go_wp2_with fail;go_quiet (first | (go_at_call 111;exact Lf (zE _ _ _ _)) | (go_at_call 176;exact Lf (zz _ aF al _)) | (go_at_call 174;exact Lf (zL _ aF al _)));go_wp2_with fail;go_ret;rw[aH.out];exact⟨rfl,by first | exact B5.out | exact zP B5.out _⟩
  have v3:(hg != 0)=AC:=by simpa using z3
  have aH:Aw (E=0):=by rw[Aw,HE.out];exact Lg (by rintro(⟨h,h2⟩ | ⟨h,h2⟩ | ⟨h,h2⟩ | ⟨h,h2⟩)<;>first | exact absurd h (by decide) | exact h2 z2 | exact h2 z3)
  clear HE;go_wp2_with fail;go_quiet (first | (go_at_call 111;exact Lf (zE _ _ _ _)) | (go_at_call 176;exact Lf (zz _ aF al _)) | (go_at_call 174;exact Lf (zL _ aF al _)));go_wp2_with fail;go_ret;rw[aH.out];exact⟨rfl,by first | exact B5.out | exact zP B5.out _⟩
 ·
  by_cases r0:0<=hp/\hp<=(n:Int)-1
  case neg=>
   have f0:decide (0<=hp/\hp<=(n:Int)-1)=AC:=Lj r0;have aH:Aw (E=2):=by rw[Aw,HE.out];exact Li (by first | exact .inl ⟨rfl,r0⟩ | exact .inr (.inl ⟨rfl,r0⟩) | exact .inr (.inr (.inl ⟨rfl,r0⟩)) | exact .inr (.inr (.inr ⟨rfl,r0⟩)))
   clear HE;go_wp2_with fail;go_quiet (first | (go_at_call 111;exact Lf (zE _ _ _ _)) | (go_at_call 176;exact Lf (zz _ aF al _)) | (go_at_call 174;exact Lf (zL _ aF al _)));go_wp2_with fail;go_ret;rw[aH.out];exact⟨rfl,by first | exact B5.out | exact zP B5.out _⟩
  have f0:decide (0<=hp/\hp<=(n:Int)-1)=AA:=Lm r0;have HE:Aw (E=_):=HE.out.trans (Lg (by rintro(⟨h,h2⟩ | ⟨h,h2⟩ | ⟨h,h2⟩ | ⟨h,h2⟩)<;>first | exact absurd h (by decide) | exact h2 r0))
  by_cases z1:ho=0
  case neg=>
   have v1:(ho != 0)=AA:=by simpa using z1
   have aH:Aw (E=3):=by rw[Aw,HE.out];exact Li (by first | exact .inl ⟨rfl,z1⟩ | exact .inr (.inl ⟨rfl,z1⟩) | exact .inr (.inr (.inl ⟨rfl,z1⟩)) | exact .inr (.inr (.inr ⟨rfl,z1⟩)))
   clear HE;go_wp2_with fail;go_quiet (first | (go_at_call 111;exact Lf (zE _ _ _ _)) | (go_at_call 176;exact Lf (zz _ aF al _)) | (go_at_call 174;exact Lf (zL _ aF al _)));go_wp2_with fail;go_ret;rw[aH.out];exact⟨rfl,by first | exact B5.out | exact zP B5.out _⟩
  have v1:(ho != 0)=AC:=by simpa using z1
  by_cases z2:hv=0
  case neg=>
   have v2:(hv != 0)=AA:=by simpa using z2
   have aH:Aw (E=3):=by rw[Aw,HE.out];exact Li (by first | exact .inl ⟨rfl,z2⟩ | exact .inr (.inl ⟨rfl,z2⟩) | exact .inr (.inr (.inl ⟨rfl,z2⟩)) | exact .inr (.inr (.inr ⟨rfl,z2⟩)))
   clear HE;go_wp2_with fail;go_quiet (first | (go_at_call 111;exact Lf (zE _ _ _ _)) | (go_at_call 176;exact Lf (zz _ aF al _)) | (go_at_call 174;exact Lf (zL _ aF al _)));go_wp2_with fail;go_ret;rw[aH.out];exact⟨rfl,by first | exact B5.out | exact zP B5.out _⟩
  have v2:(hv != 0)=AC:=by simpa using z2
  by_cases z3:hg=0
  case neg=>
   have v3:(hg != 0)=AA:=by simpa using z3
   have aH:Aw (E=3):=by rw[Aw,HE.out];exact Li (by first | exact .inl ⟨rfl,z3⟩ | exact .inr (.inl ⟨rfl,z3⟩) | exact .inr (.inr (.inl ⟨rfl,z3⟩)) | exact .inr (.inr (.inr ⟨rfl,z3⟩)))
   clear HE;go_wp2_with fail;go_quiet (first | (go_at_call 111;exact Lf (zE _ _ _ _)) | (go_at_call 176;exact Lf (zz _ aF al _)) | (go_at_call 174;exact Lf (zL _ aF al _)));go_wp2_with fail;go_ret;rw[aH.out];exact⟨rfl,by first | exact B5.out | exact zP B5.out _⟩
  have v3:(hg != 0)=AC:=by simpa using z3
  have aH:Aw (E=0):=by rw[Aw,HE.out];exact Lg (by rintro(⟨h,h2⟩ | ⟨h,h2⟩ | ⟨h,h2⟩ | ⟨h,h2⟩)<;>first | exact absurd h (by decide) | exact h2 z1 | exact h2 z2 | exact h2 z3)
  clear HE;go_wp2_with fail;go_quiet (first | (go_at_call 111;exact Lf (zE _ _ _ _)) | (go_at_call 176;exact Lf (zz _ aF al _)) | (go_at_call 174;exact Lf (zL _ aF al _)));go_wp2_with fail;go_ret;rw[aH.out];exact⟨rfl,by first | exact B5.out | exact zP B5.out _⟩
 ·
  by_cases r3:0<=hg/\hg<=(2:Int)^n-1
  case neg=>
   have f3:decide (0<=hg/\hg<=(2:Int)^n-1)=AC:=Lj r3;have aH:Aw (E=2):=by rw[Aw,HE.out];exact Li (by first | exact .inl ⟨rfl,r3⟩ | exact .inr (.inl ⟨rfl,r3⟩) | exact .inr (.inr (.inl ⟨rfl,r3⟩)) | exact .inr (.inr (.inr ⟨rfl,r3⟩)))
   clear HE;go_wp2_with fail;go_quiet (first | (go_at_call 111;exact Lf (zE _ _ _ _)) | (go_at_call 176;exact Lf (zz _ aF al _)) | (go_at_call 174;exact Lf (zL _ aF al _)));go_wp2_with fail;go_ret;rw[aH.out];exact⟨rfl,by first | exact B5.out | exact zP B5.out _⟩
  have f3:decide (0<=hg/\hg<=(2:Int)^n-1)=AA:=Lm r3;have HE:Aw (E=_):=HE.out.trans (Lg (by rintro(⟨h,h2⟩ | ⟨h,h2⟩ | ⟨h,h2⟩ | ⟨h,h2⟩)<;>first | exact absurd h (by decide) | exact h2 r3))
  by_cases z0:hp=0
  case neg=>
   have v0:(hp != 0)=AA:=by simpa using z0
   have aH:Aw (E=3):=by rw[Aw,HE.out];exact Li (by first | exact .inl ⟨rfl,z0⟩ | exact .inr (.inl ⟨rfl,z0⟩) | exact .inr (.inr (.inl ⟨rfl,z0⟩)) | exact .inr (.inr (.inr ⟨rfl,z0⟩)))
   clear HE;go_wp2_with fail;go_quiet (first | (go_at_call 111;exact Lf (zE _ _ _ _)) | (go_at_call 176;exact Lf (zz _ aF al _)) | (go_at_call 174;exact Lf (zL _ aF al _)));go_wp2_with fail;go_ret;rw[aH.out];exact⟨rfl,by first | exact B5.out | exact zP B5.out _⟩
  have v0:(hp != 0)=AC:=by simpa using z0
  by_cases z1:ho=0
  case neg=>
   have v1:(ho != 0)=AA:=by simpa using z1
   have aH:Aw (E=3):=by rw[Aw,HE.out];exact Li (by first | exact .inl ⟨rfl,z1⟩ | exact .inr (.inl ⟨rfl,z1⟩) | exact .inr (.inr (.inl ⟨rfl,z1⟩)) | exact .inr (.inr (.inr ⟨rfl,z1⟩)))
   clear HE;go_wp2_with fail;go_quiet (first | (go_at_call 111;exact Lf (zE _ _ _ _)) | (go_at_call 176;exact Lf (zz _ aF al _)) | (go_at_call 174;exact Lf (zL _ aF al _)));go_wp2_with fail;go_ret;rw[aH.out];exact⟨rfl,by first | exact B5.out | exact zP B5.out _⟩
  have v1:(ho != 0)=AC:=by simpa using z1
  by_cases z2:hv=0
  case neg=>
   have v2:(hv != 0)=AA:=by simpa using z2
   have aH:Aw (E=3):=by rw[Aw,HE.out];exact Li (by first | exact .inl ⟨rfl,z2⟩ | exact .inr (.inl ⟨rfl,z2⟩) | exact .inr (.inr (.inl ⟨rfl,z2⟩)) | exact .inr (.inr (.inr ⟨rfl,z2⟩)))
   clear HE;go_wp2_with fail;go_quiet (first | (go_at_call 111;exact Lf (zE _ _ _ _)) | (go_at_call 176;exact Lf (zz _ aF al _)) | (go_at_call 174;exact Lf (zL _ aF al _)));go_wp2_with fail;go_ret;rw[aH.out];exact⟨rfl,by first | exact B5.out | exact zP B5.out _⟩
  have v2:(hv != 0)=AC:=by simpa using z2
  have aH:Aw (E=0):=by rw[Aw,HE.out];exact Lg (by rintro(⟨h,h2⟩ | ⟨h,h2⟩ | ⟨h,h2⟩ | ⟨h,h2⟩)<;>first | exact absurd h (by decide) | exact h2 z0 | exact h2 z1 | exact h2 z2)
  clear HE;go_wp2_with fail;go_quiet (first | (go_at_call 111;exact Lf (zE _ _ _ _)) | (go_at_call 176;exact Lf (zz _ aF al _)) | (go_at_call 174;exact Lf (zL _ aF al _)));go_wp2_with fail;go_ret;rw[aH.out];exact⟨rfl,by first | exact B5.out | exact zP B5.out _⟩
 ·
  have HE:Aw (E=_):=HE.out.trans (Lg (by rintro(⟨h,h2⟩ | ⟨h,h2⟩ | ⟨h,h2⟩ | ⟨h,h2⟩)<;>first | exact absurd h (by decide) | exact absurd h (by decide)))
  by_cases z0:hp=0
  case neg=>
   have v0:(hp != 0)=AA:=by simpa using z0
   have aH:Aw (E=3):=by rw[Aw,HE.out];exact Li (by first | exact .inl ⟨rfl,z0⟩ | exact .inr (.inl ⟨rfl,z0⟩) | exact .inr (.inr (.inl ⟨rfl,z0⟩)) | exact .inr (.inr (.inr ⟨rfl,z0⟩)))
   clear HE;go_wp2_with fail;go_quiet (first | (go_at_call 111;exact Lf (zE _ _ _ _)) | (go_at_call 176;exact Lf (zz _ aF al _)) | (go_at_call 174;exact Lf (zL _ aF al _)));go_wp2_with fail;go_ret;rw[aH.out];exact⟨rfl,by first | exact B5.out | exact zP B5.out _⟩
  have v0:(hp != 0)=AC:=by simpa using z0
  by_cases z1:ho=0
  case neg=>
   have v1:(ho != 0)=AA:=by simpa using z1
   have aH:Aw (E=3):=by rw[Aw,HE.out];exact Li (by first | exact .inl ⟨rfl,z1⟩ | exact .inr (.inl ⟨rfl,z1⟩) | exact .inr (.inr (.inl ⟨rfl,z1⟩)) | exact .inr (.inr (.inr ⟨rfl,z1⟩)))
   clear HE;go_wp2_with fail;go_quiet (first | (go_at_call 111;exact Lf (zE _ _ _ _)) | (go_at_call 176;exact Lf (zz _ aF al _)) | (go_at_call 174;exact Lf (zL _ aF al _)));go_wp2_with fail;go_ret;rw[aH.out];exact⟨rfl,by first | exact B5.out | exact zP B5.out _⟩
  have v1:(ho != 0)=AC:=by simpa using z1
  by_cases z2:hv=0
  case neg=>
   have v2:(hv != 0)=AA:=by simpa using z2
   have aH:Aw (E=3):=by rw[Aw,HE.out];exact Li (by first | exact .inl ⟨rfl,z2⟩ | exact .inr (.inl ⟨rfl,z2⟩) | exact .inr (.inr (.inl ⟨rfl,z2⟩)) | exact .inr (.inr (.inr ⟨rfl,z2⟩)))
   clear HE;go_wp2_with fail;go_quiet (first | (go_at_call 111;exact Lf (zE _ _ _ _)) | (go_at_call 176;exact Lf (zz _ aF al _)) | (go_at_call 174;exact Lf (zL _ aF al _)));go_wp2_with fail;go_ret;rw[aH.out];exact⟨rfl,by first | exact B5.out | exact zP B5.out _⟩
  have v2:(hv != 0)=AC:=by simpa using z2
  by_cases z3:hg=0
  case neg=>
   have v3:(hg != 0)=AA:=by simpa using z3
   have aH:Aw (E=3):=by rw[Aw,HE.out];exact Li (by first | exact .inl ⟨rfl,z3⟩ | exact .inr (.inl ⟨rfl,z3⟩) | exact .inr (.inr (.inl ⟨rfl,z3⟩)) | exact .inr (.inr (.inr ⟨rfl,z3⟩)))
   clear HE;go_wp2_with fail;go_quiet (first | (go_at_call 111;exact Lf (zE _ _ _ _)) | (go_at_call 176;exact Lf (zz _ aF al _)) | (go_at_call 174;exact Lf (zL _ aF al _)));go_wp2_with fail;go_ret;rw[aH.out];exact⟨rfl,by first | exact B5.out | exact zP B5.out _⟩
  have v3:(hg != 0)=AC:=by simpa using z3
  have aH:Aw (E=0):=by rw[Aw,HE.out];exact Lg (by rintro(⟨h,h2⟩ | ⟨h,h2⟩ | ⟨h,h2⟩ | ⟨h,h2⟩)<;>first | exact absurd h (by decide) | exact h2 z0 | exact h2 z1 | exact h2 z2 | exact h2 z3)
  clear HE;go_wp2_with fail;go_quiet (first | (go_at_call 111;exact Lf (zE _ _ _ _)) | (go_at_call 176;exact Lf (zz _ aF al _)) | (go_at_call 174;exact Lf (zL _ aF al _)));go_wp2_with fail;go_ret;rw[aH.out];exact⟨rfl,by first | exact B5.out | exact zP B5.out _⟩
theorem Yt(f:Fm)(R:Fm->Nat×Nat)(A:Bb)(c:Nat)(w:Ba)(hl:f.args.length<=1000000)(hb:(zX R f.args).1<=1000000/\(zX R f.args).2<=1000000)
  (bU:RecAt w A f.args fun cs x X=>As Aq 112 #[.agg cs] X fun e w'=>e=Am (.tuple #[O U ((R x).1:Int),O U ((R x).2:Int)])/\Ar X.heap.size X w') :
  As Aq 112 #[.agg (f.vs A c)] w fun e w'=>e=Am (.tuple #[O U ((zX R f.args).1:Int),O U (((zX R f.args).2+1:Nat):Int)])/\Ar w.heap.size w w':=by
 obtain⟨w1,ab,d0,aK,hB⟩:=zk w (f.vs A c) 41;have aB:=zH bU;have iC:=zH (fun k=>kR R f.args k);have ni:=zH (fun k (h:k<f.args.length)=>(by rw[Lr h,kS]:zX R (f.args.take (k+1))=((zX R (f.args.take k)).1+(R f.args[k]).1,max (zX R (f.args.take k)).2 (R f.args[k]).2)));have eH:Aw (zX R (f.args.take f.args.length)=zX R f.args):=by rw[Aw,LC]
 have iX:=zH hb;unfold Fm.vs at ab d0 aB ⊢;obtain⟨l,aU⟩:=Ki f.args;rw[aU] at ab d0 aB iC ni eH iX hl ⊢;obtain⟨T,hT⟩:=Ki (zX R l);rw[hT] at iC eH iX ⊢;obtain⟨n,hn⟩:=Ki l.length;have HN:=zH hn;rw[hn] at ab d0 eH hl ⊢;have ai:=zH ab;have HB:=zH hB;have bK:=zH d0;clear ab d0 hB bU hb aU hT hn;go_enter func112,ntmps112;go_wp2_with fail;rw[ai.out];go_wp2_with fail
 go_loopw [4,5,6] (fun a b i wr=>∃k:Nat,k<=n/\i=O U (k:Int)/\a=O U ((zX R (l.take k)).1:Int)/\b=O U ((zX R (l.take k)).2:Int)/\Aw (Ar w1.heap.size w1 wr)) (fun _ _ i _=>n-(Au i).toNat)
 case atStart=>exact⟨0,by omega,rfl,rfl,rfl,Ll _ _⟩
 obtain⟨k,hk,rfl,rfl,rfl,ay⟩:=hrel;obtain⟨a,ha⟩:=Ki ((zX R (l.take k)).1);obtain⟨b,hb⟩:=Ki ((zX R (l.take k)).2)
 have Wq:a<=1000000/\b<=1000000:=by
  have h1:=iC.out k;have h2:=iX.out;omega
 have p5:=zh (La ay.out bK.out) 5 rfl
 by_cases aa:k<n
 . have bY:k<l.length:=by have:=HN.out;omega
   have eo:=ni.out k bY;obtain⟨bb,o,A',c',eA,aY,ah,ak⟩:=aB.out k bY;subst eA;obtain⟨x,hx⟩:=Ki (l[k]);rw[hx] at ah ak eo;obtain⟨Rx,CS⟩:=Ki (R x);dsimp only at ak;rw[CS] at ak eo;rw[ha,hb] at eo;have tw:(zX R (l.take (k+1))).1=a+Rx.1:=by rw[eo]
   have ij:(zX R (l.take (k+1))).2=max b Rx.2:=by rw[eo]
   have az:=zH tw;have au:=zH ij;have iG:=iC.out (k+1)
   have lY:a+Rx.1<=1000000/\max b Rx.2<=1000000:=by
    have h2:=iX.out;omega
   obtain⟨xh,xl⟩:=x;obtain⟨h0,h1,h2,h3,h4⟩:=xh;have AM:Ar w.heap.size w wr:=HB.out.trans (ay.out.mono (by have:=HB.out.size;omega));have hc:∀j v,#[O U h0,O U h1,O U h2,O U h3,O U h4,I A' xl.length c'][j]?=J v->wr.cell? ⟨bb,o+k*6+j,Z⟩=J v:=ah wr AM;have z0:wr.cell? ⟨bb,o+k*6,Z⟩=J (O U h0):=hc 0 _ rfl;have z1:wr.cell? ⟨bb,o+k*6+1,Z⟩=J (O U h1):=hc 1 _ rfl;have z2:wr.cell? ⟨bb,o+k*6+2,Z⟩=J (O U h2):=hc 2 _ rfl;have z3:wr.cell? ⟨bb,o+k*6+3,Z⟩=J (O U h3):=hc 3 _ rfl;have z4:wr.cell? ⟨bb,o+k*6+4,Z⟩=J (O U h4):=hc 4 _ rfl;have z5:wr.cell? ⟨bb,o+k*6+5,Z⟩=J (I A' xl.length c'):=hc 5 _ rfl;have dh:(0:Int)<=(k:Int):=by omega
   have aW:(k:Int)<(n:Int):=by omega
   have aQ:bb<wr.heap.size:=by have:=ay.out.size;have:=HB.out.size;omega
   have HC:=zH (ak wr AM);have sV:=zH ay.out;simp only[Fm.vs,Fm.args,Fm.h] at HC;clear ah ak hx CS eo iG tw ij hc ay AM;obtain⟨r1,r2⟩:=Rx;dsimp only at HC az au lY;go_wp2_with fail;refine HC.out.mono ?_;rintro e w3 ⟨rfl,aj⟩;have aJ:=zH (Lc sV.out aj);have ab:IntKind.i64.wrap ((a:Int)+(r1:Int))=((a+r1:Nat):Int):=by rw[Ls];omega
   by_cases Im:b<r2
   . have po:((r2:Int)>(b:Int))=True:=eq_true (by omega)
     have V7:(b:Int)<(r2:Int):=by omega
     have hE:Aw (max b r2=r2):=by rw[Aw];omega
     go_wp2_with fail
     go_roundw
     case rel=>exact⟨k+1,by omega,by go_num,by first | (rw[az.out];done) | (rw[az.out];go_num),by rw[au.out,hE.out],aJ⟩
     simp[Au];omega
   have fC:decide ((b:Int)<(r2:Int))=AC:=Lj (by omega);have V7:¬(b:Int)<(r2:Int):=by omega
   have hE:Aw (max b r2=b):=by rw[Aw];omega
   go_wp2_with fail
   go_roundw
   case rel=>exact⟨k+1,by omega,by go_num,by first | (rw[az.out];done) | (rw[az.out];go_num),by rw[au.out,hE.out],aJ⟩
   simp[Au];omega
 obtain rfl:k=n:=by omega
 have h1:Aw (a=T.1):=by rw[Aw,<-ha,eH.out]
 have h2:Aw (b=T.2):=by rw[Aw,<-hb,eH.out]
 have dR:=zH (HB.out.trans (ay.out.mono (by have:=HB.out.size;omega)));have ab:IntKind.i64.wrap ((b:Int)+1)=((b+1:Nat):Int):=by rw[Ls];omega
 clear iC ni eH iX aB;go_wp2_with fail
 go_ret2
 refine⟨?_,dR.out⟩;show Am (.tuple #[O U ((zX R (l.take k)).1:Int),O U ((b:Int)+1)])=_;rw[<-h1.out,<-h2.out,ha];rfl
theorem Yu:∀(d:Nat) (f:Fm) (A:Bb) (c:Nat) (w:Ba),FsAt w w.heap.size d A f.args->(yd d f).1<=1000000 ->
  As Aq 112 #[.agg (f.vs A c)] w fun e w'=>e=Am (.tuple #[O U ((yd d f).1:Int),O U ((yd d f).2:Int)])/\Ar w.heap.size w w'
 | 0,f,A,c,w,hA,hb=>by
  have h0:f.args=[]:=hA;exact Yt f (fun _=>(0,0)) A c w (by rw[h0];decide) (by rw[h0];decide) (RecAt.none hA)
 | d+1,f,A,c,w,hA,hb=>by
  have h1:(zX (yd d) f.args).1<=1000000:=hb;have h2:(zX (yd d) f.args).2+1<=(zX (yd d) f.args).1:=jz (d+1) f;have h3:=qf (yd d) (qm d) f.args;refine Yt f (yd d) A c w (by omega) (by omega) (RecAt.of hA fun x A' c' X hx hX=>Yu d x A' c' X hX ?_);exact Lz (jy (yd d) hx) h1
theorem Zr(f:Fm)(R:Fm->Nat×Nat)(hR:∀x,1<=(R x).1)(L:Nat)(hL1:1<=L)(hL:L<=140)(A:Bb)(c:Nat)(w:Ba)
  (bU:RecAt w A f.args fun cs x X=>∀L':Nat,1<=L'->L'<=140->As Aq 13 #[.agg cs,O U (L':Int)] X fun e w'=>e=Am (O U ((min (R x).1 L':Nat):Int))/\Ar X.heap.size X w') :
  As Aq 13 #[.agg (f.vs A c),O U (L:Int)] w fun e w'=>e=Am (O U ((min (zX R f.args).1 L:Nat):Int))/\Ar w.heap.size w w':=by
 obtain⟨w1,ab,d0,aK,hB⟩:=zk w (f.vs A c) 41;have aB:=zH bU;have ni:=zH (fun k (h:k<f.args.length)=>fcK_step R hR (L:=L) h);have Mf:=zH (fun k=>fcK_end R (L:=L) (k:=k) (l:=f.args));have lD:=zH (fcK_zero R hL1 f.args);have Eo:Aw (∀k,fcK R L f.args k<=L):=fun k=>by unfold fcK;omega
 unfold Fm.vs at ab d0 aB ⊢;obtain⟨l,aU⟩:=Ki f.args;rw[aU] at ab d0 aB ni Mf lD Eo ⊢;obtain⟨T,hT⟩:=Ki (min (zX R l).1 L);rw[hT] at Mf ⊢;obtain⟨n,hn⟩:=Ki l.length;have HN:=zH hn;rw[hn] at ab d0 Mf ⊢;have ai:=zH ab;have HB:=zH hB;have bK:=zH d0;have p4:=zh (d0) 4 rfl;have p5:=zh (d0) 5 rfl;clear ab d0 hB bU aU hT hn;go_enter func13,ntmps13;go_wp2_with fail;rw[ai.out];go_wp2_with fail
 go_loopw [5,6] (fun a i wr=>∃k:Nat,k<=n/\i=O U (k:Int)/\a=O U (fcK R L l k:Int)/\k+1<=fcK R L l k/\Aw (Ar w1.heap.size w1 wr)) (fun _ i _=>n-(Au i).toNat)
 case atStart=>exact⟨0,by omega,rfl,by rw[lD.out];rfl,by rw[lD.out];omega,Ll _ _⟩
 obtain⟨k,hk,rfl,rfl,py,ay⟩:=hrel;clear p4 p5 ai lD;obtain⟨a,ha⟩:=Ki (fcK R L l k);have haL:a<=L:=by rw[<-ha];exact Eo.out k
 have p5:=zh (La ay.out bK.out) 5 rfl;rw[ha] at py ⊢
 by_cases aa:k<n
 . have dh:(0:Int)<=(k:Int):=by omega
   have aW:(k:Int)<(n:Int):=by omega
   by_cases haL2:a<L
   . have fK:(a:Int)<(L:Int):=by omega
     have bY:k<l.length:=by have:=HN.out;omega
     have eo:=ni.out k bY (by rw[ha];exact haL2);rw[ha] at eo;obtain⟨bb,o,A',c',eA,aY,ah,ak⟩:=aB.out k bY;subst eA;obtain⟨x,hx⟩:=Ki (l[k]);rw[hx] at ah ak eo;obtain⟨xh,xl⟩:=x;obtain⟨h0,h1,h2,h3,h4⟩:=xh;have AM:Ar w.heap.size w wr:=HB.out.trans (ay.out.mono (by have:=HB.out.size;omega));have hc:∀j v,#[O U h0,O U h1,O U h2,O U h3,O U h4,I A' xl.length c'][j]?=J v->wr.cell? ⟨bb,o+k*6+j,Z⟩=J v:=ah wr AM;have z0:wr.cell? ⟨bb,o+k*6,Z⟩=J (O U h0):=hc 0 _ rfl;have z1:wr.cell? ⟨bb,o+k*6+1,Z⟩=J (O U h1):=hc 1 _ rfl;have z2:wr.cell? ⟨bb,o+k*6+2,Z⟩=J (O U h2):=hc 2 _ rfl;have z3:wr.cell? ⟨bb,o+k*6+3,Z⟩=J (O U h3):=hc 3 _ rfl;have z4:wr.cell? ⟨bb,o+k*6+4,Z⟩=J (O U h4):=hc 4 _ rfl;have z5:wr.cell? ⟨bb,o+k*6+5,Z⟩=J (I A' xl.length c'):=hc 5 _ rfl;have aQ:bb<wr.heap.size:=by have:=ay.out.size;have:=HB.out.size;omega
     have HC:=zH (ak wr AM (L-a) (by omega) (by omega));simp only[Fm.vs,Fm.args,Fm.h] at HC;have pU:(L:Int)-(a:Int)=((L-a:Nat):Int):=by omega
     have en:IntKind.i64.wrap ((L-a:Nat):Int)=((L-a:Nat):Int):=by rw[Ls];omega
     obtain⟨r,hr⟩:=Ki (min (R (Fm.mk ⟨h0,h1,h2,h3,h4⟩ xl)).1 (L-a));have hrL:r<=L-a:=by omega
     have lk:1<=r:=by have:=hR (Fm.mk ⟨h0,h1,h2,h3,h4⟩ xl);omega
     rw[hr] at HC eo;have Ut:=zH eo;obtain⟨q,hq⟩:=Ki (L-a);rw[hq] at HC pU en hrL;have sV:=zH ay.out;clear ah ak hx hc ay AM hr eo hq;go_wp2_with fail;refine HC.out.mono ?_;rintro e w3 ⟨rfl,aj⟩;have aJ:=zH (Lc sV.out aj);have ab:IntKind.i64.wrap ((a:Int)+(r:Int))=((a+r:Nat):Int):=by rw[Ls];omega
     have bZ:IntKind.i64.wrap ((k:Int)+1)=((k+1:Nat):Int):=by rw[Ls];omega
     clear aj HC z0 z1 z2 z3 z4 z5 p5 pU en;go_wp2_with fail
     go_roundw
     case rel=>exact⟨k+1,by omega,by go_num,by first | (rw[Ut.out];done) | (rw[Ut.out];go_num),by rw[Ut.out];omega,aJ⟩
     simp[Au];omega
   have fK:¬(a:Int)<(L:Int):=by omega
   have hE:Aw (a=T):=by rw[Aw,<-Mf.out k (.inr (by rw[ha];omega)),ha]
   have dR:=zH (HB.out.trans (ay.out.mono (by have:=HB.out.size;omega)));clear ni Mf Eo aB ay;go_wp2_with fail;go_ret;rw[hE.out];exact⟨rfl,dR.out⟩
 have aW:¬(k:Int)<(n:Int):=by omega
 have hE:Aw (a=T):=by rw[Aw,<-Mf.out k (.inl (by have:=HN.out;omega)),ha]
 have dR:=zH (HB.out.trans (ay.out.mono (by have:=HB.out.size;omega)));clear ni Mf Eo aB ay;go_wp2_with fail;go_ret;rw[hE.out];exact⟨rfl,dR.out⟩
theorem Zs:∀(d:Nat) (f:Fm) (L:Nat) (_:1<=L) (_:L<=140) (A:Bb) (c:Nat) (w:Ba),FsAt w w.heap.size d A f.args ->
  As Aq 13 #[.agg (f.vs A c),O U (L:Int)] w fun e w'=>e=Am (O U ((min (yd d f).1 L:Nat):Int))/\Ar w.heap.size w w'
 | 0,f,L,h1,hL,A,c,w,hA=>by
  have h0:f.args=[]:=hA;have:=Zr f (fun _=>(1,1)) (fun _=>Le _) L h1 hL A c w (RecAt.none hA);rw[h0] at this;unfold yd;rw[h0];exact this
 | d+1,f,L,h1,hL,A,c,w,hA=>Zr f (yd d) (qm d) L h1 hL A c w (RecAt.of hA fun x A' c' X hx hX L' h1' hL'=>Zs d x L' h1' hL' A' c' X hX)
theorem Zo(N:Nat)(EX:1<=N)(hN:N<=5)(f:Fm)(R:Fm->Int)(A:Bb)(c:Nat)(w:Ba)(hl:f.args.length<=1000000)
  (bU:RecAt w A f.args fun cs x X=>As Aq 114 #[.agg cs,O U (N:Int)] X fun e w'=>e=Am (O U (R x))/\Ar X.heap.size X w') :
  As Aq 114 #[.agg (f.vs A c),O U (N:Int)] w fun e w'=>e=Am (O U (ZU N R f))/\Ar w.heap.size w w':=by
 obtain⟨w1,ab,d0,aK,hB⟩:=zk w (f.vs A c) 41;have aB:=zH bU;obtain⟨⟨op,hp,ho,hv,hg⟩,l⟩:=f;obtain⟨E,hE⟩:=Ki (ZU N R (.mk ⟨op,hp,ho,hv,hg⟩ l));have HE:Aw (E=if xV N ⟨op,hp,ho,hv,hg⟩ l.length≠0 then xV N ⟨op,hp,ho,hv,hg⟩ l.length else ZW (l.map R)):=hE.symm;rw[hE];simp only[Fm.vs,Fm.args,Fm.h] at ab d0 aB hl HE ⊢;have NN:=zH (rnode10_any N EX hN op hp ho hv hg A l.length c w1);obtain⟨e1,Wi⟩:=Ki (xV N ⟨op,hp,ho,hv,hg⟩ l.length);rw[Wi] at HE NN;obtain⟨n,hn⟩:=Ki l.length;have HN:=zH hn;rw[hn] at ab d0 hl NN ⊢;have ai:=zH ab;have HB:=zH hB;have bK:=zH d0;clear ab d0 hB bU hn hE Wi EX hN;go_enter func114,ntmps114;go_wp2_with fail;rw[ai.out];go_wp2_with fail;refine NN.out.mono ?_;rintro e w2 ⟨rfl,ag⟩;have aw:=zH (Lc HB.out ag);have nk:=zH (La ag bK.out)
 by_cases he:e1=0
 case neg=>
  have hz:(e1 != 0)=AA:=by simpa using he
  have aH:Aw (E=e1):=HE.out.trans (Li he);go_wp2_with fail;go_ret;rw[aH.out];exact⟨rfl,aw.out⟩
 subst he;have HE:Aw (E=ZW (l.map R)):=HE.out.trans (Lg (by simp));go_wp2_with fail
 go_loopw [6] (fun i wr=>∃k:Nat,k<=n/\i=O U (k:Int)/\Aw (∀j (hj:j<l.length),j<k->R l[j]=0)/\Aw (Ar w2.heap.size w2 wr)) (fun i _=>n-(Au i).toNat)
 case atStart=>exact⟨0,by omega,rfl,fun j _ h=>absurd h (by omega),Ll _ _⟩
 obtain⟨k,hk,rfl,hz,ay⟩:=hrel;have p5:=zh (La ay.out nk.out) 5 rfl
 by_cases aa:k<n
 . have bY:k<l.length:=by have:=HN.out;omega
   obtain⟨bb,o,A',c',eA,aY,ah,ak⟩:=aB.out k bY;subst eA
   have V8:∀v,R l[k]=v->v≠0->Aw (E=v):=fun v hv h0=>by
    rw[Aw,HE.out,ffsE_at (k:=k) (by simpa using bY) (fun j hj CO=>by rw[LS];exact hz.out j (by simpa using hj) CO) (by rw[LS,hv];exact h0),LS,hv]
   have dl:R l[k]=0->Aw (∀j (hj:j<l.length),j<k+1->R l[j]=0):=fun h0 j hj CO=>by
    by_cases e:j=k
    . subst e;exact h0
    . exact hz.out j hj (by omega)
   obtain⟨x,hx⟩:=Ki (l[k]);rw[hx] at ah ak V8 dl;obtain⟨r,hr⟩:=Ki (R x);dsimp only at ak;rw[hr] at ak V8 dl;have N7:=zH (V8 r rfl);have LX:=zH dl;obtain⟨xh,xl⟩:=x;obtain⟨h0,h1,h2,h3,h4⟩:=xh;have AM:Ar w.heap.size w wr:=aw.out.trans (ay.out.mono (by have:=aw.out.size;omega));have hc:∀j v,#[O U h0,O U h1,O U h2,O U h3,O U h4,I A' xl.length c'][j]?=J v->wr.cell? ⟨bb,o+k*6+j,Z⟩=J v:=ah wr AM;have z0:wr.cell? ⟨bb,o+k*6,Z⟩=J (O U h0):=hc 0 _ rfl;have z1:wr.cell? ⟨bb,o+k*6+1,Z⟩=J (O U h1):=hc 1 _ rfl;have z2:wr.cell? ⟨bb,o+k*6+2,Z⟩=J (O U h2):=hc 2 _ rfl;have z3:wr.cell? ⟨bb,o+k*6+3,Z⟩=J (O U h3):=hc 3 _ rfl;have z4:wr.cell? ⟨bb,o+k*6+4,Z⟩=J (O U h4):=hc 4 _ rfl;have z5:wr.cell? ⟨bb,o+k*6+5,Z⟩=J (I A' xl.length c'):=hc 5 _ rfl;have dh:(0:Int)<=(k:Int):=by omega
   have aW:(k:Int)<(n:Int):=by omega
   have aQ:bb<wr.heap.size:=by have:=ay.out.size;have:=aw.out.size;omega
   have HC:=zH (ak wr AM);have sV:=zH ay.out;simp only[Fm.vs,Fm.args,Fm.h] at HC;clear ah ak hx hr hc ay AM V8 dl hz;go_wp2_with fail;refine HC.out.mono ?_;rintro e w3 ⟨rfl,aj⟩;have aJ:=zH (Lc sV.out aj)
   by_cases he:r=0
   case neg=>
    have hz:(r != 0)=AA:=by simpa using he
    have aH:=N7.out he;have dR:=zH (Lc aw.out aJ.out);clear HE aB N7 LX;go_wp2_with fail;go_ret;rw[aH.out];exact⟨rfl,dR.out⟩
   subst he;have HZ:=LX.out rfl;clear N7 LX;go_wp2_with fail
   go_roundw
   case rel=>exact⟨k+1,by omega,by go_num,HZ,aJ⟩
   simp[Au];omega
 obtain rfl:k=n:=by omega
 have aH:Aw (E=0):=by
  rw[Aw,HE.out];refine QL fun e he=>?_
  obtain⟨x,hx,rfl⟩:=LZ.1 he;obtain⟨j,hj,rfl⟩:=LI hx;exact hz.out j hj (by have:=HN.out;omega)
 have dR:=zH (aw.out.trans (ay.out.mono (by have:=aw.out.size;omega)));clear HE aB hz ay;go_wp2_with fail;go_ret;rw[aH.out];exact⟨rfl,dR.out⟩
theorem Zp(n:Nat)(cU:1<=n)(hn:n<=5):∀(d:Nat) (f:Fm) (A:Bb) (c:Nat) (w:Ba),FsAt w w.heap.size d A f.args->(yd d f).1<=1000000 ->
  As Aq 114 #[.agg (f.vs A c),O U (n:Int)] w fun e w'=>e=Am (O U (kK n d f))/\Ar w.heap.size w w'
 | 0,f,A,c,w,hA,hb=>by
  have h0:f.args=[]:=hA;exact Zo n cU hn f (fun _=>0) A c w (by rw[h0];decide) (RecAt.none hA)
 | d+1,f,A,c,w,hA,hb=>by
  have h1:(zX (yd d) f.args).1<=1000000:=hb;have h3:=qf (yd d) (qm d) f.args;refine Zo n cU hn f (kK n d) A c w (by omega) (RecAt.of hA fun x A' c' X hx hX=>Zp n cU hn d x A' c' X hX ?_);exact Lz (jy (yd d) hx) h1
theorem XI(n:Int)(d:Nat)(f:Fm)(A:Bb)(c:Nat)(w:Ba)(hA:FsAt w w.heap.size d A f.args)(hb:(yd d f).1<=1000000) :
  As Aq 63 #[.agg (f.vs A c),O U n] w fun e w'=>e=Am (O U (qH n d f))/\Ar w.heap.size w w':=by
 obtain⟨w1,ab,d0,aK,hB⟩:=zk w (f.vs A c) 41;have iD:=zH (Yu d f A c w1 ((hA.keep hB).more hB.size) hb);have NN:=zH (fun (N:Nat) (h1:1<=N) (h5:N<=5) (X:Ba) (hX:Ar w1.heap.size w1 X)=>Zp N h1 h5 d f A c X ((((hA.keep hB).more hB.size).keep hX).more hX.size) hb);obtain⟨E,hE⟩:=Ki (qH n d f);have HE:Aw (E=if n<1\/5<n then 2 else if jk (yd d f)≠0 then jk (yd d f) else kK n.toNat d f):=hE.symm;rw[hE];have hdp:=jz d f;obtain⟨⟨a,b⟩,iA⟩:∃x,yd d f=x:=⟨_,rfl⟩;rw[iA] at iD HE hb hdp;dsimp only at iD hb hdp;unfold Fm.vs at ab d0 iD NN ⊢;have ai:=zH ab;have HB:=zH hB;have bK:=zH d0;obtain⟨p0,p1,p2,p3,p4,p5,_⟩:=Kg (d0);clear ab d0 hB hA hE iA;go_enter func63,ntmps63;go_wp2_with fail;rw[ai.out];go_wp2_with fail;refine(zE _ _ _ _).mono ?_;rintro e w2 ⟨rfl,bZ⟩;obtain rfl:=bZ
 by_cases hr:1<=n/\n<=5
 case neg=>
  have aH:Aw (E=2):=HE.out.trans (Li (by omega));go_wp2_with fail;go_ret;rw[aH.out];exact⟨rfl,HB.out⟩
 have HE:Aw (E=_):=HE.out.trans (Lg (by omega));obtain⟨N,rfl⟩:=Lp (show 0<=n by omega);rw[Lo] at HE;have HNR:=zH hr;go_wp2_with fail;refine iD.out.mono ?_;rintro e w3 ⟨rfl,aj⟩;have G3:=zH aj;go_wp2_with fail;refine(rbig_any a b _).mono ?_;rintro e w4 ⟨rfl,fN⟩;obtain rfl:=fN;obtain⟨q,hq⟩:=Ki (jk (a,b));rw[hq] at HE ⊢
 by_cases he:q=0
 case neg=>
  have hz:(q != 0)=AA:=by simpa using he
  have aH:Aw (E=q):=HE.out.trans (Li he);have dR:=zH (Lc HB.out G3.out);go_wp2_with fail;go_ret;rw[aH.out];exact⟨rfl,dR.out⟩
 subst he;have HE:Aw (E=_):=HE.out.trans (Lg (by simp));have HC:=zH (NN.out N (by have:=HNR.out;omega) (by have:=HNR.out;omega) w4 G3.out);have d4:=La G3.out bK.out;obtain⟨p0,p1,p2,p3,p4,p5,_⟩:=Kg (d4);go_wp2_with fail;refine HC.out.mono ?_;rintro e w5 ⟨rfl,aA⟩;have dR:=zH (HB.out.trans ((Lc G3.out aA).mono HB.out.size));go_wp2_with fail;go_ret;rw[HE.out];exact⟨rfl,dR.out⟩
theorem rfewF10_any(d:Nat)(f:Fm)(A:Bb)(c:Nat)(w:Ba)(hA:FsAt w w.heap.size d A f.args) :
  As Aq 6 #[.agg (f.vs A c)] w fun e w'=>e=Am (Aj (decide ((yd d f).1<140)))/\Ar w.heap.size w w':=by
 obtain⟨w1,ab,d0,aK,hB⟩:=zk w (f.vs A c) 41;have iD:=zH (Zs d f 140 (by omega) (by omega) A c w1 ((hA.keep hB).more hB.size));have hdd:decide (((min (yd d f).1 140:Nat):Int)<140)=decide ((yd d f).1<140):=RG.2 (by omega);have sf:=zH hdd;obtain⟨r,hr⟩:=Ki (min (yd d f).1 140);rw[hr] at iD sf;unfold Fm.vs at ab d0 iD ⊢;have ai:=zH ab;have HB:=zH hB;clear ab d0 hB hA hr hdd;go_enter func6,ntmps6;go_wp2_with fail;rw[ai.out];go_wp2_with fail;refine iD.out.mono ?_;rintro e w3 ⟨rfl,aj⟩;have dR:=zH (Lc HB.out aj);go_wp2_with fail;go_ret;rw[<-sf.out];exact⟨rfl,dR.out⟩
theorem atmL_at(s:Sy)(out:List Int)(h:Fh)(i:Nat)(hl:i<(qP s out h).length):(qP s out h)[i]=xN s out h (i / (s.p.k.toNat+1),i % (s.p.k.toNat+1)):=by
 have h2:i<(zu (s.p.k.toNat+1) 0 s.xs.length).length:=by have:=hl;unfold qP at this;simpa using this
 have:(qP s out h)[i]=xN s out h ((zu (s.p.k.toNat+1) 0 s.xs.length)[i]):=by unfold qP;exact LS ..
 rw[this,prs_at _ _ (by omega)]
def RetBo(xs:List Bool)(w:Ba)(e:Ending)(w':Ba):Prop:=∃A c,e=Am (I A xs.length c)/\BAt w' w'.heap.size A xs/\Ar w.heap.size w w'
theorem ownBl_bat{w:Ba}{base:Nat}{A:Bb}{n c:Nat}{bs:List Bool}(h:OwnR kBl w base (I A n c) n (bs.map Aj)):BAt w w.heap.size A bs:=fun h0=>by
 obtain⟨A',c',e',_,_,h3⟩:=h.form;simp only[Value.slice.injEq] at e';obtain⟨rfl,-,-⟩:=e'
 have hn:0<n:=by
  have h1:=h.1;rw[LJ] at h1;rcases Nw n with e | e
  . rw[e,PD] at h1;omega
  . exact e
 obtain⟨gg,rfl,_,ia,aP⟩:=h3 hn;refine⟨gg,0,rfl,ia,fun i hi=>?_⟩;rw[LO];exact aP i _ (by rw[Ry,Ln hi];rfl)
theorem ratoms_any(s:Sy)(K N:Nat)(out:List Int)(f:Fm)(hW:AtrW s K N out f.h)(A SV AV AX AR AF:Bb)(kc ks kv kx cr cf:Nat)(w:Ba)(hS:SyAt w w.heap.size A SV AV AX s)(hO:IAt w w.heap.size AR out) :
  As Aq 65 #[.agg (s.vs_ A kc SV ks AV kv AX kx),Ak #[I AR out.length cr],.agg (f.vs AF cf)] w (RetBo (qP s out f.h) w):=by
 obtain⟨wa,dU,da,fG,ik⟩:=zk w (s.vs_ A kc SV ks AV kv AX kx) 35;obtain⟨wb,en,db,fi,fb⟩:=zk wa #[I AR out.length cr] 38;obtain⟨w1,ab,dc,ns,eF⟩:=zk wb (f.vs AF cf) 41;have hB:Ar w.heap.size w w1:=(ik.trans (fb.mono (by omega))).trans (eF.mono (by omega));have da:w1.heap[w.heap.size]?=J (Ai (s.vs_ A kc SV ks AV kv AX kx) 35 (0,0)):=Lb eF (by omega) (Lb fb (by omega) da);have db:w1.heap[w.heap.size+1]?=J (Ai #[I AR out.length cr] 38 (0,0)):=by rw[<-fG];exact Lb eF (by omega) db
 have dc:w1.heap[w.heap.size+1+1]?=J (Ai (f.vs AF cf) 41 (0,0)):=by rw[<-fG,<-fi];exact dc
 have cO:w1.heap.size=w.heap.size+3:=by omega
 have iD:=zH (fun (X:Ba)=>gi s K N hW.fine A SV AV AX kc ks kv kx X);have WW:=zH (fun (i:Nat) (hi:i<ptn s) (X:Ba) (hX:Ar w1.heap.size w1 X)=>rtrue_any s K N out f hW i hi A SV AV AX AR AF kc ks kv kx cr cf X ((hS.up hB).up hX) ((((hO.keep hB).more hB.size).keep hX).more hX.size));have hk:=hW.fine.k
 have mQ:ptn s<=700:=by
  have oF:=hW.fine.k6;have:=LU hW.fine.lx (show s.p.k.toNat+1<=7 by omega);unfold ptn;omega
 have hL:(qP s out f.h).length=ptn s:=vQ s out f.h;have fg:Aw (∀i (h:i<(qP s out f.h).length),(qP s out f.h)[i]=xN s out f.h (i / (K+1),i % (K+1))):=fun i h=>by rw[atmL_at,hk,Lo]
 obtain⟨L,Tr⟩:=Ki (qP s out f.h);obtain⟨n,hn⟩:=Ki (ptn s);rw[hn] at iD WW mQ hL;rw[Tr] at hL fg ⊢;unfold RetBo;rw[hL];have iN:=zH hL;unfold Sy.vs_ at dU da iD WW ⊢;unfold Fm.vs at ab dc WW ⊢;have ai:Aw (((w.alloc (Ai #[O U s.p.t.n,O U s.p.t.ins,O U s.p.t.outs,I A s.p.t.cases.length kc,O U s.p.a.n,I SV s.p.a.sts.length ks,O U s.p.k,O U s.n,I AV s.vs.length kv,I AX s.xs.length kx] 35)).alloc (Ai #[I AR out.length cr] 38)).alloc (Ai #[O U f.h.op,O U f.h.p,O U f.h.o,O U f.h.v,O U f.h.g,I AF f.args.length cf] 41)=w1):=by rw[Aw,dU,en,ab]
 have HB:=zH hB
 have aV:Aw (∀X,Ar w1.heap.size w1 X->X.heap[w.heap.size]?=J (Ai #[O U s.p.t.n,O U s.p.t.ins,O U s.p.t.outs,I A s.p.t.cases.length kc,O U s.p.a.n,I SV s.p.a.sts.length ks,O U s.p.k,O U s.n,I AV s.vs.length kv,I AX s.xs.length kx] 35 (0,0))/\X.heap[w.heap.size+1]?=J (Ai #[I AR out.length cr] 38 (0,0))/\X.heap[w.heap.size+1+1]?=J (Ai #[O U f.h.op,O U f.h.p,O U f.h.o,O U f.h.v,O U f.h.g,I AF f.args.length cf] 41 (0,0))):=
  fun X hX=>⟨Lb hX (by omega) da,Lb hX (by omega) db,Lb hX (by omega) dc⟩
 obtain⟨p0,p1,p2,p3,p4,p5,p6,p7,p8,p9⟩:=zN ((aV.out _ (Ll _ w1)).1);have r0:=zh (aV.out _ (Ll _ w1)).2.1 0 rfl;obtain⟨f0,f1,f2,f3,f4,f5,_⟩:=Kg ((aV.out _ (Ll _ w1)).2.2);clear dU en ab da db dc fG fi ns ik fb eF hB hS hO hW hk Tr hn hL cO;go_enter func65,ntmps65;go_wp2_with fail;rw[ai.out];go_wp2_with fail
 go_loopw [7,8] (fun o i wr=>∃k:Nat,k<=n/\i=O U (k:Int)/\∃P c,o=I P k c/\Aw (OwnR kBl wr w1.heap.size (I P k c) k ((L.take k).map .bool))/\Aw (Ar w1.heap.size w1 wr)) (fun _ i _=>n-(Au i).toNat)
 case atStart=>exact⟨0,by omega,rfl,Z,0,rfl,OwnR.nil _ _ _,Ll _ _⟩
 obtain⟨k,hk,rfl,P,c,rfl,HO,hb⟩:=hrel;clear p0 p1 p2 p3 p4 p5 p6 p7 p8 p9 r0 f0 f1 f2 f3 f4 f5 ai;obtain⟨p0,p1,p2,p3,p4,p5,p6,p7,p8,p9⟩:=zN ((aV.out _ hb.out).1);have r0:=zh (aV.out _ hb.out).2.1 0 rfl;obtain⟨f0,f1,f2,f3,f4,f5,_⟩:=Kg ((aV.out _ hb.out).2.2);go_wp2_with fail;refine(iD.out wr).mono ?_;rintro e w2 ⟨rfl,ag⟩;have aX:=hb.out.size;have aw:=zH (hb.out.trans (ag.mono aX));have pK:=zH (HO.out.below ag (Le _));clear p0 p1 p2 p3 p4 p5 p6 p7 p8 p9 r0 f0 f1 f2 f3 f4 f5 ag HO;obtain⟨p0,p1,p2,p3,p4,p5,p6,p7,p8,p9⟩:=zN ((aV.out _ aw.out).1);have r0:=zh (aV.out _ aw.out).2.1 0 rfl;obtain⟨f0,f1,f2,f3,f4,f5,_⟩:=Kg ((aV.out _ aw.out).2.2)
 by_cases aa:k<n
 . have MN:(k:Int)<(n:Int):=by omega
   have HC:=zH (WW.out k aa w2 aw.out);have Wd:k<L.length:=by rw[iN.out];exact aa
   rw[<-fg.out k Wd] at HC;have iG:L.take (k+1)=L.take k++[L[k]'Wd]:=Lr Wd;obtain⟨u,hu⟩:=Ki (L[k]'Wd);rw[hu] at HC iG;have iC:=zH iG;have mO:IntKind.i64.wrap ((k:Int)+1)=((k+1:Nat):Int):=by rw[Ls];omega
   clear iG hu;go_wp2_with fail;refine HC.out.mono ?_;rintro e w3 ⟨rfl,aj⟩;have dw:=aw.out.size;have aJ:=zH (aw.out.trans (aj.mono dw));have fw:=zH (pK.out.below aj (Le _));have iP:=aJ.out.size;obtain⟨W4,rk,d4,oA,aG⟩:=zk w3 #[Aj u] 4;have dT:=zH (aJ.out.trans (aG.mono iP));have lg:=zH (fw.out.below aG (Le _));have mp:=zH rk;have pT:=dT.out.size;clear rk aG fw
   go_wp2_with (at_builtin; go_must (rw [mp.out]; refine xb kBl_ok rfl _ _ (by rfl) w1.heap.size (I P k c) k ((L.take k).map .bool) (by rfl) lg.out w3.heap.size #[Aj u] (by rfl) d4 rfl (by simp [Value.oneCell']) (by omega) pT _ rfl ?_); intro g' aD w5 fO dv oX nO
                have iM:=zH fO;have cj:=zH (dT.out.grown dv pT (fun k e=>(lg.out.lt k e).1))
                clear fO dv oX nO)
   have rz:Aw (OwnR kBl w5 w1.heap.size (I (J ⟨g',0,Z⟩) (k+1) aD) (k+1) ((L.take (k+1)).map .bool)):=by rw[iC.out,LM];exact iM.out
   clear iM iC lg
   go_roundw
   case rel=>exact⟨k+1,by omega,by go_num,_,_,rfl,rz,cj⟩
   simp[Au];omega
 obtain rfl:k=n:=by omega
 have MN:¬(k:Int)<(k:Int):=by omega
 have tu:=pK.out;rw[Nd (by rw[iN.out];exact Le _)] at tu;have HF:=zH (ownBl_bat tu);have bQ:=zH (Lc HB.out aw.out);clear tu pK aw;go_wp2_with fail;go_ret;exact⟨P,c,rfl,HF.out,bQ.out⟩
def ZV(s:Sy)(out:List Int)(d:Nat)(f:Fm):Int:=if yh s≠0 then yh s else if 0<out.length/\out.length≠s.vs.length then 15 else qH s.n d f
theorem Jb(s:Sy)(hs:LowS s)(hf:xz s.p)(out:List Int)(d:Nat)(f:Fm)(aX:(yd d f).1<=1000000)(A SV AV AX AR AF:Bb)(kc ks kv kx cr cf:Nat)(w:Ba)(hS:SyAt w w.heap.size A SV AV AX s)(hA:FsAt w w.heap.size d AF f.args) :
  As Aq 30 #[.agg (s.vs_ A kc SV ks AV kv AX kx),Ak #[I AR out.length cr],.agg (f.vs AF cf)] w fun e w'=>e=Am (O U (ZV s out d f))/\Ar w.heap.size w w':=by
 obtain⟨wa,dU,da,fG,ik⟩:=zk w (s.vs_ A kc SV ks AV kv AX kx) 35;obtain⟨wb,en,db,fi,fb⟩:=zk wa #[I AR out.length cr] 38;obtain⟨w1,ab,dc,ns,eF⟩:=zk wb (f.vs AF cf) 41;have hB:Ar w.heap.size w w1:=(ik.trans (fb.mono (by omega))).trans (eF.mono (by omega));have da:w1.heap[w.heap.size]?=J (Ai (s.vs_ A kc SV ks AV kv AX kx) 35 (0,0)):=Lb eF (by omega) (Lb fb (by omega) da);have db:w1.heap[w.heap.size+1]?=J (Ai #[I AR out.length cr] 38 (0,0)):=by rw[<-fG];exact Lb eF (by omega) db
 have dc:w1.heap[w.heap.size+1+1]?=J (Ai (f.vs AF cf) 41 (0,0)):=by rw[<-fG,<-fi];exact dc
 have HV:=zH (rver_any s hs hf A SV AV AX kc ks kv kx w1 (hS.up hB));have nH:=zH (fun (X:Ba) (hX:Ar w1.heap.size w1 X)=>XI s.n d f AF cf X ((hA.keep (Lc hB hX)).more (Lc hB hX).size) aX);obtain⟨E,hE⟩:=Ki (ZV s out d f);have HE:Aw (E=if yh s≠0 then yh s else if 0<out.length/\out.length≠s.vs.length then 15 else qH s.n d f):=hE.symm;rw[hE];obtain⟨r,hr⟩:=Ki (yh s);rw[hr] at HV HE;obtain⟨q,hq⟩:=Ki (qH s.n d f);rw[hq] at nH HE;unfold Sy.vs_ at dU da HV ⊢;unfold Fm.vs at ab dc nH ⊢;have ai:Aw (((w.alloc (Ai #[O U s.p.t.n,O U s.p.t.ins,O U s.p.t.outs,I A s.p.t.cases.length kc,O U s.p.a.n,I SV s.p.a.sts.length ks,O U s.p.k,O U s.n,I AV s.vs.length kv,I AX s.xs.length kx] 35)).alloc (Ai #[I AR out.length cr] 38)).alloc (Ai #[O U f.h.op,O U f.h.p,O U f.h.o,O U f.h.v,O U f.h.g,I AF f.args.length cf] 41)=w1):=by rw[Aw,dU,en,ab]
 have HB:=zH hB
 have aV:Aw (∀X,Ar w1.heap.size w1 X->X.heap[w.heap.size]?=J (Ai #[O U s.p.t.n,O U s.p.t.ins,O U s.p.t.outs,I A s.p.t.cases.length kc,O U s.p.a.n,I SV s.p.a.sts.length ks,O U s.p.k,O U s.n,I AV s.vs.length kv,I AX s.xs.length kx] 35 (0,0))/\X.heap[w.heap.size+1]?=J (Ai #[I AR out.length cr] 38 (0,0))/\X.heap[w.heap.size+1+1]?=J (Ai #[O U f.h.op,O U f.h.p,O U f.h.o,O U f.h.v,O U f.h.g,I AF f.args.length cf] 41 (0,0))):=
  fun X hX=>⟨Lb hX (by omega) da,Lb hX (by omega) db,Lb hX (by omega) dc⟩
 clear dU en ab da db dc fG fi ns ik fb eF hB hS hA hE hr hq aX hs hf;go_enter func30,ntmps30;go_wp2_with fail;rw[ai.out];go_wp2_with fail;refine HV.out.mono ?_;rintro e w2 ⟨rfl,ag⟩;have G2:=zH ag
 by_cases h0:r=0
 case neg=>
  have e0:(r != 0)=AA:=by simpa using h0
  have aH:Aw (E=r):=HE.out.trans (Li h0);have bQ:=zH (Lc HB.out G2.out);go_wp2_with fail;go_ret;rw[aH.out];exact⟨rfl,bQ.out⟩
 subst h0;have HE:Aw (E=_):=HE.out.trans (Lg (by simp));have p5:=zh ((aV.out _ G2.out).1) 5 rfl;have p6:=zh ((aV.out _ G2.out).1) 6 rfl;have p7:=zh ((aV.out _ G2.out).1) 7 rfl;have p8:=zh ((aV.out _ G2.out).1) 8 rfl;have p9:=zh ((aV.out _ G2.out).1) 9 rfl;have r0:=zh (aV.out _ G2.out).2.1 0 rfl;obtain⟨f0,f1,f2,f3,f4,f5,_⟩:=Kg ((aV.out _ G2.out).2.2)
 by_cases dG:0<out.length/\out.length≠s.vs.length
 case pos=>
  obtain⟨h1,h2⟩:=dG;have e1:decide ((out.length:Int)>0)=AA:=Lm (by omega);have e2:((out.length:Int) != (s.vs.length:Int))=AA:=by simpa using(by omega:¬(out.length:Int)=(s.vs.length:Int))
  have e3:(0:Int)<(out.length:Int):=by omega
  have aH:Aw (E=15):=HE.out.trans (Li ⟨h1,h2⟩);have bQ:=zH (Lc HB.out G2.out);clear HE nH;go_wp2_with fail;go_ret;rw[aH.out];exact⟨rfl,bQ.out⟩
 have Og:Aw (E=q):=HE.out.trans (Lg dG);have HC:=zH (nH.out w2 G2.out);clear HE nH
 by_cases h1:0<out.length
 . have e1:decide ((out.length:Int)>0)=AA:=Lm (by omega)
   have e2:((out.length:Int) != (s.vs.length:Int))=AC:=by simpa using(by omega:(out.length:Int)=(s.vs.length:Int))
   have e3:(0:Int)<(out.length:Int):=by omega
   clear dG;go_wp2_with fail;refine HC.out.mono ?_;rintro e w3 ⟨rfl,aj⟩;have bQ:=zH (HB.out.trans ((Lc G2.out aj).mono HB.out.size));clear aj HC;go_wp2_with fail;go_ret;rw[Og.out];exact⟨rfl,bQ.out⟩
 have e1:decide ((out.length:Int)>0)=AC:=Lj (by omega);have e3:¬(0:Int)<(out.length:Int):=by omega
 clear dG;go_wp2_with fail;refine HC.out.mono ?_;rintro e w3 ⟨rfl,aj⟩;have bQ:=zH (HB.out.trans ((Lc G2.out aj).mono HB.out.size));go_wp2_with fail;go_ret;rw[Og.out];exact⟨rfl,bQ.out⟩
theorem atrW_of{s:Sy}(hf:xz s.p){out:List Int}{d:Nat}{f:Fm}(h:ZV s out d f=0)(ha:f.args.length=0):∃K N,AtrW s K N out f.h:=by
 unfold ZV at h
 by_cases h0:yh s≠0
 . rw[Li h0] at h;exact absurd h h0
 rw[Lg h0] at h;have h0:yh s=0:=by simpa using h0
 by_cases h1:0<out.length/\out.length≠s.vs.length
 . rw[Li h1] at h;cases h
 rw[Lg h1] at h;obtain⟨ig,K,N,hF⟩:=yJ hf h0
 have fj:zY s.p=0:=by
  by_cases hp:zY s.p=0
  . exact hp
  have hv:=h0;unfold yh at hv;rw[xy hp] at hv;simp[hp] at hv
 have hF2:Fine (yu s.p) K N:=by rw[<-ig];exact hF
 refine⟨K,N,hF,by rw[ig];exact Xv hF2,by rw[ig];exact built_wf fj hF2,by rw[ig];exact QW _,fun c hc=>?_,fun h2=>by omega,atm_ok hF.n h ha⟩;have h3:=wi (yf fj).1 c hc;have h4:=hF.pn;omega
end
section
open Go.RowKit
attribute [local go_sem] Oper.semAt_some
theorem or_not(n:Nat)(a b:List Bool):ja n (kj n (ja n a) (ja n b))=orL n a b:=by
 refine QY (qa ..) (vZ ..) fun i hi=>?_
 rw[ua hi,gZ hi,ua hi,ua hi,show(orL n a b).getD i AC=(a.getD i AC||b.getD i AC) from(zt (by rw[vZ];exact hi) AC).trans (orL_at hi)]
 cases a.getD i AC<;>cases b.getD i AC<;>simp
theorem now_end{n:Nat}{cls:Nat->List Int}{ps:List Nat}(set:List Bool):∃M,M<=n/\yg n (evL n cls ps) set (M+1)=yg n (evL n cls ps) set M/\(∀m,m<M->yg n (evL n cls ps) set (m+1)≠yg n (evL n cls ps) set m)/\yg n (evL n cls ps) set n=yg n (evL n cls ps) set M:=by
 obtain⟨M,h1,h2,h3⟩:=ZZ (n:=n) (F:=yg n (evL n cls ps) set) qp jX;exact⟨M,h1,h2,h3,now_up h2 h1⟩
theorem arN_pos{N:Nat}{h:Fh}{k:Nat}(he:xV N h k=0)(rV:h.op<=13)(hk:k≠0):(h.op=7\/h.op=8\/h.op=9\/h.op=10\/h.op=11\/h.op=12\/h.op=13)/\(h.op=8\/h.op=9->2<=k):=by
 obtain⟨h0,h1,_⟩:=ub he;unfold arN at h1
 by_cases e:h.op=8\/h.op=9\/h.op=17
 . rw[Li e] at h1;omega
 rw[Lg e] at h1
 by_cases e2:h.op<=6
 . rw[Li e2] at h1;omega
 omega
theorem Yi(s:Sy)(K N:Nat)(hF:Fine s K N)(th:ptn s<=700)(out:List Int)(f:Fm)(dr:xV N f.h f.args.length=0)(rV:f.h.op<=13)(nu:f.args.length=0->AtrW s K N out f.h)(R:Fm->List Bool)(Wu:∀x,(R x).length=ptn s)
  (A SV AV AX AR AF:Bb) (kc ks kv kx cr cf:Nat) (w:Ba) (hS:SyAt w w.heap.size A SV AV AX s) (hO:IAt w w.heap.size AR out)
  (bU:RecAt w AF f.args fun cs x X=>As Aq 32 #[.agg (s.vs_ A kc SV ks AV kv AX kx),Ak #[I AR out.length cr],.agg cs] X (xU (ptn s) (R x) X)) :
  As Aq 32 #[.agg (s.vs_ A kc SV ks AV kv AX kx),Ak #[I AR out.length cr],.agg (f.vs AF cf)] w (xU (ptn s) (if f.args.length=0 then qP s out f.h else uT s f.h (R (f.args.getD 0 default)) (R (f.args.getD 1 default))) w):=by
 obtain⟨wa,dU,da,fG,ik⟩:=zk w (s.vs_ A kc SV ks AV kv AX kx) 35;obtain⟨wb,en,db,fi,fb⟩:=zk wa #[I AR out.length cr] 38;obtain⟨w1,ab,dc,ns,eF⟩:=zk wb (f.vs AF cf) 41;have hB:Ar w.heap.size w w1:=(ik.trans (fb.mono (by omega))).trans (eF.mono (by omega));have ov:=zH (fun (h:f.args.length=0) (X:Ba) (hX:Ar w1.heap.size w1 X)=>ratoms_any s K N out f (nu h) A SV AV AX AR AF kc ks kv kx cr cf X ((hS.up hB).up hX) ((((hO.keep hB).more hB.size).keep hX).more hX.size));obtain⟨Cd,DX⟩:∃Cd,(if f.args.length=0 then qP s out f.h else uT s f.h (R (f.args.getD 0 default)) (R (f.args.getD 1 default)))=Cd:=⟨_,rfl⟩;have Ek:Aw (f.args.length=0->Cd=qP s out f.h):=fun h=>by rw[<-DX,Li h]
 have KU:Aw (f.args.length≠0->Cd=uT s f.h (R (f.args.getD 0 default)) (R (f.args.getD 1 default))):=fun h=>by rw[<-DX,Lg h]
 rw[DX];have ip:Aw (∀X,Ar w1.heap.size w1 X->SyAt X X.heap.size A SV AV AX s):=fun X hX=>(hS.up hB).up hX
 have aB:=zH bU;have HB:=zH hB;have fl:=hF.n5;have HF:=zH hF;have dO:=zH Wu;have sj:Aw ((qP s out f.h).length=ptn s):=vQ s out f.h;obtain⟨f0,l⟩:=f;obtain⟨a0,a1,a2,a3,a4⟩:=f0;simp only[Fm.h,Fm.args] at dr rV ov aB sj Ek KU ⊢;unfold Sy.vs_ at dU da ov aB ⊢;unfold Fm.vs at ab dc ov ⊢;simp only[Fm.h,Fm.args] at ab dc ov aB ⊢;unfold RetBo at ov;unfold xU at aB ⊢;obtain⟨m,hm⟩:=Ki l.length;have HM:=zH hm;rw[hm] at ab dc dr ov Ek KU ⊢;rw[fG] at fi db;rw[fi] at ns dc;have D0:Aw (∀X,Ar w1.heap.size w1 X->X.heap[w.heap.size]?=J (Ai #[O U s.p.t.n,O U s.p.t.ins,O U s.p.t.outs,I A s.p.t.cases.length kc,O U s.p.a.n,I SV s.p.a.sts.length ks,O U s.p.k,O U s.n,I AV s.vs.length kv,I AX s.xs.length kx] 35 (0,0))):=fun X hX=>Lb (hX.mono (by omega:w.heap.size+1<=_)) (by omega) (Lb eF (by omega) (Lb fb (by omega) da))
 have D1:Aw (∀X,Ar w1.heap.size w1 X->X.heap[w.heap.size+1]?=J (Ai #[I AR out.length cr] 38 (0,0))):=fun X hX=>Lb hX (by omega) (Lb eF (by omega) db)
 have D2:Aw (∀X,Ar w1.heap.size w1 X->X.heap[w.heap.size+1+1]?=J (Ai #[O U a0,O U a1,O U a2,O U a3,O U a4,I AF m cf] 41 (0,0))):=fun X hX=>Lb hX (by omega) dc
 have ai:Aw (((w.alloc (Ai #[O U s.p.t.n,O U s.p.t.ins,O U s.p.t.outs,I A s.p.t.cases.length kc,O U s.p.a.n,I SV s.p.a.sts.length ks,O U s.p.k,O U s.n,I AV s.vs.length kv,I AX s.xs.length kx] 35)).alloc (Ai #[I AR out.length cr] 38)).alloc (Ai #[O U a0,O U a1,O U a2,O U a3,O U a4,I AF m cf] 41)=w1):=by rw[dU,en];exact ab
 have E1:Aw (Ar w1.heap.size w1 w1):=Ll _ _;have aK:=hB.size;clear dU en ab da db dc ik fb eF hB hS hO bU nu hF Wu hm fG fi ns DX;obtain⟨p0,p1,p2,p3,p4,p5,p6,p7,p8,p9⟩:=zN (D0.out _ E1.out);have r0:=zh (D1.out _ E1.out) 0 rfl;obtain⟨q0,q1,q2,q3,q4,q5,_⟩:=Kg (D2.out _ E1.out);go_enter func32,ntmps32;go_upto_region 1 with fail
 rw[ai.out]
 by_cases lO:m=0
 . have e0:((m:Int)==0)=AA:=by simp[lO]
   have HC:=zH (ov.out lO w1 E1.out);rw[sj.out] at HC;have iq:=zH (Ek.out lO);clear Ek KU;subst lO;clear aB ov;go_wp2_with fail;refine HC.out.mono ?_;rintro e w2 ⟨A2,c2,rfl,hr,hb⟩;have HR:=zH hr;have bQ:=zH (Lc HB.out hb);clear hr hb HC;go_wp2_with fail;go_ret;exact⟨A2,c2,rfl,by rw[iq.out];exact HR.out,bQ.out⟩
 have e0:((m:Int)==0)=AC:=by simp;omega
 have cD:=KU.out lO;clear Ek KU;obtain⟨O1,fC⟩:=arN_pos dr rV lO;obtain⟨-,-,hgp,DN⟩:=ub dr;simp only at O1 fC hgp DN;have Ml:=zH fC;have HGP:=zH hgp;have tC:=zH DN;clear fC hgp DN dr rV ov sj;have rL:0<l.length:=by rw[HM.out];omega
 obtain⟨bb,ob,A0,c0,eA,aY,ah,ak⟩:=aB.out 0 rL;subst eA;have oK:l.getD 0 default=l[0]:=zt rL default;rw[oK] at cD;obtain⟨x,hx⟩:=Ki (l[0]);rw[hx] at ah ak cD;have UX:Aw (∀X,Ar w1.heap.size w1 X->As Aq 32 #[Ak #[O U s.p.t.n,O U s.p.t.ins,O U s.p.t.outs,I A s.p.t.cases.length kc,O U s.p.a.n,I SV s.p.a.sts.length ks,O U s.p.k,O U s.n,I AV s.vs.length kv,I AX s.xs.length kx],Ak #[I AR out.length cr],Ak #[O U x.h.op,O U x.h.p,O U x.h.o,O U x.h.v,O U x.h.g,I A0 x.args.length c0]] X (xU (ptn s) (R x) X)):=fun X hX=>ak X (Lc HB.out hX)
 have pP:Aw (∀X,Ar w1.heap.size w1 X->∀j v,#[O U x.h.op,O U x.h.p,O U x.h.o,O U x.h.v,O U x.h.g,I A0 x.args.length c0][j]?=J v->X.cell? ⟨bb,ob+0*6+j,Z⟩=J v):=fun X hX=>ah X (Lc HB.out hX)
 have ed:=dO.out x;obtain⟨⟨g0,g1,g2,g3,g4⟩,xl⟩:=x;simp only[Fm.h,Fm.args] at UX pP;obtain⟨a,ha⟩:=Ki (R (Fm.mk ⟨g0,g1,g2,g3,g4⟩ xl));rw[ha] at UX ed cD;have iq:=zH cD;clear cD;have nG:=zH ed;unfold xU at UX;clear ah ak hx oK ha ed;have i1:(0:Int)<(m:Int):=by omega
 have i1n:0<m:=by omega
 go_upto_region 3 with fail
 clear p0 p1 p2 p3 p4 p5 p6 p7 p8 p9 r0 q0 q1 q2 q3 q4 q5 ai;refine zw [(0,AA),(1,AA),(2,AA),(3,AA),(4,AA),(5,AA),(6,AC),(7,AC)] (fun X=>Ar w1.heap.size w1 X) (by kernel_rfl) (by kernel_rfl) E1.out.drew ?_
 repeat
  apply zA rfl
  . rintro K' ac X u
    obtain⟨p0,p1,p2,p3,p4,p5,p6,p7,p8,p9⟩:=zN (D0.out _ u);have r0:=zh (D1.out _ u) 0 rfl;obtain⟨q0,q1,q2,q3,q4,q5,_⟩:=Kg (D2.out _ u);have hc:=pP.out _ u;have z0:X.cell? ⟨bb,ob+0*6,Z⟩=_:=hc 0 _ rfl;have z1:X.cell? ⟨bb,ob+0*6+1,Z⟩=_:=hc 1 _ rfl;have z2:X.cell? ⟨bb,ob+0*6+2,Z⟩=_:=hc 2 _ rfl;have z3:X.cell? ⟨bb,ob+0*6+3,Z⟩=_:=hc 3 _ rfl;have z4:X.cell? ⟨bb,ob+0*6+4,Z⟩=_:=hc 4 _ rfl;have z5:X.cell? ⟨bb,ob+0*6+5,Z⟩=_:=hc 5 _ rfl;simp only[Nat.zero_mul,Nat.add_zero] at z0 z1 z2 z3 z4 z5;clear hc;clear u;go_simp;exact ac
 have ED:Aw (Ar w1.heap.size w1 w1.drew):=E1.out.drew;have C:=UX.out _ ED.out;have C:=zH C;refine zx rfl ?_;intro K' ac;go_simp;refine C.out.mono ?_;rintro e w3 ⟨Aa,ca,rfl,hr,hb⟩;have E3:=zH (Lc ED.out hb);have Qa:=zH hr;clear hb hr C;refine ac _ _ E3.out ?_;clear ac K';clear UX pP;refine zx rfl ?_;intro K' ac;go_simp;refine ac _ _ E3.out ?_;clear ac K';refine zO ?_;obtain⟨q0,q1,q2,q3,q4,q5,_⟩:=Kg (D2.out _ E3.out);have px:l.getD 1 default=l.getD 1 default:=rfl;clear px;rcases O1 with rfl | rfl | rfl | rfl | rfl | rfl | rfl
 . have cD:Cd=ja (ptn s) a:=iq.out
   have iq:=zH cD;clear cD;have C:=Jp Aa ca (ptn s) th a nG.out w3 Qa.out;unfold xU at C;have C:=zH C;clear aB;go_wp2_with fail;refine C.out.mono ?_;rintro e w9 ⟨Az,cz,rfl,hr,hb⟩;have E9:=zH (Lc E3.out hb);have Qz:=zH hr;clear hb hr C;have bQ:=zH (Lc HB.out E9.out);go_wp2_with fail;go_ret
   first | exact⟨Az,cz,rfl,by rw[iq.out];exact Qz.out,bQ.out⟩ | exact⟨Az,⟨cz,rfl⟩,by rw[iq.out];exact Qz.out,bQ.out⟩
 . have cD:Cd=kj (ptn s) a (R (l.getD 1 default)):=iq.out
   have iR:1<l.length:=by rw[HM.out];have:=Ml.out (by omega);omega
   obtain⟨bb2,ob2,A1,c1,eA,hbb2,ah,ak⟩:=aB.out 1 iR
   cases eA
   have my:l.getD 1 default=l[1]:=zt iR default;rw[my] at cD;obtain⟨y,hy⟩:=Ki (l[1]);rw[hy] at ah ak cD;have sh:Aw (∀X,Ar w1.heap.size w1 X->As Aq 32 #[Ak #[O U s.p.t.n,O U s.p.t.ins,O U s.p.t.outs,I A s.p.t.cases.length kc,O U s.p.a.n,I SV s.p.a.sts.length ks,O U s.p.k,O U s.n,I AV s.vs.length kv,I AX s.xs.length kx],Ak #[I AR out.length cr],Ak #[O U y.h.op,O U y.h.p,O U y.h.o,O U y.h.v,O U y.h.g,I A1 y.args.length c1]] X (xU (ptn s) (R y) X)):=fun X hX=>ak X (Lc HB.out hX)
   have pP:Aw (∀X,Ar w1.heap.size w1 X->∀j v,#[O U y.h.op,O U y.h.p,O U y.h.o,O U y.h.v,O U y.h.g,I A1 y.args.length c1][j]?=J v->X.cell? ⟨bb,ob+1*6+j,Z⟩=J v):=fun X hX=>ah X (Lc HB.out hX)
   have fY:=dO.out y;obtain⟨⟨g5,g6,g7,g8,g9⟩,yl⟩:=y;simp only[Fm.h,Fm.args] at sh pP;obtain⟨b,sJ⟩:=Ki (R (Fm.mk ⟨g5,g6,g7,g8,g9⟩ yl));rw[sJ] at sh fY cD;have nF:=zH fY;unfold xU at sh;have i2:(1:Int)<(m:Int):=by have:=HM.out;omega
   have i2n:1<m:=by have:=HM.out;omega
   clear ah ak hy my sJ fY;have iq:=zH cD;clear cD;clear aB;go_upto_region 8 with fail
   clear q0 q1 q2 q3 q4 q5;refine zw [(0,AA),(1,AA),(2,AA),(3,AA),(4,AA),(5,AA),(6,AA),(7,AC),(8,AC),(9,AC)] (fun X=>Ar w1.heap.size w1 X) (by kernel_rfl) (by kernel_rfl) E3.out.drew ?_;have aT:Ar w3.heap.size w3 w3.drew:=(Ll _ _).drew;have E4:=zH (Lc E3.out aT);have Qa:=zH ((Qa.out.keep aT).more aT.size);clear aT
   repeat
    apply zA rfl
    . rintro K' ac X u
      obtain⟨p0,p1,p2,p3,p4,p5,p6,p7,p8,p9⟩:=zN (D0.out _ u);have r0:=zh (D1.out _ u) 0 rfl;obtain⟨q0,q1,q2,q3,q4,q5,_⟩:=Kg (D2.out _ u);have hc:=pP.out _ u;have z0:X.cell? ⟨bb,ob+1*6,Z⟩=_:=hc 0 _ rfl;have z1:X.cell? ⟨bb,ob+1*6+1,Z⟩=_:=hc 1 _ rfl;have z2:X.cell? ⟨bb,ob+1*6+2,Z⟩=_:=hc 2 _ rfl;have z3:X.cell? ⟨bb,ob+1*6+3,Z⟩=_:=hc 3 _ rfl;have z4:X.cell? ⟨bb,ob+1*6+4,Z⟩=_:=hc 4 _ rfl;have z5:X.cell? ⟨bb,ob+1*6+5,Z⟩=_:=hc 5 _ rfl;simp only[Nat.one_mul] at z0 z1 z2 z3 z4 z5;clear hc;clear u;go_simp;exact ac
   have C:=sh.out _ E4.out;have C:=zH C;refine zx rfl ?_;intro K' ac;go_simp;refine C.out.mono ?_;rintro e w5 ⟨Ab,cb,rfl,hr,hb⟩;have E5:=zH (Lc E4.out hb);have Qa:=zH ((Qa.out.keep hb).more hb.size);have Qb:=zH hr;clear hb hr C;refine ac _ _ E5.out ?_;clear ac K';have C:=and_ok Aa Ab ca cb (ptn s) th a b nG.out nF.out w5 Qa.out Qb.out;unfold xU at C;have C:=zH C;refine zx rfl ?_;intro K' ac;go_simp;refine C.out.mono ?_;rintro e w6 ⟨Az,cz,rfl,hr,hb⟩;have E6:=zH (Lc E5.out hb);have Qz:=zH hr;clear hb hr C;refine ac _ _ E6.out ?_;clear ac K';refine zx rfl ?_;intro K' ac;go_simp;refine ac _ _ E6.out ?_;clear ac K';refine zO ?_;have bQ:=zH (Lc HB.out E6.out);go_wp2_with fail;go_ret
   first | exact⟨Az,cz,rfl,by rw[iq.out];exact Qz.out,bQ.out⟩ | exact⟨Az,⟨cz,rfl⟩,by rw[iq.out];exact Qz.out,bQ.out⟩
 . have cD:Cd=orL (ptn s) a (R (l.getD 1 default)):=iq.out
   have iR:1<l.length:=by rw[HM.out];have:=Ml.out (by omega);omega
   obtain⟨bb2,ob2,A1,c1,eA,hbb2,ah,ak⟩:=aB.out 1 iR
   cases eA
   have my:l.getD 1 default=l[1]:=zt iR default;rw[my] at cD;obtain⟨y,hy⟩:=Ki (l[1]);rw[hy] at ah ak cD;have sh:Aw (∀X,Ar w1.heap.size w1 X->As Aq 32 #[Ak #[O U s.p.t.n,O U s.p.t.ins,O U s.p.t.outs,I A s.p.t.cases.length kc,O U s.p.a.n,I SV s.p.a.sts.length ks,O U s.p.k,O U s.n,I AV s.vs.length kv,I AX s.xs.length kx],Ak #[I AR out.length cr],Ak #[O U y.h.op,O U y.h.p,O U y.h.o,O U y.h.v,O U y.h.g,I A1 y.args.length c1]] X (xU (ptn s) (R y) X)):=fun X hX=>ak X (Lc HB.out hX)
   have pP:Aw (∀X,Ar w1.heap.size w1 X->∀j v,#[O U y.h.op,O U y.h.p,O U y.h.o,O U y.h.v,O U y.h.g,I A1 y.args.length c1][j]?=J v->X.cell? ⟨bb,ob+1*6+j,Z⟩=J v):=fun X hX=>ah X (Lc HB.out hX)
   have fY:=dO.out y;obtain⟨⟨g5,g6,g7,g8,g9⟩,yl⟩:=y;simp only[Fm.h,Fm.args] at sh pP;obtain⟨b,sJ⟩:=Ki (R (Fm.mk ⟨g5,g6,g7,g8,g9⟩ yl));rw[sJ] at sh fY cD;have nF:=zH fY;unfold xU at sh;have i2:(1:Int)<(m:Int):=by have:=HM.out;omega
   have i2n:1<m:=by have:=HM.out;omega
   clear ah ak hy my sJ fY;rw[<-or_not] at cD;have iq:=zH cD;clear cD;clear aB;go_upto_region 10 with fail
   clear q0 q1 q2 q3 q4 q5;refine zw [(0,AA),(2,AA),(3,AA),(4,AA),(5,AA),(6,AA),(7,AA),(1,AC),(8,AC),(9,AC),(10,AC),(11,AC),(12,AC)] (fun X=>Ar w1.heap.size w1 X) (by kernel_rfl) (by kernel_rfl) E3.out.drew ?_;have aT:Ar w3.heap.size w3 w3.drew:=(Ll _ _).drew;have E4:=zH (Lc E3.out aT);have Qa:=zH ((Qa.out.keep aT).more aT.size);clear aT
   repeat
    apply zA rfl
    . rintro K' ac X u
      obtain⟨p0,p1,p2,p3,p4,p5,p6,p7,p8,p9⟩:=zN (D0.out _ u);have r0:=zh (D1.out _ u) 0 rfl;obtain⟨q0,q1,q2,q3,q4,q5,_⟩:=Kg (D2.out _ u);have hc:=pP.out _ u;have z0:X.cell? ⟨bb,ob+1*6,Z⟩=_:=hc 0 _ rfl;have z1:X.cell? ⟨bb,ob+1*6+1,Z⟩=_:=hc 1 _ rfl;have z2:X.cell? ⟨bb,ob+1*6+2,Z⟩=_:=hc 2 _ rfl;have z3:X.cell? ⟨bb,ob+1*6+3,Z⟩=_:=hc 3 _ rfl;have z4:X.cell? ⟨bb,ob+1*6+4,Z⟩=_:=hc 4 _ rfl;have z5:X.cell? ⟨bb,ob+1*6+5,Z⟩=_:=hc 5 _ rfl;simp only[Nat.one_mul] at z0 z1 z2 z3 z4 z5;clear hc;clear u;go_simp;exact ac
   have C:=Jp Aa ca (ptn s) th a nG.out (w3.drew) Qa.out;unfold xU at C;have C:=zH C;refine zx rfl ?_;intro K' ac;go_simp;refine C.out.mono ?_;rintro e w5 ⟨An,cn,rfl,hr,hb⟩;have E5:=zH (Lc E4.out hb);have Qn:=zH hr;clear hb hr C;refine ac _ _ E5.out ?_;clear ac K';have C:=sh.out _ E5.out;have C:=zH C;refine zx rfl ?_;intro K' ac;go_simp;refine C.out.mono ?_;rintro e w6 ⟨Ab,cb,rfl,hr,hb⟩;have E6:=zH (Lc E5.out hb);have Qn:=zH ((Qn.out.keep hb).more hb.size);have Qb:=zH hr;clear hb hr C;refine ac _ _ E6.out ?_;clear ac K';have C:=Jp Ab cb (ptn s) th b nF.out w6 Qb.out;unfold xU at C;have C:=zH C;refine zx rfl ?_;intro K' ac;go_simp;refine C.out.mono ?_;rintro e w7 ⟨Ao,co,rfl,hr,hb⟩;have E7:=zH (Lc E6.out hb);have Qn:=zH ((Qn.out.keep hb).more hb.size);have Qo:=zH hr;clear hb hr C;refine ac _ _ E7.out ?_;clear ac K';have C:=and_ok An Ao cn co (ptn s) th (ja (ptn s) a) (ja (ptn s) b) (qa ..) (qa ..) w7 Qn.out Qo.out;unfold xU at C;have C:=zH C;refine zx rfl ?_;intro K' ac;go_simp;refine C.out.mono ?_;rintro e w8 ⟨Av,cv,rfl,hr,hb⟩;have E8:=zH (Lc E7.out hb);have Qv:=zH hr;clear hb hr C;refine ac _ _ E8.out ?_;clear ac K';have C:=Jp Av cv (ptn s) th (kj (ptn s) (ja (ptn s) a) (ja (ptn s) b)) (yP ..) w8 Qv.out;unfold xU at C;have C:=zH C;refine zx rfl ?_;intro K' ac;go_simp;refine C.out.mono ?_;rintro e w9 ⟨Az,cz,rfl,hr,hb⟩;have E9:=zH (Lc E8.out hb)
   have Qz:=zH hr;clear hb hr C;refine ac _ _ E9.out ?_;clear ac K';refine zx rfl ?_;intro K' ac;go_simp;refine ac _ _ E9.out ?_;clear ac K';refine zO ?_;have bQ:=zH (Lc HB.out E9.out);go_wp2_with fail;go_ret
   first | exact⟨Az,cz,rfl,by rw[iq.out];exact Qz.out,bQ.out⟩ | exact⟨Az,⟨cz,rfl⟩,by rw[iq.out];exact Qz.out,bQ.out⟩
 . have cD:Cd=xQ (ptn s) (yB s a1.toNat) a:=iq.out
   obtain⟨pX,pW⟩:=HGP.out rfl;obtain⟨q,rfl⟩:=Lp pX;rw[Lo] at cD;have iq:=zH cD;clear cD;have EA:q<N:=by omega
   have hP:((2^q:Nat):Int)=(2:Int)^q:=by push_cast;rfl
   have IW:=L6 (n:=2) (show 0<2 by omega) (show q<=4 by omega);have nM:(0:Int)<(2:Int)^q:=by rw[<-hP];exact Int.natCast_pos.2 (Nat.two_pow_pos q)
   have eU:(2:Int)^q<=16:=by rw[<-hP];omega
   have h2w:IntKind.i64.wrap ((2:Int)^q)=(2:Int)^q:=by rw[Ls];omega
   have VP:¬(q:Int)<0:=by omega
   have az:Aw (evL (ptn s) (yB s) (zS (2^q) N) a=xQ (ptn s) (yB s q) a):=by rw[Aw,bits_one EA fl,ev_one]
   have WZ:=zH hP;clear aB;go_upto_region 12 with fail
   clear q0 q1 q2 q3 q4 q5;refine zw [(0,AA),(1,AA),(2,AA),(3,AA),(4,AA),(5,AC),(6,AC)] (fun X=>Ar w1.heap.size w1 X) (by kernel_rfl) (by kernel_rfl) E3.out.drew ?_;have aT:Ar w3.heap.size w3 w3.drew:=(Ll _ _).drew;have E4:=zH (Lc E3.out aT);have Qa:=zH ((Qa.out.keep aT).more aT.size);clear aT
   repeat
    apply zA rfl
    . rintro K' ac X u
      obtain⟨p0,p1,p2,p3,p4,p5,p6,p7,p8,p9⟩:=zN (D0.out _ u);have r0:=zh (D1.out _ u) 0 rfl;obtain⟨q0,q1,q2,q3,q4,q5,_⟩:=Kg (D2.out _ u);clear u;go_simp;exact ac
   have C0:=(vo s K N HF.out (2^q) (by omega) a nG.out A SV AV AX Aa kc ks kv kx ca (w3.drew) (ip.out _ E4.out) Qa.out).mono fun _ _ h=>RetB.st (n:=ptn s) (xR ..) h
   rw[WZ.out,az.out] at C0;have C:=C0;unfold Sy.vs_ xU at C;clear C0 hP IW;have C:=zH C;refine zx rfl ?_;intro K' ac;go_simp;refine C.out.mono ?_;rintro e w5 ⟨Az,cz,rfl,hr,hb⟩;have E5:=zH (Lc E4.out hb);have Qz:=zH hr;clear hb hr C;refine ac _ _ E5.out ?_;clear ac K';refine zx rfl ?_;intro K' ac;go_simp;refine ac _ _ E5.out ?_;clear ac K';refine zO ?_;have bQ:=zH (Lc HB.out E5.out);go_wp2_with fail;go_ret
   first | exact⟨Az,cz,rfl,by rw[iq.out];exact Qz.out,bQ.out⟩ | exact⟨Az,⟨cz,rfl⟩,by rw[iq.out];exact Qz.out,bQ.out⟩
 . have cD:Cd=evG s a4 a:=iq.out
   obtain⟨pX,pW⟩:=tC.out (by omega);obtain⟨G,rfl⟩:=Lp pX;have hP:((2^N:Nat):Int)=(2:Int)^N:=by push_cast;rfl
   have IW:=L6 (n:=2) (show 0<2 by omega) fl;have hG:G<2^N:=by omega
   have eZ:G<32:=by omega
   have Hk:=zH hG;have Eq:=zH eZ;have dH:Aw (evG s (G:Int)=evL (ptn s) (yB s) (zS G N)):=by rw[Aw];unfold evG psG;rw[Lo,show s.n.toNat=N by rw[HF.out.n];rfl]
   clear hP IW hG eZ aB;rw[dH.out] at cD;have iq:=zH cD;clear cD;have C:=(vo s K N HF.out G Eq.out a nG.out A SV AV AX Aa kc ks kv kx ca w3 (ip.out _ E3.out) Qa.out).mono fun _ _ h=>RetB.st (n:=ptn s) (xR ..) h
   unfold Sy.vs_ xU at C;have C:=zH C;obtain⟨p0,p1,p2,p3,p4,p5,p6,p7,p8,p9⟩:=zN (D0.out _ E3.out);go_wp2_with fail;refine C.out.mono ?_;rintro e w9 ⟨Az,cz,rfl,hr,hb⟩;have E9:=zH (Lc E3.out hb);have Qz:=zH hr;clear hb hr C p0 p1 p2 p3 p4 p5 p6 p7 p8 p9 q0 q1 q2 q3 q4 q5;have bQ:=zH (Lc HB.out E9.out);go_wp2_with fail;go_ret
   first | exact⟨Az,cz,rfl,by rw[iq.out];exact Qz.out,bQ.out⟩ | exact⟨Az,⟨cz,rfl⟩,by rw[iq.out];exact Qz.out,bQ.out⟩
 . have cD:Cd=xQ (ptn s) (kp s a4) a:=iq.out
   obtain⟨pX,pW⟩:=tC.out (by omega);obtain⟨G,rfl⟩:=Lp pX;have hP:((2^N:Nat):Int)=(2:Int)^N:=by push_cast;rfl
   have IW:=L6 (n:=2) (show 0<2 by omega) fl;have hG:G<2^N:=by omega
   have eZ:G<32:=by omega
   have Hk:=zH hG;have Eq:=zH eZ;have dH:Aw (evG s (G:Int)=evL (ptn s) (yB s) (zS G N)):=by rw[Aw];unfold evG psG;rw[Lo,show s.n.toNat=N by rw[HF.out.n];rfl]
   clear hP IW hG eZ aB;have iq:=zH cD;clear cD;have C:=rall_any s K N HF.out G Hk.out A SV AV AX kc ks kv kx w3 (ip.out _ E3.out).fx;rw[<-togL_tgP HF.out.n] at C;unfold Sy.vs_ Xz at C;rw[show(kp s (G:Int)).length=ptn s from Yj s (G:Int)] at C;have C:=zH C;obtain⟨p0,p1,p2,p3,p4,p5,p6,p7,p8,p9⟩:=zN (D0.out _ E3.out);go_wp2_with fail;refine C.out.mono ?_;rintro e w8 ⟨A8,c8,rfl,ho,hb⟩;have E8:=zH (Lc E3.out hb);have Qa:=zH ((Qa.out.keep hb).more hb.size);have HI:=zH (YM ho);clear hb ho C p0 p1 p2 p3 p4 p5 p6 p7 p8 p9 q0 q1 q2 q3 q4 q5;have C:=(YC A8 Aa c8 ca (ptn s) (by omega) (kp s (G:Int)) a (Yj s (G:Int)) nG.out w8 HI.out Qa.out).mono fun _ _ h=>RetB.st (n:=ptn s) (yO ..) h
   unfold xU at C;have C:=zH C;go_wp2_with fail;refine C.out.mono ?_;rintro e w9 ⟨Az,cz,rfl,hr,hb⟩;have E9:=zH (Lc E8.out hb);have Qz:=zH hr;clear hb hr C;have bQ:=zH (Lc HB.out E9.out);go_wp2_with fail;go_ret
   first | exact⟨Az,cz,rfl,by rw[iq.out];exact Qz.out,bQ.out⟩ | exact⟨Az,⟨cz,rfl⟩,by rw[iq.out];exact Qz.out,bQ.out⟩
 have cD:Cd=yg (ptn s) (evG s a4) a (ptn s):=iq.out;obtain⟨pX,pW⟩:=tC.out (by omega);obtain⟨G,rfl⟩:=Lp pX;have hP:((2^N:Nat):Int)=(2:Int)^N:=by push_cast;rfl
 have IW:=L6 (n:=2) (show 0<2 by omega) fl;have hG:G<2^N:=by omega
 have eZ:G<32:=by omega
 have Hk:=zH hG;have Eq:=zH eZ;have dH:Aw (evG s (G:Int)=evL (ptn s) (yB s) (zS G N)):=by rw[Aw];unfold evG psG;rw[Lo,show s.n.toNat=N by rw[HF.out.n];rfl]
 clear hP IW hG eZ aB;rw[dH.out] at cD;obtain⟨M,M5,fh,aa,oT⟩:=now_end (n:=ptn s) (cls:=yB s) (ps:=zS G N) a;rw[oT] at cD;have iq:=zH cD;clear cD;have C:=Jc s K N HF.out G Eq.out a nG.out M M5 fh aa A SV AV AX Aa kc ks kv kx ca w3 (ip.out _ E3.out) Qa.out;unfold Sy.vs_ at C;have C:=zH C;clear fh aa oT;obtain⟨p0,p1,p2,p3,p4,p5,p6,p7,p8,p9⟩:=zN (D0.out _ E3.out);go_wp2_with fail;refine C.out.mono ?_;rintro e w9 ⟨gz,rfl,_,hr,hb⟩;have E9:=zH (Lc E3.out hb);have Dd:=zH hr;have bQ:=zH (Lc HB.out E9.out);clear hb hr C p0 p1 p2 p3 p4 p5 p6 p7 p8 p9 q0 q1 q2 q3 q4 q5;go_wp2_with fail;go_ret
 first | exact⟨J ⟨gz,0,Z⟩,ptn s,rfl,by rw[iq.out];exact Dd.out.at_ Dd.out.lt,bQ.out⟩ | exact⟨J ⟨gz,0,Z⟩,⟨ptn s,rfl⟩,by rw[iq.out];exact Dd.out.at_ Dd.out.lt,bQ.out⟩
theorem XZ(s:Sy)(K N:Nat)(hF:Fine s K N)(th:ptn s<=700)(out:List Int)(nu:∀g:Fm,xV N g.h g.args.length=0->g.args.length=0->AtrW s K N out g.h)(A SV AV AX AR:Bb)(kc ks kv kx cr:Nat):∀(d:Nat) (f:Fm) (AF:Bb) (cf:Nat) (w:Ba),evOk N d f->FsAt w w.heap.size d AF f.args->SyAt w w.heap.size A SV AV AX s->IAt w w.heap.size AR out ->
  As Aq 32 #[.agg (s.vs_ A kc SV ks AV kv AX kx),Ak #[I AR out.length cr],.agg (f.vs AF cf)] w (xU (ptn s) (vK s out d f) w)
 | 0,f,AF,cf,w,fB,hA,hS,hO=>by
  have h0:f.args.length=0:=by rw[fB.2];rfl
  have h1:f.h.op<=13:=nod_leaf (by rw[<-h0];exact fB.1);have:=Yi s K N hF th out f fB.1 h1 (nu f fB.1) (fun _=>List.replicate (ptn s) AC) (fun _=>LQ) A SV AV AX AR AF kc ks kv kx cr cf w hS hO (fun i hi=>by omega);rw[Li h0] at this;exact this
 | d+1,f,AF,cf,w,fB,hA,hS,hO=>
  Yi s K N hF th out f fB.1 fB.2.1 (nu f fB.1) (vK s out d) (vJ s out d) A SV AV AX AR AF kc ks kv kx cr cf w hS hO (fun i hi=>by
   obtain⟨b,o,e,aa,hr⟩:=hA (by omega);obtain⟨A',c',h1,h2⟩:=hr i hi
   exact⟨b,o,A',c',e,aa,fun X hX j v hv=>(hX.cell aa).trans (h1 j v hv),fun X hX=>XZ s K N hF th out nu A SV AV AX AR kc ks kv kx cr d _ A' c' X (fB.2.2 _ (Ld hi)) ((h2.keep hX).more hX.size) (hS.up hX) ((hO.keep hX).more hX.size)⟩)
theorem fml_leaf{n:Int}{N:Nat}(hn:n=(N:Int))(h1:1<=N)(h5:N<=5){h:Fh}(he:xV N h 0=0):qH n 0 (Fm.mk h [])=0:=by
 unfold qH;rw[Lg (by omega),Lg (by show ¬(jk (1,1)≠0);decide)];show ZU n.toNat (fun _=>0) (Fm.mk h [])=0;unfold ZU;rw[show n.toNat=N by omega];have h2:xV N (Fm.mk h []).h (Fm.mk h []).args.length=0:=he;rw[Lg (by simpa using h2)];rfl
theorem leaf_of{s:Sy}(hf:xz s.p){K N:Nat}(hF:Fine s K N)(hv:yh s=0){out:List Int}(h1:¬(0<out.length/\out.length≠s.vs.length))(g:Fm)(hn:xV N g.h g.args.length=0)(ha:g.args.length=0):AtrW s K N out g.h:=by
 have hg:ZV s out 0 (Fm.mk g.h [])=0:=by
  unfold ZV;rw[Lg (by simpa using hv),Lg h1];exact fml_leaf hF.n hF.n1 hF.n5 (by rw[<-ha];exact hn)
 obtain⟨K',N',hW⟩:=atrW_of hf hg rfl;have e1:N'=N:=by have:=hW.fine.n;have:=hF.n;omega
 have e2:K'=K:=by have:=hW.fine.k;have:=hF.k;omega
 subst e1;subst e2;exact hW
theorem eva_gvn(s:Sy)(out:List Int)(d:Nat)(f:Fm):ZX s out d f=if ZV s out d f≠0 then ([],ZV s out d f) else if uE d f=AA then ([],11) else (vK s out d f,0):=by
 unfold ZX ZV
 by_cases h0:yh s=0
 . by_cases h1:0<out.length/\out.length≠s.vs.length
   . simp[h0,h1]
   simp only[h0,h1];simp
 simp[h0]
theorem r37eval_any(s:Sy)(hs:LowS s)(hf:xz s.p)(out:List Int)(d:Nat)(f:Fm)(aX:(yd d f).1<=1000000)(A SV AV AX AR AF:Bb)(kc ks kv kx cr cf:Nat)(w:Ba)(hS:SyAt w w.heap.size A SV AV AX s)(hO:IAt w w.heap.size AR out)(hA:FsAt w w.heap.size d AF f.args) :
  As Aq 10 #[.agg (s.vs_ A kc SV ks AV kv AX kx),Ak #[I AR out.length cr],.agg (f.vs AF cf)] w (vR (ZX s out d f) w):=by
 obtain⟨wa,dU,da,fG,ik⟩:=zk w (s.vs_ A kc SV ks AV kv AX kx) 35;obtain⟨wb,en,db,fi,fb⟩:=zk wa #[I AR out.length cr] 38;obtain⟨w1,ab,dc,ns,eF⟩:=zk wb (f.vs AF cf) 41;have hB:Ar w.heap.size w w1:=(ik.trans (fb.mono (by omega))).trans (eF.mono (by omega));have Oe:=zH (fun (X:Ba) (hX:Ar w1.heap.size w1 X)=>Jb s hs hf out d f aX A SV AV AX AR AF kc ks kv kx cr cf X ((hS.up hB).up hX) ((((hA.keep hB).more hB.size).keep hX).more hX.size));have tx:=zH (fun (X:Ba) (hX:Ar w1.heap.size w1 X)=>J9 d f AF cf X ((((hA.keep hB).more hB.size).keep hX).more hX.size) aX)
 have fW:Aw (ZV s out d f=0->uE d f=AC->∀X,Ar w1.heap.size w1 X->As Aq 32 #[.agg (s.vs_ A kc SV ks AV kv AX kx),Ak #[I AR out.length cr],.agg (f.vs AF cf)] X (xU (ptn s) (vK s out d f) X)):=fun hg ht X hX=>by
  unfold ZV at hg
  by_cases h0:yh s≠0
  . rw[Li h0] at hg;exact absurd hg h0
  rw[Lg h0] at hg
  by_cases h1:0<out.length/\out.length≠s.vs.length
  . rw[Li h1] at hg;cases hg
  rw[Lg h1] at hg;have hv:yh s=0:=by simpa using h0
  obtain⟨_,K,N,hF⟩:=yJ hf hv
  have th:ptn s<=700:=by
   have hk:=hF.k;have oF:=hF.k6;have:=LU hF.lx (show s.p.k.toNat+1<=7 by omega);unfold ptn;omega
  have hn:=fml_nods hg;rw[show s.n.toNat=N by rw[hF.n];rfl] at hn;exact XZ s K N hF th out (leaf_of hf hF hv h1) A SV AV AX AR kc ks kv kx cr d f AF cf X (JH hA hn ht) ((((hA.keep hB).more hB.size).keep hX).more hX.size) ((hS.up hB).up hX) ((((hO.keep hB).more hB.size).keep hX).more hX.size)
 have dH:=eva_gvn s out d f;have Eo:=vJ s out d f;obtain⟨R,hR⟩:=Ki (ZX s out d f);rw[hR] at dH ⊢;obtain⟨L,hL⟩:=Ki (vK s out d f);rw[hL] at dH Eo fW;obtain⟨g,hg⟩:=Ki (ZV s out d f);rw[hg] at dH fW Oe;obtain⟨b,hb⟩:=Ki (uE d f);rw[hb] at dH fW tx;have dH:=zH dH;have Eo:=zH Eo;unfold xU at fW;unfold vR;unfold Sy.vs_ at dU da Oe fW ⊢;unfold Fm.vs at ab dc Oe fW ⊢;rw[fG] at fi db;rw[fi] at ns dc;have D0:Aw (∀X,Ar w1.heap.size w1 X->X.heap[w.heap.size]?=J (Ai #[O U s.p.t.n,O U s.p.t.ins,O U s.p.t.outs,I A s.p.t.cases.length kc,O U s.p.a.n,I SV s.p.a.sts.length ks,O U s.p.k,O U s.n,I AV s.vs.length kv,I AX s.xs.length kx] 35 (0,0))):=fun X hX=>Lb (hX.mono (by omega:w.heap.size+1<=_)) (by omega) (Lb eF (by omega) (Lb fb (by omega) da))
 have D1:Aw (∀X,Ar w1.heap.size w1 X->X.heap[w.heap.size+1]?=J (Ai #[I AR out.length cr] 38 (0,0))):=fun X hX=>Lb hX (by omega) (Lb eF (by omega) db)
 have D2:Aw (∀X,Ar w1.heap.size w1 X->X.heap[w.heap.size+1+1]?=J (Ai #[O U f.h.op,O U f.h.p,O U f.h.o,O U f.h.v,O U f.h.g,I AF f.args.length cf] 41 (0,0))):=fun X hX=>Lb hX (by omega) dc
 have ai:Aw (((w.alloc (Ai #[O U s.p.t.n,O U s.p.t.ins,O U s.p.t.outs,I A s.p.t.cases.length kc,O U s.p.a.n,I SV s.p.a.sts.length ks,O U s.p.k,O U s.n,I AV s.vs.length kv,I AX s.xs.length kx] 35)).alloc (Ai #[I AR out.length cr] 38)).alloc (Ai #[O U f.h.op,O U f.h.p,O U f.h.o,O U f.h.v,O U f.h.g,I AF f.args.length cf] 41)=w1):=by rw[dU,en];exact ab
 have E1:Aw (Ar w1.heap.size w1 w1):=Ll _ _;have HB:=zH hB;unfold Fm.vs at tx;clear dU en ab da db dc ik fb eF hB hS hO hA hR hL hg hb fG fi ns;obtain⟨p0,p1,p2,p3,p4,p5,p6,p7,p8,p9⟩:=zN (D0.out _ E1.out);have r0:=zh (D1.out _ E1.out) 0 rfl;obtain⟨f0,f1,f2,f3,f4,f5,_⟩:=Kg (D2.out _ E1.out);go_enter func10,ntmps10;go_upto_region 1 with fail
 rw[ai.out];have C:=zH (Oe.out w1 E1.out);go_wp2_with fail;refine C.out.mono ?_;rintro e w2 ⟨rfl,hb⟩;have E2:=zH hb
 by_cases h0:g=0
 case neg=>
  have e0:(g != 0)=AA:=by simpa using h0
  have aH:Aw (R=([],g)):=dH.out.trans (Li h0);have bQ:=zH (Lc HB.out E2.out);go_wp2_with fail
  go_ret2
  rw[aH.out];exact⟨Z,0,rfl,fun h=>absurd h (by simp),bQ.out⟩
 subst h0;have Eh:=zH (fW.out rfl);have dH:Aw (R=if b=AA then ([],11) else (L,0)):=dH.out.trans (Lg (by simp));have C:=zH (tx.out w2 E2.out);obtain⟨f0,f1,f2,f3,f4,f5,_⟩:=Kg (D2.out _ E2.out);clear tx;go_wp2_with fail;refine C.out.mono ?_;rintro e w3 ⟨rfl,hb⟩;have E3:=zH (Lc E2.out hb);clear hb C f0 f1 f2 f3 f4 f5
 cases b with
 | true=>
  have aH:Aw (R=([],11)):=dH.out;have bQ:=zH (Lc HB.out E3.out);clear dH Eh;go_wp2_with fail
  go_ret2
  rw[aH.out];exact⟨Z,0,rfl,fun h=>absurd h (by simp),bQ.out⟩
 | false=>
  have aH:Aw (R=(L,0)):=dH.out;have C:=zH (Eh.out rfl w3 E3.out);obtain⟨p0,p1,p2,p3,p4,p5,p6,p7,p8,p9⟩:=zN (D0.out _ E3.out);have r0:=zh (D1.out _ E3.out) 0 rfl;obtain⟨f0,f1,f2,f3,f4,f5,_⟩:=Kg (D2.out _ E3.out);clear Eh dH;go_wp2_with fail;refine C.out.mono ?_;rintro e w4 ⟨A4,c4,rfl,hr,hb⟩;have E4:=zH (Lc E3.out hb);have HR:=zH hr;have bQ:=zH (Lc HB.out E4.out);clear hr hb C f0 f1 f2 f3 f4 f5;go_wp2_with fail
  go_ret2
  rw[aH.out];refine⟨A4,c4,?_,HR.out,bQ.out⟩;show _=Am (.tuple #[I A4 L.length c4,O U 0]);rw[Eo.out];rfl
theorem eva_lens{s:Sy}(hf:xz s.p)(out:List Int)(d:Nat)(f:Fm):(ZX s out d f).1.length<=700:=by
 unfold ZX
 split
 . simp
 rename_i h
 split
 . simp
 split
 . simp
 split
 . simp
 rw[vJ];obtain⟨_,K,N,hF⟩:=yJ hf (by simpa using h);have hk:=hF.k;have oF:=hF.k6;have:=LU hF.lx (show s.p.k.toNat+1<=7 by omega);unfold ptn;omega
theorem law_kevals(s:Sy)(hl:LowSy s)(A SV AV AX:Bb)(kc ks kv kx:Nat)(out:List Int)(_hlr:out.length<=17592186044416)(AR:Bb)(cr:Nat)(f:Fm)(d:Nat)(_hlf:f.args.length<=17592186044416)(AF:Bb)(cf:Nat)(w:Ba)(hT:RowTab w)(hS:SyAt w w.heap.size A SV AV AX s)(hO:IAt w w.heap.size AR out)(hA:FsAt w w.heap.size d AF f.args) :
  As Aq 3 #[.agg (s.vs_ A kc SV ks AV kv AX kx),Ak #[I AR out.length cr],.agg (f.vs AF cf)] w fun e w'=>e=Am (Aj AA)/\Ar w.heap.size w w':=by
 obtain⟨wa,dU,da,fG,ik⟩:=zk w (s.vs_ A kc SV ks AV kv AX kx) 35;obtain⟨wb,en,db,fi,fb⟩:=zk wa #[I AR out.length cr] 38;obtain⟨w1,ab,dc,ns,eF⟩:=zk wb (f.vs AF cf) 41;have hB:Ar w.heap.size w w1:=(ik.trans (fb.mono (by omega))).trans (eF.mono (by omega));have DV:∀X,Ar w1.heap.size w1 X->SyAt X X.heap.size A SV AV AX s/\IAt X X.heap.size AR out/\FsAt X X.heap.size d AF f.args:=fun X hX=>⟨(hS.up hB).up hX,(((hO.keep hB).more hB.size).keep hX).more hX.size,(((hA.keep hB).more hB.size).keep hX).more hX.size⟩
 have ry:Aw (∀X,Ar w1.heap.size w1 X->RowTab X):=fun X hX=>hT.keep (Lc hB hX) hT.1
 have Mc:=zH (fewS_any s hl A SV AV AX kc ks kv kx w1 (hS.up hB));have Cx:=zH (fun (X:Ba) (hX:Ar w1.heap.size w1 X)=>rfewF10_any d f AF cf X (DV X hX).2.2);have HLI:=zH (fun (hz:(yd d f).1<140) (X:Ba) (hX:Ar w1.heap.size w1 X)=>light_any d f AF cf X (DV X hX).2.2 (by omega));have iN:=zH (fun (h:wP s=AA)=>eva_lens (jc hl h).1 out d f);have C0:=zH (fun (h:wP s=AA) (hz:(yd d f).1<140) (X:Ba) (hX:Ar w1.heap.size w1 X)=>QC s (jc hl h).2.2.1 (jc hl h).1 out d f (by omega) A SV AV AX AF AR kc ks kv kx cf cr X (ry.out X hX) (DV X hX).1 (DV X hX).2.1 (DV X hX).2.2);have C1:=zH (fun (h:wP s=AA) (hz:(yd d f).1<140) (X:Ba) (hX:Ar w1.heap.size w1 X)=>r37eval_any s (jc hl h).2.2.1 (jc hl h).1 out d f (by omega) A SV AV AX AR AF kc ks kv kx cr cf X (DV X hX).1 (DV X hX).2.1 (DV X hX).2.2);obtain⟨R,hR⟩:=Ki (ZX s out d f);rw[hR] at C0 C1 iN;obtain⟨z,hz⟩:=Ki ((yd d f).1);simp only[hz] at C0 C1 Cx HLI;obtain⟨F,hF⟩:=Ki (wP s);rw[hF] at Mc C0 C1 iN;unfold vR at C0 C1;unfold wY at HLI;unfold Sy.vs_ at dU da C0 C1 ⊢;unfold Fm.vs at ab dc C0 C1 ⊢;rw[fG] at fi db;rw[fi] at ns dc
 have D0:Aw (∀X,Ar w1.heap.size w1 X->X.heap[w.heap.size]?=J (Ai #[O U s.p.t.n,O U s.p.t.ins,O U s.p.t.outs,I A s.p.t.cases.length kc,O U s.p.a.n,I SV s.p.a.sts.length ks,O U s.p.k,O U s.n,I AV s.vs.length kv,I AX s.xs.length kx] 35 (0,0))):=fun X hX=>Lb (hX.mono (by omega:w.heap.size+1<=_)) (by omega) (Lb eF (by omega) (Lb fb (by omega) da))
 have D1:Aw (∀X,Ar w1.heap.size w1 X->X.heap[w.heap.size+1]?=J (Ai #[I AR out.length cr] 38 (0,0))):=fun X hX=>Lb hX (by omega) (Lb eF (by omega) db)
 have D2:Aw (∀X,Ar w1.heap.size w1 X->X.heap[w.heap.size+1+1]?=J (Ai #[O U f.h.op,O U f.h.p,O U f.h.o,O U f.h.v,O U f.h.g,I AF f.args.length cf] 41 (0,0))):=fun X hX=>Lb hX (by omega) dc
 have ai:Aw (((w.alloc (Ai #[O U s.p.t.n,O U s.p.t.ins,O U s.p.t.outs,I A s.p.t.cases.length kc,O U s.p.a.n,I SV s.p.a.sts.length ks,O U s.p.k,O U s.n,I AV s.vs.length kv,I AX s.xs.length kx] 35)).alloc (Ai #[I AR out.length cr] 38)).alloc (Ai #[O U f.h.op,O U f.h.p,O U f.h.o,O U f.h.v,O U f.h.g,I AF f.args.length cf] 41)=w1):=by rw[dU,en];exact ab
 have E1:Aw (Ar w1.heap.size w1 w1):=Ll _ _;have HB:=zH hB;unfold Sy.vs_ at Mc;unfold Fm.vs at Cx HLI;clear dU en ab da db dc ik fb eF hB hS hO hA DV hR hF hz hl hT fG fi ns;obtain⟨p0,p1,p2,p3,p4,p5,p6,p7,p8,p9⟩:=zN (D0.out _ E1.out);have r0:=zh (D1.out _ E1.out) 0 rfl;obtain⟨f0,f1,f2,f3,f4,f5,_⟩:=Kg (D2.out _ E1.out);go_enter func3,ntmps3;go_upto_region 1 with fail
 rw[ai.out];go_wp2_with fail;refine Mc.out.mono ?_;rintro e w2 ⟨rfl,hb⟩;have E2:=zH hb
 cases F with
 | false=>
  go_wp2_with fail;refine(kG w2 (ry.out _ E2.out)).mono ?_;rintro e v3 ⟨rfl,aj⟩;have B3:=zH (HB.out.trans ((Lc E2.out aj).mono HB.out.size));go_wp2_with fail;go_ret;exact⟨rfl,B3.out⟩
 | true=>
 have VH:=zH (C0.out rfl);have VG:=zH (C1.out rfl);have LN:=zH (iN.out rfl);have r0:=zh (D1.out _ E2.out) 0 rfl;obtain⟨f0,f1,f2,f3,f4,f5,_⟩:=Kg (D2.out _ E2.out);go_wp2_with fail;refine(rfewR_any AR out.length cr w2).mono ?_;rintro e w3 ⟨rfl,hb⟩;have E3:=zH (Lc E2.out hb)
 by_cases DE:out.length<=2000
 case neg=>
  rw[Lj DE];go_wp2_with fail;refine(kG w3 (ry.out _ E3.out)).mono ?_;rintro e v3 ⟨rfl,aj⟩;have B3:=zH (HB.out.trans ((Lc E3.out aj).mono HB.out.size));go_wp2_with fail;go_ret;exact⟨rfl,B3.out⟩
 rw[Lm DE];have r0:=zh (D1.out _ E3.out) 0 rfl;obtain⟨f0,f1,f2,f3,f4,f5,_⟩:=Kg (D2.out _ E3.out);go_wp2_with fail;refine(Cx.out w3 E3.out).mono ?_;rintro e w4 ⟨rfl,hb⟩;have E4:=zH (Lc E3.out hb)
 by_cases Oq:z<140
 case neg=>
  rw[Lj Oq];go_wp2_with fail;refine(kG w4 (ry.out _ E4.out)).mono ?_;rintro e v3 ⟨rfl,aj⟩;have B3:=zH (HB.out.trans ((Lc E4.out aj).mono HB.out.size));go_wp2_with fail;go_ret;exact⟨rfl,B3.out⟩
 rw[Lm Oq];have VH:=zH (VH.out Oq);have VG:=zH (VG.out Oq);have C:=zH (HLI.out Oq w4 E4.out);have p7:=zh (D0.out _ E4.out) 7 rfl;have p8:=zh (D0.out _ E4.out) 8 rfl;have p9:=zh (D0.out _ E4.out) 9 rfl;have r0:=zh (D1.out _ E4.out) 0 rfl;obtain⟨f0,f1,f2,f3,f4,f5,_⟩:=Kg (D2.out _ E4.out);go_wp2_with fail;refine C.out.mono ?_;rintro e w5 ⟨bl,rfl,hb⟩;have E5:=zH (Lc E4.out hb);clear hb C r0 f0 f1 f2 f3 f4 f5
 cases bl with
 | false=>
  clear VH VG LN;go_wp2_with fail;refine(kG w5 (ry.out _ E5.out)).mono ?_;rintro e v3 ⟨rfl,aj⟩;have B3:=zH (HB.out.trans ((Lc E5.out aj).mono HB.out.size));clear aj;go_wp2_with fail;go_ret;exact⟨rfl,B3.out⟩
 | true=>
 have C:=zH (VH.out w5 E5.out);clear VH;obtain⟨p0,p1,p2,p3,p4,p5,p6,p7,p8,p9⟩:=zN (D0.out _ E5.out);have r0:=zh (D1.out _ E5.out) 0 rfl;obtain⟨f0,f1,f2,f3,f4,f5,_⟩:=Kg (D2.out _ E5.out);go_wp2_with fail;refine C.out.mono ?_;rintro e w6 ⟨A6,c6,rfl,hr,hb⟩;have E6:=zH (Lc E5.out hb);have Q6:=zH hr;have C:=zH (VG.out w6 E6.out);clear hr hb VG r0 f0 f1 f2 f3 f4 f5;obtain⟨p0,p1,p2,p3,p4,p5,p6,p7,p8,p9⟩:=zN (D0.out _ E6.out);have r0:=zh (D1.out _ E6.out) 0 rfl;obtain⟨f0,f1,f2,f3,f4,f5,_⟩:=Kg (D2.out _ E6.out);go_wp2_with fail;refine C.out.mono ?_;rintro e w7 ⟨A7,c7,rfl,hr,hb⟩;have E7:=zH (Lc E6.out hb);have Q6:=zH ((Q6.out.keep hb).more hb.size);have Q7:=zH hr;clear hr hb C r0 f0 f1 f2 f3 f4 f5;go_wp2_with fail;refine(kG w7 (ry.out _ E7.out)).mono ?_;rintro e w8 ⟨rfl,hb⟩;have E8:=zH (Lc E7.out hb);have Q6:=zH ((Q6.out.keep hb).more hb.size);have Q7:=zH ((Q7.out.keep hb).more hb.size);clear hb;have HC:=Yb A6 A7 c6 c7 R.1 R.1 w8 w8.heap.size (Le _) Q6.out Q7.out (by have:=LN.out;omega) (by have:=LN.out;omega);rw[show decide (R.1=R.1)=AA by simp] at HC;have HC:=zH HC;clear Q6 Q7 LN;go_wp2_with fail;refine HC.out.mono ?_;rintro e w9 ⟨rfl,n9,hn9⟩;have dJ:Ar w8.heap.size w8 w9:=by rw[hn9];exact zP (Ll _ _) n9
 have B3:=zH (HB.out.trans ((Lc E8.out dJ).mono HB.out.size));clear dJ hn9 HC;go_wp2_with fail;go_ret;exact⟨rfl,B3.out⟩
end
end Go.Proofs.YtjedjoeidcbffaaGreatDoor
