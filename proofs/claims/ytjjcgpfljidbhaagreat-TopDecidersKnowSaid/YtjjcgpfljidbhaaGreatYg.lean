/- Merged. -/
import Derived.Test.YtjjcgpfljidbhaaGreatYf
import Derived.Sort.OwnSortedInts
import Derived.Lib.RowBridge
import Derived.Sort.CutIn
open Go.Proofs.Tryz
open Go.Value renaming int->O,slice->I,bool->Ah,agg->Ai,pointer->Aj
open Go.IntKind renaming i64->U
open Option renaming none->Z,some->J
open Go.Obj renaming cells->Ag
open Go.Ending renaming returned->Ak
open Go.Proofs.Tryz renaming prog->Al,underlying39->Pj
open Go.RowKit renaming Below->Am,intOf->Ao,Hid->Ap
open Go renaming Calls->An,Value->Aq
open Bool renaming true->Ar,false->As
open List renaming length_mergeSort->N5,take_add_one->Rz
namespace Go.Proofs.YtjjcgpfljidbhaaGreat
abbrev Rr:=@List.findIdx?_eq_some_iff_getElem
set_option maxRecDepth 100000
set_option maxHeartbeats 4000000
section
open Go.RowKit Go.Shelf
attribute [local go_sem] Oper.semAt_some
theorem uK(t:Tk)(h:zX t=0)(N:Nat)(hN:t.n=(N:Int))(h5:N<=5)(i f:Nat)(hi:i<t.cases.length)(hf:f<2^N)(A:Bb)(kc:Nat)(w:Ba)
  (HC:∀X,Am w.heap.size w X->An Al 63 #[Ai #[O U t.n,O U t.ins,O U t.outs,I A t.cases.length kc]] X fun e w'=>e=Ak (O U (zX t))/\Am X.heap.size X w') :
  An Al 21 #[Ai #[O U t.n,O U t.ins,O U t.outs,I A t.cases.length kc],O U (i:Int),O U (f:Int)] w fun e w'=>e=Ak (O U 0)/\Am w.heap.size w w':=by
 obtain⟨w1,ac,d0,aA,aG⟩:=zh w #[O U t.n,O U t.ins,O U t.outs,I A t.cases.length kc] 24;have rB:=zH (HC w1 aG);rw[h] at rB;rw[hN] at rB ac d0 ⊢;have ah:=zH ac;have dk:=zH aG;have HD:=zH d0;have ta:¬(i:Int)<0:=by omega
 have KH:¬(t.cases.length:Int)<=(i:Int):=by omega
 have EQ:¬(f:Int)<0:=by omega
 obtain⟨p0,p1,p2,p3,_⟩:=Kb d0;have RT:min N 64=N:=by omega
 have WC:(0:Int)<=(N:Int):=by omega
 have hp:((2^N:Nat):Int)=2^N:=by push_cast;rfl
 have dQ:2^N<=32:=LE (LZ (by omega) h5) (by decide);have fw:IntKind.i64.wrap ((2:Int)^N)=(2:Int)^N:=by rw[Lv];omega
 have dZ:¬(2:Int)^N<=(f:Int):=by omega
 clear ac d0 aA aG HC hi hf hp dQ h;go_enter func21,ntmps21;go_upto_region 1 with fail
 rw[ah.out];go_wp2_with fail;refine rB.out.mono ?_;rintro e w2 ⟨rfl,af⟩;have aP:=zH (Lc dk.out af);have d2:=La af HD.out;have p0:=za d2 0 rfl;have p3:=za d2 3 rfl;clear d2 af;go_wp2_with fail;go_ret;exact⟨rfl,aP.out⟩
theorem ZF(x:Exn)(hl:x.word.length<=100)(A1 A2:Bb)(a1 a2:Nat)(w:Ba)(hW:RAt w w.heap.size A1 x.word) :
  An Al 19 #[Ai #[O U x.c,I A1 x.word.length a1,I A2 x.views.length a2]] w fun e w'=>e=Ak (O U (yf x))/\Am w.heap.size w w':=by
 obtain⟨w1,ac,d0,aA,hB⟩:=zh w #[O U x.c,I A1 x.word.length a1,I A2 x.views.length a2] 49;have ah:=zH ac;have HB:=zH hB;have fg:=zH (@ql x);have cG:=zH (fun (k:Nat) (h:x.word.length=k+1)=>qm h);obtain⟨F,hF⟩:=Kh (yf x);rw[hF] at fg cG ⊢;have x1:=za d0 1 rfl;rcases LX x.word.length with h | h
 . have hR:=zH (fg.out h)
   rw[h] at x1 ac;have ah:=zH ac;clear ac d0 hB fg cG hF hW;rw[h];clear h;go_enter func19,ntmps19;go_wp2_with fail;rw[ah.out];go_wp2_with fail
   all_goals first | (exfalso;omega) | skip
   go_ret;exact⟨zd hR.out.symm,HB.out⟩
 obtain⟨k,hk⟩:∃k,x.word.length=k+1:=⟨x.word.length-1,by omega⟩;have hR:=zH (cG.out k hk);obtain⟨b,o,eA,hb,t0,t1,t2,t3,t4,t5,r6⟩:=hW.row k (by omega);subst eA;have fz:IntKind.i64.wrap (((k+1:Nat):Int)-1)=(k:Int):=by rw[Lv];omega
 obtain⟨f,hf⟩:=Kh ((x.word[k]'(by omega)).f);rw[hf] at hR r6;rw[hk];obtain⟨L,hL⟩:=Kh (k+1);rw[hL] at fz ⊢;have Tf:(0:Int)<(L:Int):=by omega
 have R7:(k:Int)<(L:Int):=by omega
 have cA:(0:Int)<=(k:Int):=by omega
 have Td:¬(L:Int)=0:=by omega
 clear ac d0 hB fg cG hF hW x1 ah HB t0 t1 t2 t3 t4 t5 hf hL hk h;go_enter func19,ntmps19;go_wp2_with fail;go_ret;exact⟨zd hR.out.symm,zN w _⟩
theorem gz(x:Exn)(hl:x.word.length<=100)(A1 A2:Bb)(a1 a2:Nat)(w:Ba)(hW:RAt w w.heap.size A1 x.word) :
  An Al 7 #[Ai #[O U x.c,I A1 x.word.length a1,I A2 x.views.length a2]] w fun e w'=>e=Ak (O U (yf x))/\Am w.heap.size w w':=by
 obtain⟨w1,ac,d0,aA,hB⟩:=zh w #[O U x.c,I A1 x.word.length a1,I A2 x.views.length a2] 49;have ah:=zH ac;have HB:=zH hB;have fg:=zH (@ql x);have cG:=zH (fun (k:Nat) (h:x.word.length=k+1)=>qm h);obtain⟨F,hF⟩:=Kh (yf x);rw[hF] at fg cG ⊢;have x1:=za d0 1 rfl;rcases LX x.word.length with h | h
 . have hR:=zH (fg.out h)
   rw[h] at x1 ac;have ah:=zH ac;clear ac d0 hB fg cG hF hW;rw[h];clear h;go_enter func7,ntmps7;go_wp2_with fail;rw[ah.out];go_wp2_with fail
   all_goals first | (exfalso;omega) | skip
   go_ret;exact⟨zd hR.out.symm,HB.out⟩
 obtain⟨k,hk⟩:∃k,x.word.length=k+1:=⟨x.word.length-1,by omega⟩;have hR:=zH (cG.out k hk);obtain⟨b,o,eA,hb,t0,t1,t2,t3,t4,t5,r6⟩:=hW.row k (by omega);subst eA;have fz:IntKind.i64.wrap (((k+1:Nat):Int)-1)=(k:Int):=by rw[Lv];omega
 obtain⟨f,hf⟩:=Kh ((x.word[k]'(by omega)).f);rw[hf] at hR r6;rw[hk];obtain⟨L,hL⟩:=Kh (k+1);rw[hL] at fz ⊢;have Tf:(0:Int)<(L:Int):=by omega
 have R7:(k:Int)<(L:Int):=by omega
 have cA:(0:Int)<=(k:Int):=by omega
 have Td:¬(L:Int)=0:=by omega
 clear ac d0 hB fg cG hF hW x1 ah HB t0 t1 t2 t3 t4 t5 hf hL hk h;go_enter func7,ntmps7;go_wp2_with fail;go_ret;exact⟨zd hR.out.symm,zN w _⟩
theorem ZG(n:Int)(A:Bb)(cap:Nat)(vs:List Vw)(j:Nat)(hj:j<vs.length)(q:Nat)(im:q<5)(Au:vs[j].p=(q:Int))(w:Ba)(hV:VAt w w.heap.size A vs) :
  An Al 100 #[Ai #[O U n,I A vs.length cap],O U (j:Int)] w fun e w'=>e=Ak (O U (xx vs j))/\Am w.heap.size w w':=by
 obtain⟨W0,ch,b0,hsz,bX⟩:=zh w #[O U n,I A vs.length cap] 36;obtain⟨b,off,rfl,aH,c0,c1,c2,c3,c4,c5,c6,c7⟩:=(hV.keep bX).row j hj
 have hz:Ap (xx vs j=if vs[j].r=0 then -1 else vs[j].h q):=by
  show xx vs j=_;unfold xx;rw[Z1 hj,Au,Lj]
 have fq:=zH ch;have dF:=zH bX;have t1:=za b0 1 rfl;have GH:(0:Int)<=(j:Int):=by omega
 have EG:(j:Int)<(vs.length:Int):=by omega
 obtain⟨W1,cV,g1,aA,aG⟩:=zh W0 vs[j].cells 144;have dk:=zH (bX.trans (aG.mono (by omega)));have y0:W1.cell? ⟨W0.heap.size,0,Z⟩=J (O U (q:Int)):=by rw[<-Au];exact za g1 0 rfl
 have y1:W1.cell? ⟨W0.heap.size,1,Z⟩=J (O U vs[j].r):=za g1 1 rfl;have y3:=za g1 (3+q) (vs[j].cells_h q im);unfold Vw.cells at cV;have ah:=zH cV;rw[Au] at c0 ah;have oG:(0:Int)<=(q:Int):=by omega
 have mW:(q:Int)<5:=by omega
 clear ch cV bX aG b0 g1 aA hV hsz
 by_cases hr:vs[j].r=0
 . have e1:(vs[j].r==0)=Ar:=by simp[hr]
   have HR:=zH (hz.out.trans (Lo hr));clear hr hz;go_enter func100,ntmps100;go_upto_region 1 with fail
   rw[fq.out];go_upto_region 2 with fail
   rw[ah.out];go_wp2_with fail;go_ret;exact⟨zd HR.out.symm,dk.out⟩
 have e1:(vs[j].r==0)=As:=by simp[hr]
 have HR:=zH (hz.out.trans (Li hr));clear hr hz;go_enter func100,ntmps100;go_upto_region 1 with fail
 rw[fq.out];go_upto_region 2 with fail
 rw[ah.out];go_wp2_with fail;go_ret;exact⟨zd HR.out.symm,dk.out⟩
theorem YD(n:Int)(A:Bb)(cap:Nat)(vs:List Vw)(j:Nat)(hj:j<vs.length)(q:Nat)(im:q<5)(Au:vs[j].p=(q:Int))(w:Ba)(hV:VAt w w.heap.size A vs) :
  An Al 94 #[Ai #[O U n,I A vs.length cap],O U (j:Int)] w fun e w'=>e=Ak (O U (xx vs j))/\Am w.heap.size w w':=by
 obtain⟨W0,ch,b0,hsz,bX⟩:=zh w #[O U n,I A vs.length cap] 36;obtain⟨b,off,rfl,aH,c0,c1,c2,c3,c4,c5,c6,c7⟩:=(hV.keep bX).row j hj
 have hz:Ap (xx vs j=if vs[j].r=0 then -1 else vs[j].h q):=by
  show xx vs j=_;unfold xx;rw[Z1 hj,Au,Lj]
 have fq:=zH ch;have dF:=zH bX;have t1:=za b0 1 rfl;have GH:(0:Int)<=(j:Int):=by omega
 have EG:(j:Int)<(vs.length:Int):=by omega
 obtain⟨W1,cV,g1,aA,aG⟩:=zh W0 vs[j].cells 144;have dk:=zH (bX.trans (aG.mono (by omega)));have y0:W1.cell? ⟨W0.heap.size,0,Z⟩=J (O U (q:Int)):=by rw[<-Au];exact za g1 0 rfl
 have y1:W1.cell? ⟨W0.heap.size,1,Z⟩=J (O U vs[j].r):=za g1 1 rfl;have y3:=za g1 (3+q) (vs[j].cells_h q im);unfold Vw.cells at cV;have ah:=zH cV;rw[Au] at c0 ah;have oG:(0:Int)<=(q:Int):=by omega
 have mW:(q:Int)<5:=by omega
 clear ch cV bX aG b0 g1 aA hV hsz
 by_cases hr:vs[j].r=0
 . have e1:(vs[j].r==0)=Ar:=by simp[hr]
   have HR:=zH (hz.out.trans (Lo hr));clear hr hz;go_enter func94,ntmps94;go_upto_region 1 with fail
   rw[fq.out];go_upto_region 2 with fail
   rw[ah.out];go_wp2_with fail;go_ret;exact⟨zd HR.out.symm,dk.out⟩
 have e1:(vs[j].r==0)=As:=by simp[hr]
 have HR:=zH (hz.out.trans (Li hr));clear hr hz;go_enter func94,ntmps94;go_upto_region 1 with fail
 rw[fq.out];go_upto_region 2 with fail
 rw[ah.out];go_wp2_with fail;go_ret;exact⟨zd HR.out.symm,dk.out⟩
theorem Yi(c:Cs)(f:Int)(A1 A2 A3:Bb)(k1 k2 k3:Nat)(w:Ba) :
  An Al 22 #[Ai #[I A1 c.inp.length k1,I A2 c.out.length k2,I A3 c.calm.length k3],O U f] w fun e w'=>e=Ak (if f=0/\0<c.calm.length then I A3 c.calm.length k3 else I A2 c.out.length k2)/\Am w.heap.size w w':=by
 obtain⟨W0,ch,b0,hsz,bX⟩:=zh w #[I A1 c.inp.length k1,I A2 c.out.length k2,I A3 c.calm.length k3] 63;have t1:=za b0 1 rfl;have t2:=za b0 2 rfl;have fq:=zH ch;have dF:=zH bX;clear ch b0 hsz bX
 by_cases h1:f=0
 . by_cases h2:0<c.calm.length
   . have e1:(f==0)=Ar:=by simp[h1]
     have e2:(0:Int)<(c.calm.length:Int):=by omega
     rw[Lo ⟨h1,h2⟩];clear h1 h2;go_enter func22,ntmps22;go_upto_region 1 with fail
     rw[fq.out];go_wp2_with fail;go_ret;exact⟨rfl,dF.out⟩
   have e1:(f==0)=Ar:=by simp[h1]
   have e2:¬(0:Int)<(c.calm.length:Int):=by omega
   rw[Li (fun h=>h2 h.2)];clear h1 h2;go_enter func22,ntmps22;go_upto_region 1 with fail
   rw[fq.out];go_wp2_with fail
   all_goals first | (exfalso;omega) | skip
   go_ret;exact⟨rfl,dF.out⟩
 have e1:(f==0)=As:=by simpa using h1
 rw[Li (fun h=>h1 h.1)];clear h1;go_enter func22,ntmps22;go_upto_region 1 with fail
 rw[fq.out];go_wp2_with fail;go_ret;exact⟨rfl,dF.out⟩
theorem uS(c:Cs)(f:Int)(A1 A2 A3:Bb)(k1 k2 k3:Nat)(w:Ba) :
  An Al 98 #[Ai #[I A1 c.inp.length k1,I A2 c.out.length k2,I A3 c.calm.length k3],O U f] w fun e w'=>e=Ak (if f=0/\0<c.calm.length then I A3 c.calm.length k3 else I A2 c.out.length k2)/\Am w.heap.size w w':=by
 obtain⟨W0,ch,b0,hsz,bX⟩:=zh w #[I A1 c.inp.length k1,I A2 c.out.length k2,I A3 c.calm.length k3] 63;have t1:=za b0 1 rfl;have t2:=za b0 2 rfl;have fq:=zH ch;have dF:=zH bX;clear ch b0 hsz bX
 by_cases h1:f=0
 . by_cases h2:0<c.calm.length
   . have e1:(f==0)=Ar:=by simp[h1]
     have e2:(0:Int)<(c.calm.length:Int):=by omega
     rw[Lo ⟨h1,h2⟩];clear h1 h2;go_enter func98,ntmps98;go_upto_region 1 with fail
     rw[fq.out];go_wp2_with fail;go_ret;exact⟨rfl,dF.out⟩
   have e1:(f==0)=Ar:=by simp[h1]
   have e2:¬(0:Int)<(c.calm.length:Int):=by omega
   rw[Li (fun h=>h2 h.2)];clear h1 h2;go_enter func98,ntmps98;go_upto_region 1 with fail
   rw[fq.out];go_wp2_with fail
   all_goals first | (exfalso;omega) | skip
   go_ret;exact⟨rfl,dF.out⟩
 have e1:(f==0)=As:=by simpa using h1
 rw[Li (fun h=>h1 h.1)];clear h1;go_enter func98,ntmps98;go_upto_region 1 with fail
 rw[fq.out];go_wp2_with fail;go_ret;exact⟨rfl,dF.out⟩
theorem ru_bit0{h j:Nat}(hh:h<32)(hj:j<5):(bits BinOp.and U ((h:Int) / 2^j) 1==0)=!h.testBit j:=by
 match j,hj with
 | 0,_=>exact Lw (xp (p:=fun h=>decide ((bits BinOp.and U ((h:Int) / 2^0) 1==0)=!h.testBit 0)) (by decide +kernel) hh)
 | 1,_=>exact Lw (xp (p:=fun h=>decide ((bits BinOp.and U ((h:Int) / 2^1) 1==0)=!h.testBit 1)) (by decide +kernel) hh)
 | 2,_=>exact Lw (xp (p:=fun h=>decide ((bits BinOp.and U ((h:Int) / 2^2) 1==0)=!h.testBit 2)) (by decide +kernel) hh)
 | 3,_=>exact Lw (xp (p:=fun h=>decide ((bits BinOp.and U ((h:Int) / 2^3) 1==0)=!h.testBit 3)) (by decide +kernel) hh)
 | 4,_=>exact Lw (xp (p:=fun h=>decide ((bits BinOp.and U ((h:Int) / 2^4) 1==0)=!h.testBit 4)) (by decide +kernel) hh)
def Xu(v:List Int)(f:Nat)(outs:List Int)(k:Nat):Prop:=∀p,p<k->(f.testBit p||decide (outs.getD p 0=v.getD p 0))=Ar
theorem Ji{v outs:List Int}{f k:Nat}(h:Xu v f outs k)(hk:v.length<=k):xY v (f:Int) outs=Ar:=by
 unfold xY;rw[Lj];exact LP.2 fun p hp=>h p (by have:=Pm.1 hp;omega)
theorem agr_no{v outs:List Int}{f k:Nat}(hk:k<v.length)(h:(f.testBit k||decide (outs.getD k 0=v.getD k 0))=As):xY v (f:Int) outs=As:=by
 unfold xY;rw[Lj];exact List.all_eq_false.2 ⟨k,Pm.2 hk,by rw[h];decide⟩
theorem Xt{v outs:List Int}{f k:Nat}(h:Xu v f outs k)(h2:(f.testBit k||decide (outs.getD k 0=v.getD k 0))=Ar):Xu v f outs (k+1):=fun p hp=>by
 by_cases e:p=k
 . subst e;exact h2
 . exact h p (by omega)
theorem Yj(v outs:List Int)(f:Nat)(hf:f<32)(hl:v.length<=outs.length)(h5:v.length<=5)(A B:Bb)(ca cb:Nat)(w:Ba)(hA:IAt w w.heap.size A v)(hB:IAt w w.heap.size B outs) :
  An Al 62 #[I A v.length ca,I B outs.length cb,O U (f:Int)] w fun e w'=>e=Ak (Ah (xY v f outs))/\w'=w:=by
 have HA:=zH hA;have HB:=zH hB;have HL:=zH hl;clear hA hB hl;go_enter func62,ntmps62;go_wp2_with fail
 go_loopw [11] (fun i wr=>∃k:Nat,k<=v.length/\i=O U (k:Int)/\Ap (Xu v f outs k)/\wr=w) (fun i _=>v.length-(Ao i).toNat)
 case atStart=>exact⟨0,by omega,rfl,fun _ h=>absurd h (by omega),rfl⟩
 obtain⟨k,hk,rfl,E9,rfl⟩:=hrel
 by_cases aU:k<v.length
 . have dJ:(k:Int)<(v.length:Int):=by omega
   have cA:(0:Int)<=(k:Int):=by omega
   have EC:(k:Int)<(outs.length:Int):=by have:=HL.out;omega
   have GA:min k 64=k:=by omega
   have EQ:(0:Int)<=(f:Int):=by omega
   obtain⟨b,o,rfl,hb,x0⟩:=HA.out.at_ k aU;obtain⟨b2,o2,rfl,af,y0⟩:=HB.out.at_ k (by have:=HL.out;omega);have aH:=ru_bit0 hf (by omega:k<5);obtain⟨vk,iT⟩:=Kh (v[k]);obtain⟨ok,fR⟩:∃u,outs[k]'(by have:=HL.out;omega)=u:=⟨_,rfl⟩;have ev:v.getD k 0=vk:=by rw[Le,Lf aU,Np,iT]
   have eo:outs.getD k 0=ok:=by rw[Le,Lf (by have:=HL.out;omega),Np,fR]
   rw[iT] at x0;rw[fR] at y0;have HN:=zH (@agr_no v outs f k aU);have HS:=zH (@Xt v outs f k E9.out);rw[ev,eo] at HN HS;clear iT fR ev eo hb af
   cases di:f.testBit k with
   | true=>
    rw[di] at aH HS;have cI:=zH (HS.out rfl);clear di HN HS;go_wp2_with fail
    go_roundw
    case rel=>exact⟨k+1,by omega,by go_num,cI,trivial⟩
    case measure=>simp[Ao];omega
   | false=>
    rw[di] at aH HS HN
    by_cases aO:ok=vk
    . have cI:=zH (HS.out (by simp[aO]))
      subst aO;clear di HN HS;go_wp2_with fail
      go_roundw
      case rel=>exact⟨k+1,by omega,by go_num,cI,trivial⟩
      case measure=>simp[Ao];omega
    . have HR:=zH (HN.out (by simp[aO]))
      have e0:(ok != vk)=Ar:=by simpa using aO
      clear di HN HS aO;go_wp2_with fail;go_ret;exact⟨by rw[HR.out];rfl,rfl⟩
 obtain rfl:k=v.length:=by omega
 have dJ:¬(v.length:Int)<(v.length:Int):=by omega
 have HR:=zH (Ji E9.out (Lh _));go_wp2_with fail;go_ret;exact⟨by rw[HR.out];rfl,rfl⟩
theorem YE(v outs:List Int)(f:Nat)(hf:f<32)(hl:v.length<=outs.length)(h5:v.length<=5)(A B:Bb)(ca cb:Nat)(w:Ba)(hA:IAt w w.heap.size A v)(hB:IAt w w.heap.size B outs) :
  An Al 99 #[I A v.length ca,O U (f:Int),I B outs.length cb] w fun e w'=>e=Ak (Ah (xY v f outs))/\Am w.heap.size w w':=by
 have HA:=zH hA;have HB:=zH hB;have HL:=zH hl;clear hA hB hl;go_enter func99,ntmps99;go_wp2_with fail
 go_loopw [7] (fun i wr=>∃k:Nat,k<=v.length/\i=O U (k:Int)/\Ap (Xu v f outs k)/\Ap (Am w.heap.size w wr)) (fun i _=>v.length-(Ao i).toNat)
 case atStart=>exact⟨0,by omega,rfl,fun _ h=>absurd h (by omega),Ll _ _⟩
 obtain⟨k,hk,rfl,E9,aC⟩:=hrel
 by_cases aU:k<v.length
 . have dJ:(k:Int)<(v.length:Int):=by omega
   have cA:(0:Int)<=(k:Int):=by omega
   have EC:(k:Int)<(outs.length:Int):=by have:=HL.out;omega
   have GA:min k 64=k:=by omega
   have EQ:(0:Int)<=(f:Int):=by omega
   obtain⟨b,o,rfl,hb,x0⟩:=HA.out.at_ k aU;obtain⟨b2,o2,rfl,af,y0⟩:=HB.out.at_ k (by have:=HL.out;omega);obtain⟨vk,iT⟩:=Kh (v[k]);obtain⟨ok,fR⟩:∃u,outs[k]'(by have:=HL.out;omega)=u:=⟨_,rfl⟩;have ev:v.getD k 0=vk:=by rw[Le,Lf aU,Np,iT]
   have eo:outs.getD k 0=ok:=by rw[Le,Lf (by have:=HL.out;omega),Np,fR]
   rw[iT] at x0;rw[fR] at y0;have HN:=zH (@agr_no v outs f k aU);have HS:=zH (@Xt v outs f k E9.out);rw[ev,eo] at HN HS;have iG:Ap (∀X,Am w.heap.size w X->X.cell? ⟨b,o+k,Z⟩=J (O U vk)/\X.cell? ⟨b2,o2+k,Z⟩=J (O U ok)):=fun X hX=>⟨(hX.cell (p:=⟨_,_,Z⟩) hb).trans x0,(hX.cell (p:=⟨_,_,Z⟩) af).trans y0⟩
   have F':=zH (fun X=>kX f k hf (by omega) X);clear iT fR ev eo hb af x0 y0
   cases di:f.testBit k with
   | true=>
    rw[di] at F' HS;have cI:=zH (HS.out rfl);clear di HN HS;go_upto_region 4 with fail
    refine zk [(0,Ar),(1,Ar),(2,As),(3,Ar),(4,Ar),(5,Ar),(6,Ar),(7,Ar),(8,Ar),(9,Ar),(10,Ar),(11,Ar),(12,Ar),(13,Ar),(14,Ar)] (fun X=>Am w.heap.size w X) (by kernel_rfl) (by kernel_rfl) aC.out.drew ?_
    iterate 2
     apply zy rfl
     . rintro K' ae X u
       clear u;go_simp
       with_reducible exact ae
    refine zt rfl ?_;intro K' ae;go_simp;refine(F'.out _).mono ?_;rintro e w7 ⟨rfl,ou⟩;have ec:Ap (Am w.heap.size w w7):=by rw[<-ou];exact aC.out.drew
    refine ae _ _ ec.out ?_;clear ae K' ou
    iterate 12
     apply zy rfl
     . rintro K' ae X u
       obtain⟨x0,y0⟩:=iG.out X u;clear u;go_simp
       with_reducible exact ae
    refine zE ?_;go_wp2_with fail
    go_roundw
    case rel=>exact⟨k+1,by omega,by go_num,cI,ec⟩
    case measure=>simp[Ao];omega
   | false=>
    rw[di] at F' HS HN
    by_cases aO:ok=vk
    . have cI:=zH (HS.out (by simp[aO]))
      subst aO;clear di HN HS;go_upto_region 4 with fail
      refine zk [(0,Ar),(1,Ar),(2,As),(3,Ar),(4,Ar),(5,Ar),(6,Ar),(7,Ar),(8,Ar),(9,Ar),(10,Ar),(11,Ar),(12,Ar),(13,Ar),(14,Ar)] (fun X=>Am w.heap.size w X) (by kernel_rfl) (by kernel_rfl) aC.out.drew ?_
      iterate 2
       apply zy rfl
       . rintro K' ae X u
         clear u;go_simp
         with_reducible exact ae
      refine zt rfl ?_;intro K' ae;go_simp;refine(F'.out _).mono ?_;rintro e w7 ⟨rfl,ou⟩;have ec:Ap (Am w.heap.size w w7):=by rw[<-ou];exact aC.out.drew
      refine ae _ _ ec.out ?_;clear ae K' ou
      iterate 12
       apply zy rfl
       . rintro K' ae X u
         obtain⟨x0,y0⟩:=iG.out X u;clear u;go_simp
         with_reducible exact ae
      refine zE ?_;go_wp2_with fail
      go_roundw
      case rel=>exact⟨k+1,by omega,by go_num,cI,ec⟩
      case measure=>simp[Ao];omega
    . have HR:=zH (HN.out (by simp[aO]))
      have e0:(ok != vk)=Ar:=by simpa using aO
      clear di HN HS aO;go_upto_region 4 with fail
      refine zk [(0,Ar),(1,Ar),(2,As),(3,Ar),(4,Ar),(5,Ar),(6,Ar),(7,Ar),(8,Ar),(9,Ar),(10,Ar),(11,Ar),(12,Ar),(13,Ar),(14,Ar)] (fun X=>Am w.heap.size w X) (by kernel_rfl) (by kernel_rfl) aC.out.drew ?_
      iterate 2
       apply zy rfl
       . rintro K' ae X u
         clear u;go_simp
         with_reducible exact ae
      refine zt rfl ?_;intro K' ae;go_simp;refine(F'.out _).mono ?_;rintro e w7 ⟨rfl,ou⟩;have ec:Ap (Am w.heap.size w w7):=by rw[<-ou];exact aC.out.drew
      refine ae _ _ ec.out ?_;clear ae K' ou
      iterate 12
       apply zy rfl
       . rintro K' ae X u
         obtain⟨x0,y0⟩:=iG.out X u;clear u;go_simp
         with_reducible exact ae
      refine zE ?_;go_wp2_with fail;go_ret;exact⟨by rw[HR.out];rfl,ec.out⟩
 obtain rfl:k=v.length:=by omega
 have dJ:¬(v.length:Int)<(v.length:Int):=by omega
 have HR:=zH (Ji E9.out (Lh _));go_wp2_with fail;go_ret;exact⟨by rw[HR.out];rfl,aC.out⟩
theorem may_yes{c:Cs}{f:Int}{outs:List Int}{k:Nat}(hk:k<(yV c f).length)(h:xY (yV c f)[k] f outs=Ar):vy c f outs=Ar:=Ps.2 ⟨_,Ld hk,h⟩
theorem may_no{c:Cs}{f:Int}{outs:List Int}(h:∀i (hi:i<(yV c f).length),xY (yV c f)[i] f outs=As):vy c f outs=As:=by
 unfold vy;refine List.any_eq_false.2 fun u hu=>?_
 obtain⟨i,hi,rfl⟩:=LG hu;rw[h i hi];decide
theorem QF{c:Cs}{f:Int}{A2 A3:Bb}{k2 k3:Nat}{w:Ba}(hO:LAt w w.heap.size A2 c.out)(hC:LAt w w.heap.size A3 c.calm) :
  ∃A k,(if f=0/\0<c.calm.length then I A3 c.calm.length k3 else I A2 c.out.length k2)=.slice A (yV c f).length k/\LAt w w.heap.size A (yV c f):=by
 unfold yV
 by_cases h:f=0/\0<c.calm.length
 . rw[Lo h,Lo h];exact⟨_,_,rfl,hC⟩
 rw[Li h,Li h];exact⟨_,_,rfl,hO⟩
theorem rmay_any(c:Cs)(f:Nat)(hf:f<32)(outs:List Int)(an:∀u∈yV c (f:Int),u.length<=outs.length/\u.length<=5)(dH:(yV c (f:Int)).length<=100000)(A1 A2 A3 B:Bb)(k1 k2 k3 cb:Nat)(w:Ba)(hO:LAt w w.heap.size A2 c.out)(hC:LAt w w.heap.size A3 c.calm)(hB:IAt w w.heap.size B outs) :
  An Al 55 #[Ai #[I A1 c.inp.length k1,I A2 c.out.length k2,I A3 c.calm.length k3],O U (f:Int),I B outs.length cb] w fun e w'=>e=Ak (Ah (vy c f outs))/\Am w.heap.size w w':=by
 obtain⟨AV,kV,eV,hV⟩:=QF (f:=(f:Int)) (k2:=k2) (k3:=k3) hO hC;have M4:=zH (fun X=>uS c (f:Int) A1 A2 A3 k1 k2 k3 X);rw[eV] at M4;obtain⟨w1,ac,d0,aA,aG⟩:=zh w #[I A1 c.inp.length k1,I A2 c.out.length k2,I A3 c.calm.length k3] 63;have HY:=zH (fun (k:Nat) hk=>@may_yes c f outs k hk);have HN:=zH (@may_no c f outs);obtain⟨L,hL⟩:=Kh (yV c (f:Int));rw[hL] at hV M4 an dH HY HN;have HV:=zH hV;have HB:=zH hB;have sB:=zH an;have ah:=zH ac;have dk:=zH aG;obtain⟨p0,p1,p2,_⟩:=Kc d0;clear eV ac d0 aA aG hL hV hB hO hC an;go_enter func55,ntmps55;go_upto_region 1 with fail
 rw[ah.out];go_wp2_with fail;refine(M4.out _).mono ?_;rintro e w2 ⟨rfl,af⟩;have aP:=zH (Lc dk.out af);clear af p0 p1 p2;go_wp2_with fail
 go_loopw [8] (fun i wr=>∃k:Nat,k<=L.length/\i=O U (k:Int)/\Ap (∀i (_:i<L.length),i<k->xY L[i] f outs=As)/\Ap (Am w.heap.size w wr)) (fun i _=>L.length-(Ao i).toNat)
 case atStart=>exact⟨0,by omega,rfl,fun _ _ h=>absurd h (by omega),aP⟩
 obtain⟨k,hk,rfl,cD,aC⟩:=hrel
 by_cases aU:k<L.length
 . have dJ:(k:Int)<(L.length:Int):=by omega
   have cA:(0:Int)<=(k:Int):=by omega
   obtain⟨b,o,A',c',rfl,hb,x0,hI⟩:=HV.out.at_ k aU;have x0:=(aC.out.cell (p:=⟨_,_,Z⟩) hb).trans x0;obtain⟨l1,l2⟩:=sB.out _ (Ld aU);have OJ:=zH (YE L[k] outs f hf l1 l2 A' B c' cb wr ((hI.keep aC.out).more aC.out.size) ((HB.out.keep aC.out).more aC.out.size));have MU:=zH (HY.out k aU)
   have cN:Ap (xY L[k] f outs=As->∀i (_:i<L.length),i<k+1->xY L[i] f outs=As):=fun h i hi aa=>by
    by_cases e:i=k
    . subst e;exact h
    . exact cD.out i hi (by omega)
   obtain⟨u,hu⟩:=Kh (L[k]);rw[hu] at x0 OJ MU cN;clear hu hb hI l1 l2;obtain⟨r,hr⟩:=Kh (xY u f outs);rw[hr] at OJ MU cN;clear hr;go_wp2_with fail;refine OJ.out.mono ?_;rintro e w3 ⟨rfl,am⟩;have bk:=zH (Lc aC.out am);clear am
   cases r with
   | true=>
    go_wp2_with fail;go_ret;exact⟨by rw[MU.out (by simp)];rfl,bk.out⟩
   | false=>
    have HS:=zH (cN.out rfl);go_wp2_with fail
    go_roundw
    case rel=>exact⟨k+1,by omega,by go_num,HS,bk⟩
    case measure=>simp[Ao];omega
 obtain rfl:k=L.length:=by omega
 have dJ:¬(L.length:Int)<(L.length:Int):=by omega
 have HR:=zH (HN.out fun i hi=>cD.out i hi hi);go_wp2_with fail;go_ret;exact⟨by rw[HR.out];rfl,aC.out⟩
end
section
open Go.RowKit
theorem Zb{w:Ba}{base:Nat}{v:Aq}{xs:List Int}(h:Own w base v xs)(aO:0<xs.length):∃g cap cur,v=I (J ⟨g,0,Z⟩) xs.length cap/\base<=g/\w.heap[g]?=J (Ag cur 3 (0,0))/\xs.length<=cap/\cap<=maxLen/\cur.size=cap*1/\cur.toList.take xs.length=xs.map (O U):=by
 rcases h.2 with ⟨_,e⟩ | ⟨g,cap,cur,hv,hb,hg,h1,h2,h3,h4⟩
 . omega
 exact⟨g,cap,cur,hv,hb,hg,h1,h2,h3,by rw[NR] at h4;exact h4⟩
theorem sort_own{w:Ba}{base:Nat}{v:Aq}{xs:List Int}(h:Own w base v xs)(aO:0<xs.length)(hl:xs.length<=1000000) :
  An Al 23 #[v] w fun e w'=>e=Ak (.tuple #[])/\Own w' base v (xs.mergeSort fun x y=>decide (x<=y))/\w.grownBy w' v.ownBlock:=by
 obtain⟨g,cap,cur,rfl,hb,hg,h1,h2,h3,h4⟩:=Zb h aO;refine(Tryz.slices_Sort_int g 0 cap xs w (holds_of_blockI hg h4) (zc hg) (by omega)).mono ?_;rintro e w' ⟨rfl,n,os,rfl⟩;refine⟨rfl,?_,grownBy_sortedI _⟩;have:=ownsRow_sortedI (w:=w) (base:=base) (n:=n) (os:=os) (ss:=xs) (ts:=xs.mergeSort fun x y=>decide (x<=y)) (N5 _) hb hg h1 h2 h3;unfold Own;rw[N5];exact this
theorem Xf{w:Ba}{base:Nat}{v:Aq}{xs:List Int}(h:Own w base v xs)(aO:0<xs.length)(hl:xs.length<=1000000) :
  An Al 24 #[v] w fun e w'=>∃v',e=Ak v'/\Own w' base v' (Lib.compact xs)/\w.grownBy w' v.ownBlock:=by
 obtain⟨g,cap,cur,rfl,hb,hg,h1,h2,h3,h4⟩:=Zb h aO;refine(Tryz.slices_Compact_int g 0 cap xs w (holds_of_blockI hg h4) (by omega) h1).mono ?_;rintro e w' ⟨rfl,n,rfl⟩;have aw:=Lib.compact_length_le xs;have e0:Sort.putRow (O U) (Sort.ahead w n) g 0 (Lib.compact xs++List.replicate (xs.length-(Lib.compact xs).length) 0).toArray=Sort.grow (Sort.putRow (O U) (Sort.ahead w n) g 0 (Lib.compact xs++List.replicate (xs.length-(Lib.compact xs).length) 0).toArray) #[]:=by simp
 refine⟨_,rfl,?_,by rw[e0];exact grownBy_sortedI _⟩;have an:(Lib.compact xs++List.replicate (xs.length-(Lib.compact xs).length) (0:Int)).length=xs.length:=by simp;omega
 refine⟨by simp,.inr ⟨g,cap,_,rfl,hb,by rw[e0];exact heap_sortedI _ hg,by omega,h2,by simp[Sort.putCells,h3],?_⟩⟩;have ht:=take_putCellsI cur (Lib.compact xs++List.replicate (xs.length-(Lib.compact xs).length) (0:Int)) (by omega);rw[an] at ht;have h5:=congrArg (List.take (Lib.compact xs).length) ht;rw[List.take_take,Pz aw] at h5;rw[NR,h5];simp[List.map_append]
end
section
open Go.RowKit Go.Shelf
attribute [local go_sem] Oper.semAt_some
theorem js{zs:List Int}:∀m,m<=zs.length->∀x,x∈Lib.compactUpTo zs.toArray m↔∃j,∃(hj:j<zs.length),j<m/\zs[j]=x
 | 0,_,x=>by simp[Lib.compactUpTo]
 | m+1,hm,x=>by
  have ih:=js (zs:=zs) m (by omega) x;have hg:∀j (hj:j<zs.length),(zs.toArray[j]!)=zs[j]:=fun j hj=>by simp[hj]
  rw[Lib.compactUpTo_succ]
  by_cases hk:Lib.keeps zs.toArray m=Ar
  . rw[Lo hk,hg m (by omega),L8,ih]
    constructor
    . rintro(⟨j,hj,AO,e⟩ | e)
      . exact⟨j,hj,by omega,e⟩
      . exact⟨m,by omega,by omega,(Nb.1 e).symm⟩
    . rintro⟨j,hj,AO,e⟩
      by_cases ej:j=m
      . subst ej;exact .inr (by simp[e])
      . exact .inl ⟨j,hj,by omega,e⟩
  . rw[Li hk,L5,ih]
    have iY:m≠0:=fun e=>hk (by subst e;simp[Lib.keeps])
    have aO:zs[m]'(by omega)=zs[m-1]'(by omega):=by
     rcases Decidable.em (zs[m]'(by omega)=zs[m-1]'(by omega)) with e | e
     . exact e
     . exact absurd (Lib.keeps_pos (by rw[hg m (by omega),hg (m-1) (by omega)];exact e)) hk
    constructor
    . rintro⟨j,hj,AO,e⟩;exact⟨j,hj,by omega,e⟩
    . rintro⟨j,hj,AO,e⟩
      by_cases ej:j=m
      . subst ej;exact⟨j-1,by omega,by omega,by rw[<-aO];exact e⟩
      . exact⟨j,hj,by omega,e⟩
theorem YX{zs:List Int}{x:Int}:x∈Lib.compact zs↔x∈zs:=by
 unfold Lib.compact;rw[js _ (Lh _)];constructor
 . rintro⟨j,hj,_,rfl⟩;exact Ld hj
 intro h;obtain⟨j,hj,e⟩:=LG h;exact⟨j,hj,hj,e⟩
theorem alw_pos{t:Tk}(h:zX t=0){c:Cs}(hc:c∈t.cases)(f:Int):0<(yV c f).length:=by
 unfold zX at h
 split at h
 . cases h
 split at h
 . cases h
 have h4:=jK (by unfold yE at h;rwa[LT] at h) c hc;unfold xK at h4
 split at h4
 . cases h4
 unfold yV
 split
 . rename_i hx;exact hx.2
 omega
def gK(V:List (List Int))(q:Nat):List Int:=V.map fun u=>u.getD q 0
theorem col_take{V:List (List Int)}{q k:Nat}(hk:k<V.length):(gK V q).take (k+1)=(gK V q).take k++[V[k].getD q 0]:=by
 rw[Rz,Lf (by simpa[gK] using hk)];simp[gK]
theorem tdom_any(t:Tk)(EN:Z9 t)(h:zX t=0)(N:Nat)(hN:t.n=(N:Int))(h5:N<=5)(i f q:Nat)(hi:i<t.cases.length)(hf:f<2^N)(hq:q<N)
  (an:∀u∈yV t.cases[i] (f:Int),u.length=N) (dH:(yV t.cases[i] (f:Int)).length<=100000) (A:Bb) (kc:Nat) (w:Ba) (nN:CAt w w.heap.size A t.cases) :
  An Al 8 #[Ai #[O U t.n,O U t.ins,O U t.outs,I A t.cases.length kc],O U (i:Int),O U (f:Int),O U (q:Int)] w fun e w'=>∃v L,e=Ak (.tuple #[v,O U 0])/\Own w' w.heap.size v L/\L.length<=100000/\(∀y,y∈L↔y∈gK (yV t.cases[i] (f:Int)) q)/\Am w.heap.size w w':=by
 obtain⟨w1,ac,da,cX,aG⟩:=zh w #[O U t.n,O U t.ins,O U t.outs,I A t.cases.length kc] 24;have rk:=zH (uK t h N hN h5 i f hi hf A kc w1 (fun X hX=>jx t A kc EN X ((nN.keep (Lc aG hX)).more (Lc aG hX).size)));have ip:=alw_pos h (Ld hi) (f:Int);obtain⟨bc,oc,B0,d0,B1,d1,B2,d2,eC,lw,y0,y1,y2,si,tq,eH⟩:=nN.row i hi;subst eC;obtain⟨AV,kV,eV,hV⟩:=QF (f:=(f:Int)) (k2:=d1) (k3:=d2) tq eH;have ic:=zH (fun (X:Ba)=>Yi t.cases[i] (f:Int) B0 B1 B2 d0 d1 d2 X);rw[eV] at ic;obtain⟨V,Bp⟩:=Kh (yV t.cases[i] (f:Int));rw[Bp] at ic hV an dH ip ⊢;obtain⟨cc,lZ⟩:=Kh (t.cases[i]);rw[lZ] at y0 y1 y2 ic;have fZ:=zH (fun (k:Nat) (hk:k<V.length)=>col_take (q:=q) hk);have du:Ap ((gK V q).length=V.length):=by show _=_;simp[gK]
 obtain⟨L2,Fp⟩:=Kh (gK V q);rw[Fp] at fZ du ⊢;have aD:Ap (L2.take V.length=L2):=by show _=_;rw[<-du.out];exact LC
 have Nj:=zH (fun (X:Ba) (v:Aq) (hO:Own X w.heap.size v L2)=>sort_own hO (by rw[du.out];exact ip) (by rw[du.out];omega));have OE:=zH (fun (X:Ba) (v:Aq) (hO:Own X w.heap.size v (L2.mergeSort fun x y=>decide (x<=y)))=>Xf hO (by rw[N5,du.out];exact ip) (by rw[N5,du.out];omega))
 have F0:Ap ((Lib.compact (L2.mergeSort fun x y=>decide (x<=y))).length<=100000/\∀y,y∈Lib.compact (L2.mergeSort fun x y=>decide (x<=y))↔y∈L2):=
  ⟨by have h1:=Lib.compact_length_le (L2.mergeSort fun x y=>decide (x<=y));rw[N5,du.out] at h1;omega,fun y=>by rw[YX,List.mem_mergeSort]⟩
 rw[hN] at rk ac da ⊢;have HD:=zH da;have ah:=zH ac;have dk:=zH aG;have HV:=zH hV;have sB:=zH an;have ta:(0:Int)<=(i:Int):=by omega
 have KH:(i:Int)<(t.cases.length:Int):=by omega
 have oG:¬(q:Int)<0:=by omega
 have mW:¬(N:Int)<=(q:Int):=by omega
 have U7:(0:Int)<=(q:Int):=by omega
 have hq3:(q:Int)<(N:Int):=by omega
 have Ew:Ap (∀k,(L2.take k).length<=100000):=fun k=>by rw[NS,du.out];omega
 have iG:Ap (∀X,Am w1.heap.size w1 X->X.cell? ⟨w.heap.size,0,Z⟩=J (O U (N:Int))/\X.cell? ⟨w.heap.size,3,Z⟩=J (I (J ⟨bc,oc,Z⟩) t.cases.length kc) /\
   X.cell? ⟨bc,oc+i*3,Z⟩=J (I B0 cc.inp.length d0)/\X.cell? ⟨bc,oc+i*3+1,Z⟩=J (I B1 cc.out.length d1)/\X.cell? ⟨bc,oc+i*3+2,Z⟩=J (I B2 cc.calm.length d2)):=fun X hX=>by
  have o8:=Lc dk.out hX
  exact⟨za (La hX HD.out) 0 rfl,za (La hX HD.out) 3 rfl,
   (o8.cell (p:=⟨bc,_,Z⟩) lw).trans y0,(o8.cell (p:=⟨bc,_,Z⟩) lw).trans y1,(o8.cell (p:=⟨bc,_,Z⟩) lw).trans y2⟩
 obtain⟨p0,p1,p2,p3,_⟩:=Kb da;clear ac da cX aG hi hf h EN hN nN an lZ lw y0 y1 y2 si tq eH eV hV Bp Fp ip HD;go_enter func8,ntmps8;go_upto_region 1 with fail
 rw[ah.out];go_wp2_with fail;refine rk.out.mono ?_;rintro e w2 ⟨rfl,af⟩;have aP:=zH af;obtain⟨c0,c3,z0,z1,z2⟩:=iG.out w2 aP.out;clear af p0 p1 p2 p3 rk;go_wp2_with fail;refine(ic.out _).mono ?_;rintro e w3 ⟨rfl,am⟩;have bk:=zH (dk.out.trans ((Lc aP.out am).mono dk.out.size));clear am c0 c3 z0 z1 z2 ic iG aP;go_wp2_with fail
 go_loopw [11,37] (fun o j wr=>∃k:Nat,k<=V.length/\j=O U (k:Int)/\Ap (Own wr w.heap.size o (L2.take k))/\Ap (Am w.heap.size w wr)) (fun _ j _=>V.length-(Ao j).toNat)
 case atStart=>exact⟨0,by omega,rfl,by rw[LI];exact Own.nil _ _,bk⟩
 obtain⟨k,hk,rfl,HO,aC⟩:=hrel
 by_cases aU:k<V.length
 . have dJ:(k:Int)<(V.length:Int):=by omega
   have cA:(0:Int)<=(k:Int):=by omega
   obtain⟨b5,o5,A1,c1,rfl,ap,x0,hI⟩:=(HV.out.keep aC.out).at_ k aU;have co:=sB.out _ (Ld aU);obtain⟨b6,o6,rfl,bz,x1⟩:=hI.at_ q (by omega);have HT:=zH (fZ.out k aU);have ez:V[k].getD q 0=V[k][q]'(by omega):=by rw[Le,Lf (by omega)];rfl
   rw[ez] at HT;obtain⟨z,hz⟩:=Kh (V[k][q]'(by omega));rw[hz] at HT x1;obtain⟨xl,dG⟩:=Kh (V[k].length);rw[dG] at x0 co;subst co;have ep:=Ew.out k;clear ez hz dG hI ap bz;go_wp2_with (at_builtin;go_must (refine qu rfl _ _ rfl w.heap.size u11 _ z rfl HO.out rfl (by omega) aC.out.size ?_);intro v' w5 iW ix ap)
   go_roundw
   case rel=>exact⟨k+1,by omega,by go_num,by rw[HT.out];exact iW,aC.out.trans ap⟩
   simp[Ao];omega
 obtain rfl:k=V.length:=by omega
 have dJ:¬(V.length:Int)<(V.length:Int):=by omega
 rw[aD.out] at HO;go_wp2_with fail;refine(Nj.out _ _ HO.out).mono ?_;rintro e w5 ⟨rfl,S9,ix⟩;have aW:Ap (Am w.heap.size w w5):=aC.out.trans ((Ll _ wr).grown ix aC.out.size fun k hk=>(HO.out.lt k hk).1);have Cg:=zH S9;clear S9 ix;go_wp2_with fail;refine(OE.out _ _ Cg.out).mono ?_;rintro e w6 ⟨v6,rfl,S8,mJ⟩;have dj:Ap (Am w.heap.size w w6):=aW.out.trans ((Ll _ w5).grown mJ aW.out.size fun k hk=>(Cg.out.lt k hk).1);have mQ:=zH S8;clear S8 mJ;go_wp2_with fail
 go_ret2
 exact⟨v6,_,rfl,mQ.out,F0.out.1,F0.out.2,dj.out⟩
def RetBA(xs:List Bool)(n:Int)(w:Ba)(e:Ending)(w':Ba):Prop:=∃A c,e=Ak (.tuple #[I A xs.length c,O U n])/\BAt w' w'.heap.size A xs/\Am w.heap.size w w'
def RetB(xs:List Bool)(w:Ba)(e:Ending)(w':Ba):Prop:=∃g:Nat,e=Ak (I (J ⟨g,0,Z⟩) xs.length xs.length)/\w.heap.size<=g/\BRow w' g xs/\Am w.heap.size w w'
theorem YZ(A B:Bb)(ca cb n:Nat)(hn:n<=100000)(ls:List Int)(set:List Bool)(ha:ls.length=n)(hb:set.length=n)(w:Ba)(hA:IAt w w.heap.size A ls)(hB:BAt w w.heap.size B set) :
  An Al 75 #[I A n ca,I B n cb] w (RetB (je n ls set) w):=by
 have HA:=zH hA;have HB:=zH hB;have tF:=zH ha;have Hv:=zH hb;have fA:=wI n hn;have lU:=@run_makeMap Al;have hz:∀W:Ba,(zeroValue 4).run Al W=.ok (Ah As) W:=fun W=>by kernel_rfl
 have ht:Al.underlying 194=J (.map 3 4):=underlying194;have HZ:=zH hz;have HT:=zH ht;obtain⟨rs,rN⟩:=Kh (je n ls set);have lP:rs.length=n:=by rw[<-rN];exact qR _ _ _
 have nR:=zH lP
 have lC:Ap (∀k (h:k<n),rs[k]'(by rw[nR.out];exact h)=(jg ls set n (ls[k]'(by rw[tF.out];exact h))).isNone):=fun k h=>by
  subst rN;rw[insL_brk h,Q1 (by rw[tF.out];exact h)]
 unfold RetB;rw[rN,lP];go_enter func75,ntmps75;go_upto_region 2 with fail
 obtain⟨w1,h1⟩:=Kh (w.alloc (.map #[] 0));have m1:MapOf (O U) w1 w.heap.size 0 (fun _=>Z):=by rw[<-h1];exact MapOf.made w
 have z1:Am w.heap.size w w1:=by rw[<-h1];exact zN _ _
 have iu:w.heap.size<w1.heap.size:=by rw[<-h1];simp
 rw[h1];have HM1:Ap (MapOf (O U) w1 w.heap.size 0 (jg ls set 0)):=m1;have dk:=zH z1;have mS:=zH (HA.out.keep z1);have d':=zH (HB.out.keep z1);go_wp2_with fail
 go_loopw [14] (fun i wr=>∃k m:Nat,k<=n/\i=O U (k:Int)/\Ap (MapOf (O U) wr w.heap.size m (jg ls set k))/\Ap (Am w.heap.size w1 wr)) (fun i _=>n-(Ao i).toNat)
 case atStart=>exact⟨0,0,by omega,rfl,HM1,Ll _ _⟩
 obtain⟨k,m,hk,rfl,hm,cB⟩:=hrel
 by_cases aa:k<n
 . obtain⟨b1,o1,rfl,aH,z0⟩:=(mS.out.keep cB.out).at_ k (by rw[tF.out];exact aa)
   obtain⟨b2,o2,rfl,af,z1⟩:=(d'.out.keep cB.out).at_ k (by rw[Hv.out];exact aa);have EL:ls.getD k 0=ls[k]'(by rw[tF.out];exact aa):=Q1 (by rw[tF.out];exact aa) 0;have eQ:set.getD k As=set[k]'(by rw[Hv.out];exact aa):=zI (by rw[Hv.out];exact aa) As;obtain⟨x,hx⟩:=Kh (ls[k]'(by rw[tF.out];exact aa));obtain⟨y,hy⟩:=Kh (set[k]'(by rw[Hv.out];exact aa));rw[hx] at z0 EL;rw[hy] at z1 eQ;have cA:(0:Int)<=(k:Int):=by omega
   have bC:(k:Int)<(n:Int):=by omega
   have hG:jg ls set (k+1)=if y then jg ls set k else qB (jg ls set k) x (Ah Ar):=by rw[jg,EL,eQ]
   cases y with
   | true=>
    have fT:Ap (MapOf (O U) wr w.heap.size m (jg ls set (k+1))):=by rw[hG,Lo rfl];exact hm
    go_wp2_with fail
    go_roundw
    case rel=>exact⟨k+1,m,by omega,by go_num,fT,cB⟩
    case measure=>simp[Ao];omega
   | false=>
    obtain⟨W5,dP,pM,ix⟩:=hm.out.put yI HT.out x (Ah Ar);have fT:Ap (MapOf (O U) W5 w.heap.size (m+1) (jg ls set (k+1))):=by rw[hG,Li (by simp)];exact pM
    have aW:Ap (Am w.heap.size w1 W5):=cB.out.grown ix (by have:=cB.out.size;omega) (fun r e=>by cases e;omega);go_wp2_with fail
    go_roundw
    case rel=>exact⟨k+1,m+1,by omega,by go_num,fT,aW⟩
    case measure=>simp[Ao];omega
 obtain rfl:n=k:=by omega
 have rL:=cB.out.size;obtain⟨wE,rfl⟩:∃x,x=wr:=⟨_,rfl⟩;go_upto_region 9 with fail
 obtain⟨w3,CK,d3,ij,cW⟩:=zh wE (ku (List.replicate n As)) 4;rw[CK];have sM:=zH ((mS.out.keep cB.out).keep (cW.mono (by omega)));have HM3:=zH (hm.out.same (cW.block _ (by omega)));have nP:=zH (dk.out.trans (cB.out.trans (cW.mono (by omega))));have rg:Ap (BRow w3 wE.heap.size (jH rs 0)):=by rw[firB_zero,nR.out];exact d3
 have UV:w.heap.size<wE.heap.size:=by omega
 go_wp2_with fail
 go_loopw [32] (fun i wr=>∃k:Nat,k<=n/\i=O U (k:Int)/\Ap (BRow wr wE.heap.size (jH rs k))/\Ap (Am wE.heap.size w3 wr)) (fun i _=>n-(Ao i).toNat)
 case atStart=>exact⟨0,by omega,rfl,rg,Ll _ _⟩
 obtain⟨k,hk,rfl,aC,cB⟩:=hrel
 by_cases aa:k<n
 . obtain⟨b1,o1,rfl,aH,z0⟩:=(sM.out.keep (cB.out.mono (by omega))).at_ k (by rw[tF.out];exact aa)
   have bK:=lC.out k aa;obtain⟨x,hx⟩:=Kh (ls[k]'(by rw[tF.out];exact aa));rw[hx] at z0 bK;have hm:=HM3.out.same (cB.out.block _ UV);have ep:=hm.look yI HT.out (HZ.out wr) x
   have aY:∃y:Bool,(jg ls set n x).getD (Ah As)=Ah y/\rs[k]'(by rw[nR.out];exact aa)=!y:=by
    rcases km ls set x n with ⟨h1,_⟩ | ⟨h1,_⟩
    . exact⟨Ar,by rw[h1];rfl,by rw[bK,h1];rfl⟩
    exact⟨As,by rw[h1];rfl,by rw[bK,h1];rfl⟩
   obtain⟨y,IC,DJ⟩:=aY;rw[IC] at ep;have pP:k<rs.length:=by rw[nR.out];exact aa
   have iM:=firB_len rs (Ry pP);have y0:=za aC.out k (gj (jH rs k) k (by omega));have f0:=zb aC.out k
   have Oa:Ap (BRow (wr.setCell ⟨wE.heap.size,k,Z⟩ (Ah (!y))) wE.heap.size (jH rs (k+1))):=by
    rw[<-DJ,<-firB_set rs pP];show _=_;rw[Lk wr _ k _ _ _ aC.out,boolA_set]
   have Dy:=zH (cB.out.setCell (p:=⟨wE.heap.size,k,Z⟩) (by show wE.heap.size<=wE.heap.size;omega) (Ah (!y)));obtain⟨u,hu⟩:=Kh ((jH rs k)[k]'(by omega));rw[hu] at y0;have cA:(0:Int)<=(k:Int):=by omega
   have bC:(k:Int)<(n:Int):=by omega
   go_wp2_with fail
   go_roundw
   case rel=>exact⟨k+1,by omega,by go_num,Oa,Dy⟩
   simp[Ao];omega
 obtain rfl:n=k:=by omega
 have HE:Ap (BRow wr wE.heap.size rs):=by have:=aC.out;rwa[show jH rs n=rs by rw[<-nR.out];exact firB_all rs] at this
 have Cy:=zH (nP.out.trans (cB.out.mono (by omega)));go_wp2_with fail;go_ret;exact⟨wE.heap.size,rfl,by omega,HE.out,Cy.out⟩
end
section
open Go.RowKit
theorem uQ:(Al.info? 4).map (·.size)=J 1:=by kernel_rfl
theorem YA(n b:Nat)(h1:1<=n)(h5:n<=100000)(u:Bool)(w:Ba)(hb:w.heap[b]?=J (Ag #[Ah u] 4 (0,0))) :
  An Al 9 #[I (J ⟨b,0,Z⟩) 1 1,O U n] w fun e w'=>∃g,e=Ak (I (J ⟨g,0,Z⟩) n n)/\w.heap.size<=g/\BRow w' g (List.replicate n u)/\Am w.heap.size w w':=by
 have fA:=wI n h5;obtain⟨ar,sc⟩:∃ar:List Aq,(List.replicate n As).map Ah=ar:=⟨_,rfl⟩;unfold ku at fA;rw[sc] at fA;have C2:ar.length=n:=by rw[<-sc];simp
 have hc:=za hb 0 rfl;have az:=zc hb;have hm:=Tryz.bits_Mul 1 n (by omega) (by omega) w;have e1:(1*n / 18446744073709551616:Nat)=0:=by omega
 have e2:(1*n % 18446744073709551616:Nat)=n:=by omega
 rw[e1,e2] at hm;have Km:¬(n:Int)<0:=by omega
 go_enter func9,ntmps9;go_wp2_with fail;refine hm.mono ?_;rintro e w1 ⟨rfl,ac⟩;obtain rfl:=ac;obtain⟨W0,ch,b0,hsz,bX⟩:=zh w1 ar.toArray 4;have hx:W0.cell? ⟨b,0,Z⟩=J (Ah u):=(bX.cell (p:=⟨b,0,Z⟩) az).trans hc;have BB:=zH bX;have BX:=zH b0;have HX:=zH hx;go_wp2_with ((refine wpList_copy_splice rfl (.tmp 31) (.tmp 32) 45 45 rfl 4 N7 uQ (J ⟨w1.heap.size,0,Z⟩) (J ⟨b,0,Z⟩) n n 1 1 rfl rfl w1.heap.size 0 ar 4 BX.out [Ah u] (by simp[Nat.min_def];omega) (fun _=>⟨rfl,_,rfl,QU HX.out⟩) (by simp;omega) (by simp[Value.oneCell']) w1.heap.size w1 BB.out (Lh _) ?_);intro w2 iJ af);obtain⟨g,hg⟩:=Kh w1.heap.size;have s1:=ka (cur:=ar) (x:=Ah u) (k:=0) (m:=1) (n:=n) C2 (by simp) (by omega);have S1:=zH s1;have Gb:=zH hg;rw[hg] at iJ af ⊢
 go_loopw [8] (fun l wr=>∃(k:Nat) (cur:List Aq),1<=k/\k<=n/\l=O U k/\Ap (cur.length=n)/\Ap (cur.take k=List.replicate k (Ah u))/\Ap (wr.heap[g]?=J (Ag cur.toArray 4 (0,0)))/\Am g w1 wr) (fun l _=>n-(Ao l).toNat)
 case atStart=>exact⟨1,splice ar 0 [Ah u],by omega,h1,rfl,S1.out.2,S1.out.1,iJ,af⟩
 obtain⟨k,cur,bC,dJ,rfl,aw,AZ,ay,l7⟩:=hrel
 by_cases aa:k<n
 . clear S1 iJ af
   have cA:(0:Int)<=(k:Int):=by omega
   have eG:(k:Int)<=(n:Int):=by omega
   have aO:¬n=k:=by omega
   go_upto_region 9 with fail
   obtain⟨d,hd⟩:=Kh (n-k);obtain⟨m,hm⟩:=Kh (Nat.min k d);have iY:min k d=m:=hm;have Vq:1<=m:=by omega
   have fT:k+m<=n:=by omega
   have Vp:m<=k:=by omega
   have oB:∀j v,(List.replicate m (Ah u))[j]?=J v->wr.cell? ((⟨g,0,Z⟩:Addr).add j)=J v:=by
    intro j v hj;have AO:j<m:=by have:=(Lp.1 hj).1;simpa using this
    rw[Ph,Lo AO] at hj
    cases hj
    rw[N3,LM];refine za ay.out j ?_;rw[List.getElem?_toArray];have h2:=congrArg (fun l=>l[j]?) AZ.out;simp only[List.getElem?_take,List.getElem?_replicate] at h2;rwa[Lo (by omega),Lo (by omega)] at h2
   have SP:=zH (ka (cur:=cur) (x:=Ah u) (k:=k) (m:=m) (n:=n) aw.out AZ.out fT);have BT:=zH oB;have HM:=zH hm;have iH:=zH l7;have aA:IntKind.i64.wrap ((k:Int)+(m:Int))=(k:Int)+(m:Int):=IntWalk.i64_in _ (by omega);have d':=zH aA;clear oB hm l7 aA
   go_region_law ((refine step_copy_splice (by rfl) (.tmp 41) (.tmp 44) 45 45 (by rfl) 4 N7 uQ (J ⟨g,k,Z⟩) (J ⟨g,0,Z⟩) d d k n (by simp[go_sem]) (by simp[go_sem]) g k cur 4 ay.out (List.replicate m (Ah u)) (by rw[LW];exact HM.out.symm) (fun _=>⟨rfl,_,rfl,BT.out⟩) (by rw[LW,aw.out];exact fT) (by intro v hv;rw[List.eq_of_mem_replicate hv];rfl) g w1 iH.out.drew (Lh _) ?_;intro w3 Ee am;rw[LW]))
   all_goals
    rw[d'.out];go_wp2_with fail
    go_frame
    go_roundw
    case rel=>
     (repeat apply Exists.intro)
     exact⟨⟨k+m,splice cur k (List.replicate m (Ah u)),by omega,by omega,rfl,SP.out.2,SP.out.1,Ee,am⟩,by first | rfl | (go_frame;rfl) | (simp[Act.put];done)⟩
    case measure=>simp[Ao];omega
 obtain rfl:k=n:=by omega
 go_wp2_with fail;go_ret;refine⟨g,rfl,by have:=Gb.out;omega,?_,by have:=Gb.out;rw[this];exact l7⟩;unfold BRow ku;have e:=AZ.out;rw[NB (by have:=aw.out;omega)] at e;rw[ay.out,e];simp
end
section
open Go.RowKit Go.Shelf
attribute [local go_sem] Oper.semAt_some
structure KwAt(w:Ba)(B bw n N:Nat)(mg:Nat->List Int):Prop where
 lt:bw<B
 size:w.cell? ⟨bw,10,Z⟩=J (O U (n:Int))
 rows:∃b off cC,w.cell? ⟨bw,11,Z⟩=J (I (J ⟨b,off,Z⟩) N cC)/\b<B/\∀q,q<N->∃A c,w.cell? ⟨b,off+q,Z⟩=J (I A n c)/\IAt w B A (mg q)
 len:∀q,(mg q).length=n
theorem Qb(bw n N:Nat)(mg:Nat->List Int)(hn:n<=100000)(q:Nat)(hq:q<N)(B:Bb)(cb:Nat)(set:List Bool)(hb:set.length=n)(w:Ba)(hK:KwAt w w.heap.size bw n N mg)(hB:BAt w w.heap.size B set) :
  An Al 41 #[Aj (J ⟨bw,0,Z⟩),O U (q:Int),I B n cb] w (RetB (je n (mg q) set) w):=by
 obtain⟨b,off,cC,z1,af,hr⟩:=hK.rows;obtain⟨A,c,z2,hI⟩:=hr q hq;have HC:=zH (YZ A B c cb n hn (mg q) set (hK.len q) hb w hI hB);have oG:(0:Int)<=(q:Int):=by omega
 have mW:(q:Int)<(N:Int):=by omega
 unfold RetB at HC ⊢;rw[qR] at HC ⊢;go_enter func41,ntmps41;go_wp2_with fail;refine HC.out.mono ?_;rintro e w2 ⟨g,rfl,hg,iJ,am⟩;have HR:=zH iJ;have aP:=zH am;go_wp2_with fail;go_ret;exact⟨g,rfl,hg,HR.out,aP.out⟩
end
section
open Go.RowKit Go.Shelf
attribute [local go_sem] Oper.semAt_some
section
variable {B D pt:Nat} {wD w W W':Ba}
theorem JK{K:Kd}{base:Nat}{v:Aq}{n:Nat}{cs:List Aq}(h:OwnR K W base v n cs)(hs:∀k,v.ownBlock=J k->W'.heap[k]?=W.heap[k]?):OwnR K W' base v n cs:=by
 refine⟨h.1,?_⟩;rcases h.2 with hn | ⟨g,cap,cur,rfl,hb,hg,rest⟩
 . exact .inl hn
 exact .inr ⟨g,cap,cur,rfl,hb,(hs g rfl).trans hg,rest⟩
end
end
section
open Go.RowKit Go.Shelf
attribute [local go_sem] Oper.semAt_some
theorem own_ne{w:Ba}{base cS n:Nat}{v V:Aq}{xs:List Int}{cs:List Aq}(h:Own w base v xs)(g:OwnR kIs w cS V n cs):v.ownBlock=Z\/v.ownBlock≠V.ownBlock:=by
 rcases h.2 with ⟨rfl,_⟩ | ⟨b,cap,cur,rfl,_,hb,_⟩
 . exact .inl rfl
 refine .inr fun e=>?_
 rcases g.2 with ⟨rfl,_⟩ | ⟨b',cap',cur',rfl,_,dn,_⟩
 . cases e
 have:b=b':=by simpa[Value.ownBlock] using e
 subst this;rw[hb] at dn
 cases dn
structure NwIn(B bw n:Nat)(S SW:Array Aq)(mg:Nat->List Int)(w W:Ba)(A:Bb)(k c:Nat)(cs:List Aq):Prop where
 below:Am B w W
 b0:W.heap[B]?=J (Ag S 39 (0,0))
 bx:W.heap[bw]?=J (Ag SW 105 (0,0))
 own:OwnR kIs W (bw+1) (I A k c) k cs
 rows:∀q,q<k->∃A' c',cs[q]?=J (I A' n c')/\Own W (bw+1) (I A' n c') (mg q)
 len:cs.length=k
 lo:B<bw
theorem NwIn.on{B bw n k c:Nat}{S SW:Array Aq}{mg:Nat->List Int}{w W W':Ba}{A:Bb}{cs:List Aq}(h:NwIn B bw n S SW mg w W A k c cs)(hb:Am W.heap.size W W'):NwIn B bw n S SW mg w W' A k c cs:=by
 have l1:=zc h.bx;have l0:=zc h.b0;refine⟨h.below.trans (hb.mono (by omega)),Lb hb l0 h.b0,Lb hb l1 h.bx,h.own.below hb (Lh _),fun q hq=>?_,h.len,h.lo⟩;obtain⟨A',c',e1,e2⟩:=h.rows q hq;exact⟨A',c',e1,e2.below hb (Lh _)⟩
theorem NwIn.push{B bw n k c c2:Nat}{S SW TK:Array Aq}{mg:Nat->List Int}{w W W1 W2:Ba}{A A2 A3:Bb}{c3:Nat}{cs:List Aq}(h:NwIn B bw n S SW mg w W A k c cs)(aN:Own W (bw+1) (I A3 n c3) (mg k))
  (ho:OwnR kIs W1 (bw+1) (I A2 (k+1) c2) (k+1) (cs++[I A3 n c3])) (hg:W.grownBy W1 (I A k c).ownBlock) (hs:∀z,z≠bw->W2.heap[z]?=W1.heap[z]?) (hb:Am B W1 W2) (hx:W2.heap[bw]?=J (Ag TK 105 (0,0))) :
  NwIn B bw n S TK mg w W2 A2 (k+1) c2 (cs++[I A3 n c3]):=by
 have l1:=zc h.bx;have l0:=zc h.b0;have lo:=h.lo;have aO:∀z,z<=bw->(I A k c).ownBlock≠J z:=fun z hz e=>by have:=(h.own.lt z e).1;omega
 have keep:∀(v:Aq) (xs:List Int),Own W (bw+1) v xs->Own W2 (bw+1) v xs:=fun v xs hv=>by
  have h1:=hv.kept hg (own_ne hv h.own);exact h1.same fun z hz _=>hs z (by omega)
 refine⟨h.below.trans (((Ll _ _).grown hg (by omega) (fun r e=>by have:=(h.own.lt r e).1;omega)).trans hb),(hs B (by omega)).trans ((hg.block B l0 (fun e=>aO B (by omega) e.symm)).trans h.b0),hx,JK ho (fun z e=>hs z (by have:=(ho.lt z e).1;omega)),fun q hq=>?_,by simp[h.len],lo⟩
 by_cases e:q=k
 . subst e
   exact⟨A3,c3,by rw[LK (by rw[h.len];exact Lh _),h.len,NA];rfl,keep _ _ aN⟩
 obtain⟨A',c',e1,e2⟩:=h.rows q (by omega);exact⟨A',c',by rw[LN (by rw[h.len];omega)];exact e1,keep _ _ e2⟩
def RetKw(s:Sy)(w:Ba)(e:Ending)(w':Ba):Prop:=Am w.heap.size w w'/\((yb s≠0/\e=Ak (.tuple #[Aj Z,O U (yb s)])) \/
 (yb s=0/\∃bw,e=Ak (.tuple #[Aj (J ⟨bw,0,Z⟩),O U 0])/\KwAt w' w'.heap.size bw (ptn s) s.n.toNat (qc s)))
def RetKwG(s:Sy)(A SV AV AX:Bb)(kc ks kv kx:Nat)(w:Ba)(e:Ending)(w':Ba):Prop:=Am w.heap.size w w'/\((yb s≠0/\e=Ak (.tuple #[Aj Z,O U (yb s)])) \/
 (yb s=0/\∃bw,e=Ak (.tuple #[Aj (J ⟨bw,0,Z⟩),O U 0])/\KwAt w' w'.heap.size bw (ptn s) s.n.toNat (qc s) /\
  ∃mb,w.heap.size<=mb/\MapOf (O U) w' mb 0 (fun _=>Z)/\∃AQ cQ,w'.heap[bw]?=J (Ag #[O U s.p.t.n,O U s.p.t.ins,O U s.p.t.outs,I A s.p.t.cases.length kc,O U s.p.a.n,I SV s.p.a.sts.length ks,O U s.p.k,O U s.n,I AV s.vs.length kv,I AX s.xs.length kx,O U (ptn s:Int),I AQ s.n.toNat cQ,.map (J mb)] 105 (0,0))))
theorem gF(s:Sy)(hs:LowS s)(hf:xN s.p)(A SV AV AX:Bb)(kc ks kv kx:Nat)(w:Ba)(hS:SyAt w w.heap.size A SV AV AX s) :
  An Al 40 #[.agg (s.vs_ A kc SV ks AV kv AX kx)] w (RetKwG s A SV AV AX kc ks kv kx w):=by
 obtain⟨w1,ac,d0,aA,hB⟩:=zh w (s.vs_ A kc SV ks AV kv AX kx) 39;have pA:=zH (XV s hs hf A SV AV AX kc ks kv kx w1 (hS.up hB));have du:=zH (fun (q:Nat) (X:Ba) (hX:Am w.heap.size w X)=>Xi s hs hf (q:Int) A SV AV AX kc ks kv kx X ((hS.keep hX).more hX.size));have dN:Ap (yb s≠0->Xg s=(0,yb s)):=fun h=>Lo h
 have aq:Ap (yb s=0->Xg s=((ptn s:Int),0)/\1<=ptn s/\(∃N:Nat,s.n=(N:Int)/\1<=N/\N<=5)/\∀q:Nat,(q:Int)<s.n->clsE s (q:Int)=(qc s q,0)):=fun h=>by
  obtain⟨_,K,N,hF⟩:=xj hf h;have hx:=xs_pos hf h;have:=L3 hx (show 1<=s.p.k.toNat+1 by omega);refine⟨Li (by simpa using h),by unfold ptn;omega,⟨N,hF.n,hF.n1,hF.n5⟩,fun q hq=>?_⟩;unfold clsE;rw[Li (by simpa using h),Li (by omega),Lj]
 have mr:Ap (∀q,(qc s q).length=ptn s):=fun q=>clsL_len s q
 unfold RetKwG;obtain⟨r,hr⟩:=Kh (yb s);rw[hr] at dN aq ⊢;obtain⟨R,fX⟩:=Kh (Xg s);rw[fX] at pA dN aq;obtain⟨Ij,Fs⟩:=Kh (qc s);rw[Fs] at aq mr ⊢;obtain⟨n,hn⟩:=Kh (ptn s);rw[hn] at aq mr ⊢;unfold Sy.vs_ at ac d0 pA du ⊢;have ah:=zH ac;have HB:=zH hB;have HD:=zH d0;have p7:=za (d0) 7 rfl;have p8:=za (d0) 8 rfl;have p9:=za (d0) 9 rfl;clear ac d0 hB hS hr fX hs hf hn Fs;go_enter func40,ntmps40;go_wp2_with fail;rw[ah.out];go_wp2_with fail;refine pA.out.mono ?_;rintro e w2 ⟨rfl,af⟩;have aP:=zH (HB.out.trans (af.mono (by omega)));have HD:=zH (La af HD.out);clear p7 p8 p9 af pA ah HB
 by_cases h0:r=0
 case neg=>
  have hR:Ap (R=(0,r)):=dN.out h0;have e0:(r != 0)=Ar:=by simpa using h0
  clear dN aq HD du mr;rw[hR.out];go_wp2_with fail
  go_ret2
  exact⟨aP.out,.inl ⟨h0,rfl⟩⟩
 case pos=>
 subst h0;obtain⟨e1,en,⟨N,hN,GX,GW⟩,aw⟩:=aq.out rfl;rw[e1];have dU:=zH hN;have Dw:=zH aw;have rq:=zH (And.intro en (And.intro GX GW));have lU:=@run_makeMap Al;obtain⟨p0,p1,p2,p3,p4,p5,p6,p7,p8,p9⟩:=zK (HD.out);clear dN aq e1 en GX GW hN aw;go_upto_region 5 with fail
 obtain⟨a3,h3⟩:=Kh (w2.alloc (.map #[] 0));have y3:a3.heap.size=w2.heap.size+1:=by rw[<-h3];simp
 have z3:Am w2.heap.size w2 a3:=by rw[<-h3];exact zN _ _
 have m3:MapOf (O U) a3 w2.heap.size 0 (fun _=>Z):=by rw[<-h3];exact MapOf.made w2
 rw[h3];obtain⟨a4,h4,x4,y4,z4⟩:=zh a3 #[O U s.p.t.n,O U s.p.t.ins,O U s.p.t.outs,I A s.p.t.cases.length kc,O U s.p.a.n,I SV s.p.a.sts.length ks,O U s.p.k,O U s.n,I AV s.vs.length kv,I AX s.xs.length kx,O U (n:Int),I Z 0 0,.map (J w2.heap.size)] 105;rw[h4];rw[y3] at x4 y4;have lk:=zc HD.out
 have Mu:NwIn w.heap.size (w2.heap.size+1) n #[O U s.p.t.n,O U s.p.t.ins,O U s.p.t.outs,I A s.p.t.cases.length kc,O U s.p.a.n,I SV s.p.a.sts.length ks,O U s.p.k,O U s.n,I AV s.vs.length kv,I AX s.xs.length kx] #[O U s.p.t.n,O U s.p.t.ins,O U s.p.t.outs,I A s.p.t.cases.length kc,O U s.p.a.n,I SV s.p.a.sts.length ks,O U s.p.k,O U s.n,I AV s.vs.length kv,I AX s.xs.length kx,O U (n:Int),I Z 0 0,.map (J w2.heap.size)] Ij w a4 Z 0 0 []:=
  ⟨aP.out.trans ((z3.trans (z4.mono (by omega))).mono (by omega)),Lb z4 (by omega) (Lb z3 lk HD.out),x4,OwnR.nil _ _ _,fun q hq=>by omega,rfl,by omega⟩
 have Co:=zH Mu;have Dq:Ap (MapOf (O U) a4 w2.heap.size 0 (fun _=>Z)):=m3.same (z4.block _ (by omega));have Vi:Ap (w.heap.size<=w2.heap.size):=aP.out.size;have q7:a4.cell? ⟨w.heap.size,7,Z⟩=J (O U (N:Int)):=by rw[<-dU.out];exact za Mu.b0 7 rfl
 obtain⟨bw,cB⟩:=Kh (w2.heap.size+1);have bg:Ap (w2.heap.size<bw):=by rw[Ap];omega
 rw[cB] at Co ⊢;clear h3 y3 z3 m3 h4 x4 y4 z4 lk Mu HD cB lU p7 p8 p9;go_wp2_with fail
 go_loopw [26] (fun i wr=>∃k:Nat,k<=N/\i=O U (k:Int)/\∃AQ cQ cs,Ap (NwIn w.heap.size bw n #[O U s.p.t.n,O U s.p.t.ins,O U s.p.t.outs,I A s.p.t.cases.length kc,O U s.p.a.n,I SV s.p.a.sts.length ks,O U s.p.k,O U s.n,I AV s.vs.length kv,I AX s.xs.length kx] #[O U s.p.t.n,O U s.p.t.ins,O U s.p.t.outs,I A s.p.t.cases.length kc,O U s.p.a.n,I SV s.p.a.sts.length ks,O U s.p.k,O U s.n,I AV s.vs.length kv,I AX s.xs.length kx,O U (n:Int),I AQ k cQ,.map (J w2.heap.size)] Ij w wr AQ k cQ cs)/\Ap (MapOf (O U) wr w2.heap.size 0 (fun _=>Z))) (fun i _=>N-(Ao i).toNat)
 case atStart=>exact⟨0,by omega,rfl,Z,0,[],Co,Dq⟩
 obtain⟨k,hk,rfl,AQ,cQ,cs,hI,HM⟩:=hrel;clear Co q7 Dq
 by_cases aa:k<N
 . have hc:=du.out k wr hI.out.below
   rw[Dw.out k (by rw[dU.out];omega)] at hc;have HC:=zH hc;have cA:(0:Int)<=(k:Int):=by omega
   have bC:(k:Int)<(N:Int):=by omega
   have aU:=mr.out k;have mZ:k<=5:=by have:=rq.out;omega
   obtain⟨p0,p1,p2,p3,p4,p5,p6,p7,p8,p9⟩:=zK (hI.out.b0);clear hc;go_wp2_with fail;refine HC.out.mono ?_;rintro e w3 ⟨A3,c3,rfl,pJ,am⟩;have iA:=hI.out.on am;have cz:=hI.out.lo;have Ex:=zc hI.out.bx;have mF:=bg.out;have HM:=zH (HM.out.same (am.block _ (by omega)));have I9:Own w3 (bw+1) (I A3 n c3) (Ij k):=by rw[<-aU];exact pJ.low (by omega)
   dsimp only;rw[aU];have ru:=zH iA;have rp:=zH I9;have Hf:=za iA.bx 11 rfl;have Vr:=zc iA.bx;go_upto_region 11 with fail
   obtain⟨W4,C4,d4,mC,bq⟩:=zh w3 #[I A3 n c3] 30;have tG:=zH (ru.out.on bq);have HM:=zH (HM.out.same (bq.block _ (by omega)));have pi:=zH (rp.out.below bq (Lh _));have Dk:=zH tG.out.own;have LH:bw+1<=W4.heap.size:=by omega
   have ns:=zH C4;clear ru rp C4 bq
   go_wp2_with (at_builtin; go_must (rw [ns.out]; refine yJ Z0 rfl _ _ (by rfl) (bw + 1) (I AQ k cQ) k cs (by rfl) Dk.out w3.heap.size #[I A3 n c3] (by rfl) d4 rfl (by simp [Value.oneCell']) (by omega) LH _ rfl ?_); intro g' cap' w5 P' ix LQ Ks
                have Gq:=(ix.block bw (zc tG.out.bx) (fun e=>by have:=(Dk.out.lt bw e.symm).1;omega)).trans tG.out.bx;have u11:=za Gq 11 rfl;have f11:=zb Gq 11;have HX5:=zH Gq;have HM:=zH (HM.out.same (ix.block _ (by have:=zc tG.out.bx;omega) (fun e=>by have:=(Dk.out.lt _ e.symm).1;omega)));have FR:=zH P';have HG5:=zH ix
                clear Gq P' ix LQ Ks)
   have Kk:=Lk w5 bw 11 _ _ (I (J ⟨g',0,Z⟩) (k+1) cap') HX5.out;have WN:=tG.out.push pi.out FR.out HG5.out (W2:=w5.setCell ⟨bw,11,Z⟩ (I (J ⟨g',0,Z⟩) (k+1) cap')) (fun z hz=>Lg w5 ⟨bw,11,Z⟩ _ z hz) ((Ll _ _).setCell (by show w.heap.size<=bw;omega) _) Kk;have HI6:=zH WN;have HM:=zH (HM.out.same (Lg w5 ⟨bw,11,Z⟩ (I (J ⟨g',0,Z⟩) (k+1) cap') w2.heap.size (by show ¬w2.heap.size=bw;omega)))
   go_roundw
   case rel=>exact⟨k+1,by omega,by go_num,_,_,_,HI6,HM⟩
   simp[Ao];omega
 obtain rfl:N=k:=by omega
 have KT:Ap (KwAt wr wr.heap.size bw n N Ij):=by
  have hl:=zc hI.out.bx;obtain⟨A0,c0,e0,_,_,hf⟩:=hI.out.own.form
  cases e0
  obtain⟨g,rfl,_,hg,bJ⟩:=hf (by have:=rq.out;omega);refine⟨hl,za hI.out.bx 10 rfl,⟨g,0,cQ,za hI.out.bx 11 rfl,hg,fun q hq=>?_⟩,mr.out⟩;obtain⟨A',c',e1,e2⟩:=hI.out.rows q hq;exact⟨A',c',by rw[LM];exact bJ q _ e1,own_on e2 (fun _ _ _=>rfl)⟩
 have Cy:=zH hI.out.below;have bj:=zH hI.out.bx;go_wp2_with fail
 go_ret2
 refine⟨Cy.out,bw,rfl,?_,w2.heap.size,Vi.out,HM.out,AQ,cQ,?_⟩
 . rw[dU.out,Lj]
   exact KT.out
 have h9:=bj.out;rw[dU.out] at h9 ⊢;rw[Lj];exact h9
theorem ZU(s:Sy)(hs:LowS s)(hf:xN s.p)(A SV AV AX:Bb)(kc ks kv kx:Nat)(w:Ba)(hS:SyAt w w.heap.size A SV AV AX s) :
  An Al 40 #[.agg (s.vs_ A kc SV ks AV kv AX kx)] w (RetKw s w):=
 (gF s hs hf A SV AV AX kc ks kv kx w hS).mono fun e w' h=>by
  obtain⟨hb,h | ⟨h1,bw,h2,h3,_⟩⟩:=h
  . exact⟨hb,.inl h⟩
  . exact⟨hb,.inr ⟨h1,bw,h2,h3⟩⟩
theorem Zy{h j:Nat}(hh:h<32)(hj:j<5):(bits BinOp.and U ((h:Int) / 2^j) 1==1)=h.testBit j:=by
 match j,hj with
 | 0,_=>exact Lw (xp (p:=fun h=>decide ((bits BinOp.and U ((h:Int) / 2^0) 1==1)=h.testBit 0)) (by decide +kernel) hh)
 | 1,_=>exact Lw (xp (p:=fun h=>decide ((bits BinOp.and U ((h:Int) / 2^1) 1==1)=h.testBit 1)) (by decide +kernel) hh)
 | 2,_=>exact Lw (xp (p:=fun h=>decide ((bits BinOp.and U ((h:Int) / 2^2) 1==1)=h.testBit 2)) (by decide +kernel) hh)
 | 3,_=>exact Lw (xp (p:=fun h=>decide ((bits BinOp.and U ((h:Int) / 2^3) 1==1)=h.testBit 3)) (by decide +kernel) hh)
 | 4,_=>exact Lw (xp (p:=fun h=>decide ((bits BinOp.and U ((h:Int) / 2^4) 1==1)=h.testBit 4)) (by decide +kernel) hh)
theorem set_arr{w:Ba}{g:Nat}{cs:Array Aq}{t:TypeId}(h:w.heap[g]?=J (Ag cs t (0,0)))(i:Nat)(v:Aq) :
  (w.setCell ⟨g,i,Z⟩ v).heap[g]?=J (Ag (cs.set! i v) t (0,0))/\∀k,k≠g->(w.setCell ⟨g,i,Z⟩ v).heap[k]?=w.heap[k]?:=by
 refine⟨?_,fun k hk=>Lg w ⟨g,i,Z⟩ v k hk⟩;rw[World.setCell,P9,Lo rfl,h]
 rfl
end
section
open Go.RowKit
theorem gR{p:Pb}(h:xW p=Ar):∃K N:Nat,Fine (zz p) K N/\Sees (zz p) K N/\(zz p).n=(N:Int)/\p.k=(K:Int)/\1<=N/\N<=3/\K<=6/\xN (zz p).p/\yb (zz p)=0/\ptn (zz p)=(zz p).xs.length*(K+1)/\(zz p).xs.length<=60/\ptn (zz p)<=700:=by
 obtain⟨pV,iI,hf,h0,dt,CQ,K,N,hF,mc⟩:=qx h;have hk:=hF.k;have e:(zz p).p.k=p.k:=rfl;have AK:(zz p).p.k.toNat=K:=by omega
 have dI:=hF.pn;have e2:(zz p).p.t.n=p.t.n:=rfl;have oI:ptn (zz p)=(zz p).xs.length*(K+1):=by unfold ptn;rw[AK]
 have rW:=hF.k6;have:=L3 hF.lx (show K+1<=7 by omega);exact⟨K,N,hF,mc,hF.n,by omega,hF.n1,by omega,hF.k6,hf,iI,oI,hF.lx,by omega⟩
end
section
open Go.RowKit Go.Shelf
attribute [local go_sem] Oper.semAt_some
def RetKn(R:List Bool×Int)(w:Ba)(e:Ending)(w':Ba):Prop:=∃A c,e=Ak (.tuple #[I A R.1.length c,O U R.2])/\BAt w' w'.heap.size A R.1/\Am w.heap.size w w'
def knwE(s:Sy)(q:Int)(set:List Bool):List Bool×Int:=if yb s≠0 then ([],yb s) else if q<0\/s.n<=q then ([],2) else if set.length≠ptn s then ([],15) else (je (ptn s) (qc s q.toNat) set,0)
end
section
theorem ru_bit1{h j:Nat}(hh:h<32)(hj:j<5):(bits BinOp.and U ((h:Int) / 2^j) 1==1)=h.testBit j:=by
 match j,hj with
 | 0,_=>exact Lw (xp (p:=fun h=>decide ((bits BinOp.and U ((h:Int) / 2^0) 1==1)=h.testBit 0)) (by decide +kernel) hh)
 | 1,_=>exact Lw (xp (p:=fun h=>decide ((bits BinOp.and U ((h:Int) / 2^1) 1==1)=h.testBit 1)) (by decide +kernel) hh)
 | 2,_=>exact Lw (xp (p:=fun h=>decide ((bits BinOp.and U ((h:Int) / 2^2) 1==1)=h.testBit 2)) (by decide +kernel) hh)
 | 3,_=>exact Lw (xp (p:=fun h=>decide ((bits BinOp.and U ((h:Int) / 2^3) 1==1)=h.testBit 3)) (by decide +kernel) hh)
 | 4,_=>exact Lw (xp (p:=fun h=>decide ((bits BinOp.and U ((h:Int) / 2^4) 1==1)=h.testBit 4)) (by decide +kernel) hh)
theorem JC{s:Sy}{K q:Nat}{v:Int}{xs:List Exn}{k:Nat}(hk:k<xs.length):qg s K q v (xs.take (k+1))=qg s K q v (xs.take k)++List.replicate (K+1) (gD s xs[k] q v):=by
 unfold qg;rw[Rz,Lf hk,PB];simp
theorem rgt_col{s:Sy}{x:Exn}{c f q:Nat}{v:Int}{L:List Int}(hc:x.c=(c:Int))(hl:c<s.p.t.cases.length)(hf:yf x=(f:Int))(hL:∀y,y∈L↔y∈gK (yV s.p.t.cases[c] (f:Int)) q) :
  gD s x q v=(f.testBit q||decide (v∈L)):=by
 unfold gD;rw[hf,Lj,hc,Lj,Le (l:=s.p.t.cases),Lf hl]
 congr 1
 rw[NG,Ps,Rl,hL];unfold gK;rw[LO];constructor
 . rintro⟨u,hu,e⟩;exact⟨u,hu,Lw e⟩
 rintro⟨u,hu,e⟩;exact⟨u,hu,Lm e⟩
theorem dec_fml{n:Int}{N q v:Nat}(hn:n=(N:Int))(h5:N<=5)(hq:q<N)(hv:v<8):j8 n 0 (.mk ⟨5,(q:Int),0,(v:Int),0⟩ [])=0:=by
 have e:kF N ⟨5,(q:Int),0,(v:Int),0⟩ 0=0:=by
  unfold kF;rw[Li (by show ¬((5:Int)<0\/17<(5:Int));decide),Li (by show ¬(((0:Nat):Int)≠arN 5);decide)];rw[Li,Li]
  . show ¬((usP 5=As/\(q:Int)≠0)\/(usO 5=As/\(0:Int)≠0)\/(usV 5=As/\(v:Int)≠0)\/(usG 5=As/\(0:Int)≠0))
    rw[show usP 5=Ar by decide,show usV 5=Ar by decide];simp
  rintro(⟨_,h⟩ | ⟨h,_⟩ | ⟨_,h⟩ | ⟨h,_⟩)
  . exact h ⟨by show(0:Int)<=(q:Int);omega,by show(q:Int)<=_;omega⟩
  . exact absurd h (by show ¬usO 5=Ar;decide)
  . exact h ⟨by show(0:Int)<=(v:Int);omega,by show(v:Int)<=mxV 5;rw[show mxV 5=7 by decide];omega⟩
  exact absurd h (by show ¬usG 5=Ar;decide)
 unfold j8;rw[Li (by omega),Li (by show ¬uu (1,1)≠0;decide),hn,Lj];show XY N (fun _=>0) _=0;unfold XY;rw[Li (by show ¬kF N ⟨5,(q:Int),0,(v:Int),0⟩ 0≠0;rw[e];decide)]
 rfl
theorem dec_atm{s:Sy}{N q v:Nat}{out:List Int}(hv:yb s=0)(hn:s.n=(N:Int))(h5:N<=5)(hq:q<N)(Gt:v<8)(hl:out.length=s.vs.length):Xq s out 0 (.mk ⟨5,(q:Int),0,(v:Int),0⟩ [])=(jL s out ⟨5,(q:Int),0,(v:Int),0⟩,0):=by
 unfold Xq;rw[Li (by simpa using hv),Li (by omega),dec_fml hn h5 hq Gt,Li (by simp),Li (by show ¬0<0;decide)]
 rfl
theorem dec_knw{s:Sy}{N q:Nat}{set:List Bool}(hv:yb s=0)(hn:s.n=(N:Int))(hq:q<N)(hl:set.length=ptn s):knwE s (q:Int) set=(je (ptn s) (qc s q) set,0):=by
 unfold knwE;rw[Li (by simpa using hv),Li (by omega),Li (by simpa using hl),Lj]
end
section
open Go.RowKit Go.Shelf
attribute [local go_sem] Oper.semAt_some
theorem YY{out:List Int}{l:List Int}{k:Nat}(hk:k<l.length):(l.map (ruE out)).take (k+1)=(l.map (ruE out)).take k++[ruE out l[k]]:=by
 rw[Rz,Lf (by simpa using hk)];simp
theorem Jy(s:Sy){K N:Nat}(hF:Fine s K N)(out:List Int)(cz:out.length=s.vs.length)(i:Nat)(hi:i<s.xs.length)(A SV AV AX AR:Bb)(kc ks kv kx cr:Nat)(w:Ba)(hS:SyAt w w.heap.size A SV AV AX s)(hR:IAt w w.heap.size AR out) :
  An Al 20 #[.agg (s.vs_ A kc SV ks AV kv AX kx),Ai #[I AR out.length cr],O U (i:Int)] w fun e w'=>∃v,e=Ak v/\Own w' w.heap.size v (qq out s.xs[i] K)/\Am w.heap.size w w':=by
 have hx:=Ld hi;obtain⟨co,ov⟩:=hF.views _ hx;obtain⟨wa,cm,da,cX,dl⟩:=zh w (s.vs_ A kc SV ks AV kv AX kx) 39;obtain⟨w1,ac,db,dB,cx⟩:=zh wa #[I AR out.length cr] 32;have hB:Am w.heap.size w w1:=dl.trans (cx.mono (by omega));have da:w1.heap[w.heap.size]?=J (Ag (s.vs_ A kc SV ks AV kv AX kx) 39 (0,0)):=Lb cx (by omega) da;obtain⟨bx,ox,A1,c1,B1,c2,rfl,aV,x0,x1,x2,de,eU⟩:=(hS.fx.keep hB).row i hi;obtain⟨b,o,A',c',rfl,hb,y0,hI⟩:=eU.at_ K (by omega);have hK:s.xs[i].views[K]'(by omega)=s.xs[i].views.getD K []:=by rw[Le,Lf (by omega)];rfl
 have aN:=ov _ (Ld (show K<s.xs[i].views.length by omega));obtain⟨l,hl⟩:=Kh (s.xs[i].views[K]'(by omega));have mY:qq out s.xs[i] K=l.map (ruE out):=by unfold qq;rw[<-hK,hl]
 rw[hl] at y0 hI aN;rw[mY];obtain⟨LV,Te⟩:=Kh (s.xs[i].views.length);rw[Te] at x2 co;have lk:IntKind.i64.wrap ((LV:Int)-1)=(K:Int):=by have:=hF.k6;rw[Lv];omega
 have WK:(0:Int)<=(K:Int):=by omega
 have WJ:(K:Int)<(LV:Int):=by omega
 have ta:(0:Int)<=(i:Int):=by omega
 have KH:(i:Int)<(s.xs.length:Int):=by omega
 have mH:l.length<=5:=by have:=hF.n5;omega
 unfold Sy.vs_ at cm da ⊢;have p9:=za da 9 (u:=I (J ⟨bx,ox,Z⟩) s.xs.length kx) rfl;rw[cX] at db;have NK:=zH db;have fa:=zH cm;have ah:=zH ac;have HB:=zH hB;have HI:=zH hI;have iE:=zH (hR.keep hB);have Dj:Ap (∀z∈l,0<=z/\z<(out.length:Int)):=fun z hz=>by rw[cz];exact aN.2 z hz
 have fZ:=zH (fun (k:Nat) (hk:k<l.length)=>YY (out:=out) hk);obtain⟨L2,eH⟩:=Kh (l.map (ruE out));have aD:Ap (L2.take l.length=L2):=by rw[<-eH];exact NB (by simp)
 have Ew:Ap (∀k,(L2.take k).length<=5):=fun k=>by rw[NS,<-eH,LJ];omega
 rw[eH] at fZ ⊢;clear eH mY hK hl co Te da db cm ac hB hI hR hS de eU aN ov hx cX dB dl cx hF x0 x1 cz;go_enter func20,ntmps20;go_upto_region 1 with fail
 rw[fa.out,ah.out];go_wp2_with fail;clear p9 x2 y0
 go_loopw [7,24] (fun o j wr=>∃k:Nat,k<=l.length/\j=O U (k:Int)/\Ap (Own wr w1.heap.size o (L2.take k))/\Ap (Am w1.heap.size w1 wr)) (fun _ j _=>l.length-(Ao j).toNat)
 case atStart=>exact⟨0,by omega,rfl,by rw[LI];exact Own.nil _ _,Ll _ _⟩
 obtain⟨k,hk,rfl,HO,aC⟩:=hrel
 by_cases aU:k<l.length
 . have dJ:(k:Int)<(l.length:Int):=by omega
   have cA:(0:Int)<=(k:Int):=by omega
   obtain⟨b5,o5,rfl,ap,lD⟩:=HI.out.at_ k aU;have cB:b5<w1.heap.size:=Lx ap HB.out.size;have z0:=(aC.out.cell (p:=⟨b5,o5+k,Z⟩) cB).trans lD;clear lD;obtain⟨g0,g1⟩:=Dj.out _ (Ld aU);have HT:=zH (fZ.out k aU);obtain⟨z,hz⟩:=Kh (l[k]);rw[hz] at z0 g0 g1 HT;obtain⟨zn,rfl⟩:=Lr g0;obtain⟨b6,o6,rfl,bz,CF⟩:=iE.out.at_ zn (by omega);have z1:=(aC.out.cell (p:=⟨b6,o6+zn,Z⟩) (Lx bz HB.out.size)).trans CF;clear CF;have er:ruE out (zn:Int)=out[zn]'(by omega):=by unfold ruE;rw[Lj,Le,Lf (by omega)];rfl
   rw[er] at HT;obtain⟨u,hu⟩:=Kh (out[zn]'(by omega));rw[hu] at z1 HT;have r0:=za (La aC.out NK.out) 0 (u:=I (J ⟨b6,o6,Z⟩) out.length cr) rfl;have ep:=Ew.out k;clear hz er hu ap bz cB;go_wp2_with (at_builtin;go_must (refine qu rfl _ _ rfl w1.heap.size u7 _ u rfl HO.out rfl (by omega) aC.out.size ?_);intro v' w5 iW ix ap)
   go_roundw
   case rel=>exact⟨k+1,by omega,by go_num,by rw[HT.out];exact iW,aC.out.trans ap⟩
   simp[Ao];omega
 obtain rfl:k=l.length:=by omega
 have dJ:¬(l.length:Int)<(l.length:Int):=by omega
 rw[aD.out] at HO;have ce:=zH (Lc HB.out aC.out);go_wp2_with fail;go_ret;exact⟨_,rfl,HO.out.low HB.out.size,ce.out⟩
theorem bef_lt{s:Sy}{K N:Nat}(hF:Fine s K N){j:Nat}(hj:j<s.vs.length):(∃q,q<5/\s.vs[j].p=((q:Nat):Int))/\(xx s.vs j<0\/∃m:Nat,xx s.vs j=(m:Int)/\m<s.vs.length):=by
 obtain⟨⟨q,hq,rP⟩,⟨r,hr,hrK⟩,hb⟩:=hF.vs _ (Ld hj);have h5:=hF.n5;refine⟨⟨q,by omega,hq⟩,?_⟩;unfold xx;rw[Z1 hj]
 by_cases h0:s.vs[j].r=0
 . rw[Lo h0];exact .inl (by omega)
 rw[Li h0];obtain⟨u,hu,-,-⟩:=hb (by omega);have hl:=hu.lt;obtain⟨m,hm⟩:=Lr hl.1;exact .inr ⟨m,hm,by omega⟩
theorem XF(s:Sy){K N:Nat}(hF:Fine s K N)(out:List Int)(A SV AV AX AR:Bb)(kc ks kv kx cr:Nat)(w:Ba)(hS:SyAt w w.heap.size A SV AV AX s)(hR:IAt w w.heap.size AR out) :
  An Al 57 #[.agg (s.vs_ A kc SV ks AV kv AX kx),Ai #[I AR out.length cr]] w fun e w'=>e=Ak (O U (xf s out))/\Am w.heap.size w w':=by
 obtain⟨wa,cm,da,cX,dl⟩:=zh w (s.vs_ A kc SV ks AV kv AX kx) 39;obtain⟨w1,ac,db,dB,cx⟩:=zh wa #[I AR out.length cr] 32;have hB:Am w.heap.size w w1:=dl.trans (cx.mono (by omega));have da:w1.heap[w.heap.size]?=J (Ag (s.vs_ A kc SV ks AV kv AX kx) 39 (0,0)):=Lb cx (by omega) da;rw[cX] at db;have GC:=hF.lv;have dv:=zH (fun (j:Nat) (hj:j<s.vs.length)=>bef_lt hF hj);have Cy:=zH (fun (j:Nat) (hj:j<s.vs.length) (q:Nat) (h5:q<5) (hq:s.vs[j].p=(q:Int)) (X:Ba) (hX:Am w.heap.size w X)=>ZG s.n AV kv s.vs j hj q h5 hq X ((hS.fv.keep hX).more hX.size));have ib:=zH (@wR s out);have sF:=zH (@vE s out);obtain⟨F,iC⟩:=Kh (xf s out);rw[iC] at ib sF ⊢;unfold Sy.vs_ at cm da ⊢;have HD:=zH da;have HE:=zH db;have fa:=zH cm;have ah:=zH ac;have HB:=zH hB;have iE:=zH (hR.keep hB);have p8:=za da 8 (u:=I AV s.vs.length kv) rfl;have r0:=za db 0 (u:=I AR out.length cr) rfl;clear iC cm ac da db cX dB dl cx hB hR hS hF
 by_cases hl:out.length=s.vs.length
 case neg=>
  have e0:((out.length:Int) != (s.vs.length:Int))=Ar:=by simp;omega
  have HR:=zH (ib.out hl);clear hl;go_enter func57,ntmps57;go_upto_region 1 with fail
  rw[fa.out,ah.out];go_wp2_with fail;go_ret;exact⟨zd HR.out.symm,HB.out⟩
 have e0:((out.length:Int) != (s.vs.length:Int))=As:=by simp;omega
 have HR:=zH (sF.out hl);have eD:=zH hl;clear hl;go_enter func57,ntmps57;go_upto_region 1 with fail
 rw[fa.out,ah.out];go_wp2_with fail;clear e0 p8 r0
 go_loopw [19] (fun j wr=>∃k:Nat,k<=out.length/\j=O U (k:Int)/\Ap (qs (qk s.vs s.p.t.outs out) k=0)/\Ap (Am w1.heap.size w1 wr)) (fun j _=>out.length-(Ao j).toNat)
 case atStart=>exact⟨0,by omega,rfl,rfl,Ll _ _⟩
 obtain⟨k,hk,rfl,hz,aC⟩:=hrel
 by_cases aU:k<out.length
 . have dJ:(k:Int)<(out.length:Int):=by omega
   have cA:(0:Int)<=(k:Int):=by omega
   have AJ:k<s.vs.length:=by rw[<-eD.out];exact aU
   obtain⟨b5,o5,rfl,ap,lD⟩:=iE.out.at_ k aU;have cB:b5<w1.heap.size:=Lx ap HB.out.size;have z0:=(aC.out.cell (p:=⟨b5,o5+k,Z⟩) cB).trans lD;clear lD
   have du:Ap (∀X,Am w1.heap.size w1 X->X.cell? ⟨w.heap.size,2,Z⟩=J (O U s.p.t.outs)/\X.cell? ⟨w.heap.size,7,Z⟩=J (O U s.n)/\X.cell? ⟨w.heap.size,8,Z⟩=J (I AV s.vs.length kv)/\X.cell? ⟨w.heap.size+1,0,Z⟩=J (I (J ⟨b5,o5,Z⟩) out.length cr)):=fun X hX=>
    ⟨za (La hX HD.out) 2 rfl,za (La hX HD.out) 7 rfl,za (La hX HD.out) 8 rfl,za (La hX HE.out) 0 rfl⟩
   have ez:out.getD k 0=out[k]:=by rw[Le,Lf aU];rfl
   have fu:Ap (qk s.vs s.p.t.outs out k=if out[k] < -1\/s.p.t.outs<=out[k] then 2 else if 0<=xx s.vs k/\0<=ruE out (xx s.vs k)/\ruE out (xx s.vs k)≠out[k] then 21 else 0):=by show qk _ _ _ _=_;unfold qk;rw[ez]
   have cy:Ap (qk s.vs s.p.t.outs out k≠0->F=qk s.vs s.p.t.outs out k):=fun h=>HR.out.trans (Y7 hz.out h AJ)
   have cY:Ap (qk s.vs s.p.t.outs out k=0->qs (qk s.vs s.p.t.outs out) (k+1)=0):=fun h=>(vD hz.out).trans h
   obtain⟨⟨q,im,Eg⟩,Bg⟩:=dv.out k AJ;have rC:=zH (Cy.out k AJ q im Eg);obtain⟨bb,aM⟩:=Kh (xx s.vs k);obtain⟨z,tP⟩:=Kh (out[k]);obtain⟨fr,EO⟩:=Kh (qk s.vs s.p.t.outs out k);rw[EO] at fu cy cY;rw[aM,tP] at fu;rw[aM] at rC Bg;rw[tP] at z0;obtain⟨p2,p7,p8,r0⟩:=du.out wr aC.out;clear ap cB ez aM tP EO Eg im
   by_cases h1:z < -1\/s.p.t.outs<=z
   · have cG : Ap (F = 2) := by
      have e:fr=2:=fu.out.trans (Lo h1);exact(cy.out (by rw[e];decide)).trans e
     have ce:=zH (Lc HB.out aC.out);clear fu cy cY Bg
     by_cases h2:z < -1
     . clear h1
       go_wp2_with fail;go_ret;exact⟨zd cG.out.symm,ce.out⟩
     have h3:s.p.t.outs<=z:=by omega
     clear h1;go_wp2_with fail;go_ret;exact⟨zd cG.out.symm,ce.out⟩
   have h2:¬z < -1:=fun h=>h1 (.inl h)
   have h3:¬s.p.t.outs<=z:=fun h=>h1 (.inr h)
   have fK:=zH (fu.out.trans (Li h1));clear h1 fu;go_wp2_with fail;refine(rC.out wr (Lc HB.out aC.out)).mono ?_;rintro e w5 ⟨rfl,ap⟩;have aW:=zH (Lc aC.out ap);clear ap p2 p7 p8 r0 h2 h3 z0;obtain⟨-,-,-,r0⟩:=du.out w5 aW.out;rcases Bg with KY | ⟨m,rfl,hm⟩
   . have oY:¬(0:Int)<=bb:=by omega
     have ft:=zH (cY.out (fK.out.trans (Li (fun h=>oY h.1))));clear fK cY cy KY;go_wp2_with fail
     go_roundw
     case rel=>exact⟨k+1,by omega,by go_num,ft,aW⟩
     simp[Ao];omega
   have iY:(0:Int)<=(m:Int):=by omega
   have iM:m<out.length:=by rw[eD.out];exact hm
   have GA:(m:Int)<(out.length:Int):=by omega
   obtain⟨b6,o6,e6,bz,DC⟩:=iE.out.at_ m iM
   cases e6
   have y0:=(aW.out.cell (p:=⟨b5,o5+m,Z⟩) (Lx bz HB.out.size)).trans DC;have er:ruE out (m:Int)=out[m]:=by unfold ruE;rw[Lj,Le,Lf iM];rfl
   rw[er] at fK;obtain⟨u,hu⟩:=Kh (out[m]);rw[hu] at y0 fK;clear DC er hu bz hm iM
   by_cases h4:0<=u
   . by_cases h5:u=z
     . have ft:=zH (cY.out (fK.out.trans (Li (fun h=>h.2.2 h5))))
       subst h5;clear fK cY cy;go_wp2_with fail
       go_roundw
       case rel=>exact⟨k+1,by omega,by go_num,ft,aW⟩
       simp[Ao];omega
     have e:fr=21:=fK.out.trans (Lo ⟨iY,h4,h5⟩);have Cu:Ap (F=21):=(cy.out (by rw[e];decide)).trans e;have e5:(u != z)=Ar:=by simpa using h5
     have ce:=zH (Lc HB.out aW.out);clear fK cY cy e h5;go_wp2_with fail;go_ret;exact⟨zd Cu.out.symm,ce.out⟩
   have ft:=zH (cY.out (fK.out.trans (Li (fun h=>h4 h.2.1))));clear fK cY cy;go_wp2_with fail
   go_roundw
   case rel=>exact⟨k+1,by omega,by go_num,ft,aW⟩
   simp[Ao];omega
 obtain rfl:k=out.length:=by omega
 have dJ:¬(out.length:Int)<(out.length:Int):=by omega
 have sG:Ap (F=0):=by rw[eD.out] at hz;exact HR.out.trans hz.out
 have ce:=zH (Lc HB.out aC.out);go_wp2_with fail;go_ret;exact⟨zd sG.out.symm,ce.out⟩
theorem Yt(s:Sy)(hs:LowS s)(hf:xN s.p)(hv:yb s=0){K N:Nat}(hF:Fine s K N)(out:List Int)(A SV AV AX AR:Bb)(kc ks kv kx cr:Nat)(w:Ba)(hS:SyAt w w.heap.size A SV AV AX s)(hR:IAt w w.heap.size AR out) :
  An Al 17 #[.agg (s.vs_ A kc SV ks AV kv AX kx),Ai #[I AR out.length cr]] w fun e w'=>e=Ak (O U (xf s out))/\Am w.heap.size w w':=by
 obtain⟨wa,cm,da,cX,dl⟩:=zh w (s.vs_ A kc SV ks AV kv AX kx) 39;obtain⟨w1,ac,db,dB,cx⟩:=zh wa #[I AR out.length cr] 32;have hB:Am w.heap.size w w1:=dl.trans (cx.mono (by omega));have da:w1.heap[w.heap.size]?=J (Ag (s.vs_ A kc SV ks AV kv AX kx) 39 (0,0)):=Lb cx (by omega) da;rw[cX] at db;have HV:=zH (uv s hs hf A SV AV AX kc ks kv kx w1 (hS.up hB));have Cq:=zH (fun (X:Ba) (hX:Am w.heap.size w X)=>XF s hF out A SV AV AX AR kc ks kv kx cr X (hS.up hX) ((hR.keep hX).more hX.size));rw[hv] at HV;obtain⟨F,iC⟩:=Kh (xf s out);rw[iC] at Cq ⊢;unfold Sy.vs_ at cm da HV Cq ⊢;have HD:=zH da;have HE:=zH db;have fa:=zH cm;have ah:=zH ac;have HB:=zH hB;obtain⟨p0,p1,p2,p3,p4,p5,p6,p7,p8,p9⟩:=zK da;clear iC cm ac da db cX dB dl cx hB hR hS hF hs hf hv;go_enter func17,ntmps17;go_upto_region 1 with fail
 rw[fa.out,ah.out];go_wp2_with fail;refine HV.out.mono ?_;rintro e w2 ⟨rfl,af⟩;have aP:=zH (Lc HB.out af);have d2:=La af HD.out;obtain⟨p0,p1,p2,p3,p4,p5,p6,p7,p8,p9⟩:=zK d2;have r0:=za (La af HE.out) 0 rfl;clear af d2;go_wp2_with fail;refine(Cq.out w2 aP.out).mono ?_;rintro e w3 ⟨rfl,am⟩;have bk:=zH (Lc aP.out am);clear am;go_wp2_with fail;go_ret;exact⟨rfl,bk.out⟩
end
section
open Go.RowKit
attribute [local go_sem] Oper.semAt_some
theorem XO(s:Sy)(K N:Nat)(hF:Fine s K N)(k:Nat)(hk:k<s.xs.length)(A SV AV AX:Bb)(kc ks kv kx:Nat)(w:Ba)(hS:SyAt w w.heap.size A SV AV AX s) :
  An Al 95 #[.agg (s.vs_ A kc SV ks AV kv AX kx),O U (k:Int)] w fun e w'=>∃B c,e=Ak (.slice B (s.xs[k].views.getD K []).length c)/\IAt w' w'.heap.size B (s.xs[k].views.getD K [])/\Am w.heap.size w w':=by
 obtain⟨w1,ac,d0,aA,hB⟩:=zh w (s.vs_ A kc SV ks AV kv AX kx) 39;have d':=zH (hS.up hB);have sV:=hF.k;obtain⟨co,_⟩:=hF.views _ (Ld hk);obtain⟨bx,ox,A1,c1,A2,c2,eX,aV,x0,x1,x2,de,eU⟩:=d'.out.fx.row k hk;subst eX;obtain⟨x,hx⟩:=Kh (s.xs[k]);rw[hx] at co x0 x1 x2 eU ⊢;have Th:K<x.views.length:=by omega
 obtain⟨bl,ol,A3,c3,eL,az,y1,hI⟩:=eU.at_ K Th;subst eL;have lp:x.views.getD K []=x.views[K]:=getD_get Th _;rw[lp];obtain⟨row,oE⟩:=Kh (x.views[K]);rw[oE] at y1 hI ⊢;unfold Sy.vs_ at ac d0 ⊢;rw[sV] at ac d0 ⊢;have ah:=zH ac;have HB:=zH hB;have HI:=zH hI;have p6:=za d0 6 rfl;have p9:=za d0 9 rfl;have cA:(0:Int)<=(k:Int):=by omega
 have bC:(k:Int)<(s.xs.length:Int):=by omega
 have WK:(0:Int)<=(K:Int):=by omega
 have WJ:(K:Int)<(x.views.length:Int):=by omega
 clear ac d0 hB hS hI de eU lp oE hx co sV hF d';go_enter func95,ntmps95;go_wp2_with fail;rw[ah.out];go_quiet (fail);go_wp2_with fail;go_ret;exact⟨A3,c3,rfl,HI.out.keep (zO (Ll _ _) _),zO HB.out _⟩
theorem JA(s:Sy)(K N:Nat)(hF:Fine s K N)(k:Nat)(hk:k<s.xs.length)(A SV AV AX:Bb)(kc ks kv kx:Nat)(w:Ba)(hS:SyAt w w.heap.size A SV AV AX s) :
  An Al 54 #[.agg (s.vs_ A kc SV ks AV kv AX kx),O U (k:Int)] w fun e w'=>e=Ak (O U (uf N s.xs[k]))/\Am w.heap.size w w':=by
 obtain⟨w1,ac,d0,aA,hB⟩:=zh w (s.vs_ A kc SV ks AV kv AX kx) 39;have pY:=hS.up hB;have hn:=hF.n;have h1:=hF.n1;have h5:=hF.n5;obtain⟨lk,_⟩:=hF.word _ (Ld hk);have rW:=hF.k6;obtain⟨bx,ox,A1,c1,A2,c2,eX,aV,x0,x1,x2,de,eU⟩:=pY.fx.row k hk;subst eX;have Ko:=wG (x:=s.xs[k]) h1 h5;have Ox:=zH (fun (X:Ba)=>wj (N:Int) (by omega) (by omega) X)
 have Ej:((2^((N:Int)).toNat-1:Nat):Int)=(2:Int)^N-1:=by
  obtain rfl | rfl | rfl | rfl | rfl:N=1\/N=2\/N=3\/N=4\/N=5:=by omega
  all_goals rfl
 rw[Ej] at Ox;have ib:=zH (fun (X:Ba) (hX:Am w1.heap.size w1 X)=>wW s.xs[k] (by omega) A1 A2 c1 c2 X ((de.keep hX).more hX.size));obtain⟨x,hx⟩:=Kh (s.xs[k]);rw[hx] at x0 x1 x2 Ko ib ⊢;unfold Sy.vs_ at ac d0 ⊢;rw[hn] at ac d0 ⊢;have ah:=zH ac;have HB:=zH hB;have HD:=zH d0;have Of:=zH Ko;obtain⟨M,hM⟩:=Kh (uf N x);rw[hM] at Of ⊢;obtain⟨f,hf⟩:=Kh (yf x);rw[hf] at Of ib
 have nO:Ap (∀X,Am w1.heap.size w1 X->X.heap[w.heap.size]?=J (Ag #[O U s.p.t.n,O U s.p.t.ins,O U s.p.t.outs,I A s.p.t.cases.length kc,O U s.p.a.n,I SV s.p.a.sts.length ks,O U s.p.k,O U (N:Int),I AV s.vs.length kv,I (J ⟨bx,ox,Z⟩) s.xs.length kx] 39 (0,0))/\X.cell? ⟨bx,ox+k*3,Z⟩=J (O U x.c)/\X.cell? ⟨bx,ox+k*3+1,Z⟩=J (I A1 x.word.length c1)/\X.cell? ⟨bx,ox+k*3+2,Z⟩=J (I A2 x.views.length c2)):=fun X hX=>
  ⟨La hX d0,(hX.cell (p:=⟨bx,_,Z⟩) aV).trans x0,(hX.cell (p:=⟨bx,_,Z⟩) aV).trans x1,(hX.cell (p:=⟨bx,_,Z⟩) aV).trans x2⟩
 have cA:(0:Int)<=(k:Int):=by omega
 have bC:(k:Int)<(s.xs.length:Int):=by omega
 clear ac d0 hB hS pY de eU hx hn hF Ko hM hf Ej lk x0 x1 x2;go_enter func54,ntmps54;go_wp2_with fail;rw[ah.out];refine zk [(0,Ar),(1,Ar),(2,Ar),(4,Ar),(5,Ar),(6,Ar),(7,Ar),(8,Ar),(3,As),(9,As),(10,As),(11,As)] (fun X=>X.heap[w.heap.size]?=J (Ag #[O U s.p.t.n,O U s.p.t.ins,O U s.p.t.outs,I A s.p.t.cases.length kc,O U s.p.a.n,I SV s.p.a.sts.length ks,O U s.p.k,O U (N:Int),I AV s.vs.length kv,I (J ⟨bx,ox,Z⟩) s.xs.length kx] 39 (0,0))/\X.cell? ⟨bx,ox+k*3,Z⟩=J (O U x.c)/\X.cell? ⟨bx,ox+k*3+1,Z⟩=J (I A1 x.word.length c1)/\X.cell? ⟨bx,ox+k*3+2,Z⟩=J (I A2 x.views.length c2)) (by kernel_rfl) (by kernel_rfl) (nO.out _ (Ll _ w1).drew) ?_
 repeat
  apply zy rfl
  . rintro K' ae W ⟨y,x0,x1,x2⟩
    have p7:=za y 7 rfl;have p9:=za y 9 rfl;clear y;go_simp;exact ae
 refine zt rfl ?_;intro K' ae;go_simp;refine(Ox.out w1.drew).mono ?_;rintro e w2 ⟨rfl,rfl⟩;refine ae _ _ (nO.out _ (Ll _ w1).drew) ?_;clear ae K' Ox;refine zt rfl ?_;intro K' ae;go_simp;refine(ib.out w1.drew (Ll _ w1).drew).mono ?_;rintro e w3 ⟨rfl,am⟩;have G3:Ap (Am w1.heap.size w1 w3):=(Ll _ w1).drew.trans am;refine ae _ _ (nO.out _ G3.out) ?_;clear ae K' ib am;refine zt rfl ?_;intro K' ae;go_simp;refine ae _ _ (nO.out _ G3.out) ?_;clear ae K';refine zt rfl ?_;intro K' ae;go_simp;refine ae _ _ (nO.out _ G3.out) ?_;clear ae K';refine zE ?_;go_wp2_with fail;go_ret;exact⟨zd Of.out.symm,HB.out.trans (G3.out.mono (by omega))⟩
end
section
open Go.RowKit Go.Shelf
attribute [local go_sem] Oper.semAt_some
theorem Yw(s:Sy){K N:Nat}(hF:Fine s K N)(out:List Int)(cz:out.length=s.vs.length)(i:Nat)(hi:i<s.xs.length)(A SV AV AX AR:Bb)(kc ks kv kx cr:Nat)(w:Ba)(hS:SyAt w w.heap.size A SV AV AX s)(hR:IAt w w.heap.size AR out) :
  An Al 52 #[.agg (s.vs_ A kc SV ks AV kv AX kx),Ai #[I AR out.length cr],O U (i:Int)] w fun e w'=>∃v,e=Ak v/\Own w' w.heap.size v (qq out s.xs[i] K)/\Am w.heap.size w w':=by
 have hx:=Ld hi;obtain⟨co,ov⟩:=hF.views _ hx;obtain⟨wa,cm,da,cX,dl⟩:=zh w (s.vs_ A kc SV ks AV kv AX kx) 39;obtain⟨w1,ac,db,dB,cx⟩:=zh wa #[I AR out.length cr] 32;have hB:Am w.heap.size w w1:=dl.trans (cx.mono (by omega));have da:w1.heap[w.heap.size]?=J (Ag (s.vs_ A kc SV ks AV kv AX kx) 39 (0,0)):=Lb cx (by omega) da;have iR:=zH (XO s K N hF i hi A SV AV AX kc ks kv kx w1 (hS.up hB));have hK:s.xs[i].views[K]'(by omega)=s.xs[i].views.getD K []:=by rw[Le,Lf (by omega)];rfl
 have aN:=ov _ (Ld (show K<s.xs[i].views.length by omega));have mY:qq out s.xs[i] K=(s.xs[i].views.getD K []).map (ruE out):=rfl;rw[hK] at aN;obtain⟨l,hl⟩:=Kh (s.xs[i].views.getD K []);rw[hl] at aN iR mY;rw[mY];have mH:l.length<=5:=by have:=hF.n5;omega
 unfold Sy.vs_ at cm da iR ⊢;rw[cX] at db;have fa:=zH cm;have ah:=zH ac;have HB:=zH hB;have NK:=zH db;have iE:=zH (hR.keep hB);have Dj:Ap (∀z∈l,0<=z/\z<(out.length:Int)):=fun z hz=>by rw[cz];exact aN.2 z hz
 have fZ:=zH (fun (k:Nat) (hk:k<l.length)=>YY (out:=out) hk);obtain⟨L2,eH⟩:=Kh (l.map (ruE out));have aD:Ap (L2.take l.length=L2):=by rw[<-eH];exact NB (by simp)
 have Ew:Ap (∀k,(L2.take k).length<=5):=fun k=>by rw[NS,<-eH,LJ];omega
 rw[eH] at fZ ⊢;obtain⟨p0,p1,p2,p3,p4,p5,p6,p7,p8,p9⟩:=zK da;clear eH mY hK hl co da db cm ac hB hR hS aN ov hx cX dB dl cx hF cz;go_enter func52,ntmps52;go_upto_region 1 with fail
 rw[fa.out,ah.out];go_wp2_with fail;refine iR.out.mono ?_;rintro e w2 ⟨AL,cl,rfl,hI,af⟩;have HI:=zH hI;have aP:=zH (Lc HB.out af);have cF:=zH (La af NK.out);have pj:=zH ((iE.out.keep (af.mono HB.out.size)).more aP.out.size);clear hI af p0 p1 p2 p3 p4 p5 p6 p7 p8 p9;go_wp2_with fail
 go_loopw [7,9] (fun o j wr=>∃k:Nat,k<=l.length/\j=O U (k:Int)/\Ap (Own wr w2.heap.size o (L2.take k))/\Ap (Am w2.heap.size w2 wr)) (fun _ j _=>l.length-(Ao j).toNat)
 case atStart=>exact⟨0,by omega,rfl,by rw[LI];exact Own.nil _ _,Ll _ _⟩
 obtain⟨k,hk,rfl,HO,aC⟩:=hrel
 by_cases aU:k<l.length
 . have dJ:(k:Int)<(l.length:Int):=by omega
   have cA:(0:Int)<=(k:Int):=by omega
   obtain⟨b5,o5,rfl,ap,lD⟩:=HI.out.at_ k aU;obtain⟨g0,g1⟩:=Dj.out _ (Ld aU);have HT:=zH (fZ.out k aU);obtain⟨z,hz⟩:=Kh (l[k]);rw[hz] at lD g0 g1 HT;obtain⟨zn,rfl⟩:=Lr g0;obtain⟨b6,o6,rfl,bz,CF⟩:=pj.out.at_ zn (by omega);have er:ruE out (zn:Int)=out[zn]'(by omega):=by unfold ruE;rw[Lj,Le,Lf (by omega)];rfl
   rw[er] at HT;obtain⟨u,hu⟩:=Kh (out[zn]'(by omega));rw[hu] at CF HT
   have iG:Ap (∀X,Am w2.heap.size w2 X->X.cell? ⟨b5,o5+k,Z⟩=J (O U (zn:Int))/\X.cell? ⟨b6,o6+zn,Z⟩=J (O U u)/\X.cell? ⟨w.heap.size+1,0,Z⟩=J (I (J ⟨b6,o6,Z⟩) out.length cr)):=fun X hX=>
    ⟨(hX.cell (p:=⟨_,_,Z⟩) ap).trans lD,(hX.cell (p:=⟨_,_,Z⟩) bz).trans CF,za (La hX cF.out) 0 rfl⟩
   obtain⟨z0,z1,r0⟩:=iG.out wr aC.out;have ep:=Ew.out k;clear hz er hu ap bz lD CF;go_upto_region 6 with fail
   go_region_held3 (fun w'=>w'.cell? ⟨b5,o5+k,Z⟩=J (O U (zn:Int))/\w'.cell? ⟨b6,o6+zn,Z⟩=J (O U u)/\w'.cell? ⟨w.heap.size+1,0,Z⟩=J (I (J ⟨b6,o6,Z⟩) out.length cr)) (first | exact iG.out _ aC.out | exact iG.out _ aC.out.drew | exact iG.out _ (aC.out.alloc aC.out.size _).drew | exact iG.out _ (aC.out.alloc aC.out.size _) | exact iG.out _ (aC.out.trans (QB ap)) | exact iG.out _ (aC.out.trans (QB ap)).drew) ((refine XC rfl _ _ rfl w2.heap.size u7 _ u rfl (HO.out.drewN _) rfl (by omega) aC.out.size ?_;intro v' w5 iW ix ap))
   go_wp2_with fail
   all_goals exact⟨⟨k+1,by omega,by go_num,by rw[HT.out];exact iW,aC.out.trans (QB ap)⟩,by simp[Ao];omega⟩
 obtain rfl:k=l.length:=by omega
 have dJ:¬(l.length:Int)<(l.length:Int):=by omega
 rw[aD.out] at HO;have ce:=zH (Lc aP.out aC.out);go_wp2_with fail;go_ret;exact⟨_,rfl,HO.out.low aP.out.size,ce.out⟩
theorem mask_bit{N f p:Nat}(h5:N<=5)(hf:f<2^N)(hp:p<N):(bits BinOp.andNot U ((2:Int)^N-1) (f:Int)).toNat.testBit p=!f.testBit p:=by
 have key:∀N:Nat,N<6->∀f:Nat,f<32->∀p:Nat,p<5->f<2^N->p<N->(bits BinOp.andNot U ((2:Int)^N-1) (f:Int)).toNat.testBit p=!f.testBit p:=by decide +kernel
 have BM:2^N<=2^5:=LZ (by omega) h5;exact key N (by omega) f (by omega) p (by omega) hf hp
theorem fails_hit{s:Sy}{N K:Nat}{out:List Int}{k:Nat}(hk:k<s.xs.length)(hb:qA s N K out s.xs[k]=Ar)(cD:∀i (_:i<s.xs.length),i<k->qA s N K out s.xs[i]=As):xX s N K out=(k:Int):=by
 unfold xX;have h1:s.xs.findIdx? (fun x=>qA s N K out x)=J k:=Rr.2 ⟨hk,hb,fun j hj=>by rw[cD j (by omega) hj];decide⟩;rw[h1]
theorem Qu{s:Sy}{N K:Nat}{out:List Int}(h:∀i (_:i<s.xs.length),qA s N K out s.xs[i]=As):xX s N K out=-1:=by
 unfold xX
 have h1:s.xs.findIdx? (fun x=>qA s N K out x)=Z:=PJ.2 fun x hx=>by
  obtain⟨i,hi,rfl⟩:=LG hx;exact h i hi
 rw[h1]
def qF(l:List Int)(f q:Nat):Bool:=(List.range q).any fun p=>decide (l.getD p 0<0)&&!f.testBit p
theorem JP(l:List Int)(f q:Nat):qF l f (q+1)=(qF l f q||(decide (l.getD q 0<0)&&!f.testBit q)):=by
 unfold qF;rw[RI,List.any_append];simp
structure CaseOk(s:Sy)(N:Nat)(x:Exn):Prop where
 at_:∃c:Nat,x.c=(c:Int)/\c<s.p.t.cases.length
 len:∀u∈yV (s.p.t.cases.getD x.c.toNat default) (yf x),u.length=N
 few:(yV (s.p.t.cases.getD x.c.toNat default) (yf x)).length<=100000
theorem ZH(s:Sy){K N:Nat}(hF:Fine s K N)(hC:∀x∈s.xs,CaseOk s N x)(out:List Int)(cz:out.length=s.vs.length)(A SV AV AX AR:Bb)(kc ks kv kx cr:Nat)(w:Ba)(hS:SyAt w w.heap.size A SV AV AX s)(hR:IAt w w.heap.size AR out) :
  An Al 16 #[.agg (s.vs_ A kc SV ks AV kv AX kx),Ai #[I AR out.length cr]] w fun e w'=>e=Ak (O U (xX s N K out))/\Am w.heap.size w w':=by
 obtain⟨wa,cm,da,cX,dl⟩:=zh w (s.vs_ A kc SV ks AV kv AX kx) 39;obtain⟨w1,ac,db,dB,cx⟩:=zh wa #[I AR out.length cr] 32;have hB:Am w.heap.size w w1:=dl.trans (cx.mono (by omega));have da:w1.heap[w.heap.size]?=J (Ag (s.vs_ A kc SV ks AV kv AX kx) 39 (0,0)):=Lb cx (by omega) da;rw[cX] at db;have dt:=hF.lx;have rr:=zH (fun (k:Nat) (hk:k<s.xs.length) (X:Ba) (hX:Am w.heap.size w X)=>Yw s hF out cz k hk A SV AV AX AR kc ks kv kx cr X (hS.up hX) ((hR.keep hX).more hX.size));have Ht:=zH (fun (k:Nat) (hk:k<s.xs.length) (X:Ba) (hX:Am w.heap.size w X)=>JA s K N hF k hk A SV AV AX kc ks kv kx X (hS.up hX));have sH:=zH hC;have iR:=zH hF;have HS:=zH hS;have cy:=zH (fun (k:Nat) hk hb cD=>@fails_hit s N K out k hk hb cD);have pk:=zH (@Qu s N K out);obtain⟨F,iC⟩:=Kh (xX s N K out);simp only[iC] at cy;rw[iC] at pk ⊢;unfold Sy.vs_ at cm da rr Ht ⊢;have HD:=zH da;have HE:=zH db;have fa:=zH cm;have ah:=zH ac;have HB:=zH hB;clear iC cm ac da db cX dB dl cx hB hR hS hF hC cz;go_enter func16,ntmps16;go_upto_region 1 with fail
 rw[fa.out,ah.out];go_wp2_with fail
 go_loopw [5] (fun j wr=>∃k:Nat,k<=s.xs.length/\j=O U (k:Int)/\Ap (∀i (_:i<s.xs.length),i<k->qA s N K out s.xs[i]=As)/\Ap (Am w1.heap.size w1 wr)) (fun j _=>s.xs.length-(Ao j).toNat)
 case atStart=>exact⟨0,by omega,rfl,fun _ _ h=>absurd h (by omega),Ll _ _⟩
 obtain⟨k,hk,rfl,cD,aC⟩:=hrel;have mv:=zH (Lc HB.out aC.out)
 by_cases aU:k<s.xs.length
 . have dJ:(k:Int)<(s.xs.length:Int):=by omega
   have cA:(0:Int)<=(k:Int):=by omega
   have bu:=Ld aU;obtain⟨⟨cn,fl,aw⟩,fB,pT⟩:=sH.out _ bu;obtain⟨f,hf,dr⟩:=kM iR.out bu;obtain⟨lk,fw⟩:=iR.out.word _ bu;obtain⟨co,ov⟩:=iR.out.views _ bu;have h1:=iR.out.n1;have h5:=iR.out.n5;have h6:=iR.out.k6;have BM:f<32:=Lx dr (LZ (n:=2) (by omega) h5);obtain⟨m,hm,Kr⟩:=mask_nat (x:=s.xs[k]) h1 h5 fw
   have Hu:Ap (∀p,p<N->m.testBit p=!f.testBit p):=fun p hp=>by
    have e:=wG (x:=s.xs[k]) h1 h5;rw[hm,hf] at e;have e2:=mask_bit h5 dr hp;rw[<-e,Lj] at e2;exact e2
   have rX:s.p.t.cases.getD s.xs[k].c.toNat default=s.p.t.cases[cn]:=by rw[fl,Lj,Le,Lf aw];rfl
   have aD:(qq out s.xs[k] K).length=N:=by
    unfold qq;rw[LJ,Le,Lf (by omega)];exact(ov _ (Ld (show K<s.xs[k].views.length by omega))).1
   have rz:Ap (qA s N K out s.xs[k]=(qF (qq out s.xs[k] K) f N||!vy s.p.t.cases[cn] (f:Int) (qq out s.xs[k] K))):=by
    show _=_;unfold qA missB xz qF;rw[rX,hf,Lj]
   obtain⟨bx,ox,A1,c1,A2,c2,eX,aV,x0,x1,x2,de,eU⟩:=(HS.out.keep mv.out).fx.row k aU;subst eX;obtain⟨bc,oc,B0,d0,B1,d1,B2,d2,eC,lw,y0,y1,y2,si,tq,eH⟩:=(HS.out.keep mv.out).fc.row cn aw;subst eC;have Uf:=zH (rr.out k aU);have Oe:=zH (Ht.out k aU);have ib:=zH (fun (X:Ba) (hX:Am w.heap.size wr X) (hs:w.heap.size<=X.heap.size)=>wW s.xs[k] (by omega) A1 A2 c1 c2 X ((de.keep hX).more hs));rw[rX,hf] at fB pT
   have Od:=zH (fun (L:List Int) (hL:L.length=N) (X:Ba) (hX:Am w.heap.size wr X) (hs:w.heap.size<=X.heap.size) (AL:Bb) (cl:Nat) (hI:IAt X X.heap.size AL L)=>
    rmay_any s.p.t.cases[cn] f BM L (fun u hu=>by have:=fB u hu;omega) pT B0 B1 B2 AL d0 d1 d2 cl X ((tq.keep hX).more hs) ((eH.keep hX).more hs) hI)
   have Dv:=zH (cy.out k aU)
   have cN:Ap (qA s N K out s.xs[k]=As->∀i (_:i<s.xs.length),i<k+1->qA s N K out s.xs[i]=As):=fun h i hi aa=>by
    by_cases e:i=k
    . subst e;exact h
    . exact cD.out i hi (by omega)
   rw[hm] at Oe;rw[hf] at ib;obtain⟨fb,EP⟩:=Kh (qA s N K out s.xs[k]);rw[EP] at rz Dv cN;obtain⟨L,hL⟩:=Kh (qq out s.xs[k] K);rw[hL] at rz Uf aD;obtain⟨x,hx⟩:=Kh (s.xs[k]);rw[hx] at x0 x1 x2 fl ib;rw[fl] at x0 ib;obtain⟨cc,lZ⟩:=Kh (s.p.t.cases[cn]);rw[lZ] at y0 y1 y2 Od rz;obtain⟨W3,dE,g3,ij,cW⟩:=zh wr #[O U (cn:Int),I A1 x.word.length c1,I A2 x.views.length c2] 49;have nP:=zH dE;have Gc:=zH g3;have bk:=zH (Lc mv.out cW);have rj:=zH (cW.mono mv.out.size);have FE:Ap (wr.heap.size<W3.heap.size):=by show _<_;omega
   have Wb:(0:Int)<=(cn:Int):=by omega
   have Wa:(cn:Int)<(s.p.t.cases.length:Int):=by omega
   have p9:wr.cell? ⟨w.heap.size,9,Z⟩=J (I (J ⟨bx,ox,Z⟩) s.xs.length kx):=za (La aC.out HD.out) 9 rfl
   have i9:Ap (∀X,Am W3.heap.size W3 X->Am w.heap.size w X/\Am w.heap.size wr X/\Am w1.heap.size w1 X/\w.heap.size<=X.heap.size):=fun X hX=>by
    have a1:Am wr.heap.size wr X:=Lc cW hX;have a2:=Lc aC.out a1;have a3:=Lc HB.out a2;exact⟨a3,a1.mono mv.out.size,a2,a3.size⟩
   have iG:Ap (∀X,Am W3.heap.size W3 X->X.cell? ⟨w.heap.size,3,Z⟩=J (I (J ⟨bc,oc,Z⟩) s.p.t.cases.length kc)/\X.cell? ⟨wr.heap.size,0,Z⟩=J (O U (cn:Int))/\X.cell? ⟨wr.heap.size,1,Z⟩=J (I A1 x.word.length c1)/\X.cell? ⟨wr.heap.size,2,Z⟩=J (I A2 x.views.length c2) /\
     X.cell? ⟨bc,oc+cn*3,Z⟩=J (I B0 cc.inp.length d0)/\X.cell? ⟨bc,oc+cn*3+1,Z⟩=J (I B1 cc.out.length d1)/\X.cell? ⟨bc,oc+cn*3+2,Z⟩=J (I B2 cc.calm.length d2)):=fun X hX=>by
    obtain⟨-,o8,ti,-⟩:=i9.out X hX;have Bo:=Lb hX FE.out Gc.out
    exact⟨za (La ti HD.out) 3 rfl,za Bo 0 rfl,za Bo 1 rfl,za Bo 2 rfl,
     (o8.cell (p:=⟨bc,_,Z⟩) lw).trans y0,(o8.cell (p:=⟨bc,_,Z⟩) lw).trans y1,(o8.cell (p:=⟨bc,_,Z⟩) lw).trans y2⟩
   clear dE g3 ij cW y0 y1 y2 lw aV si tq eH de eU rX bu fB pT lk fw co ov dr hm hf EP hL fl aw lZ hx BM h6;go_upto_region 5 with fail
   rw[nP.out];clear x0 x1 x2 p9;have Mc:=(i9.out W3 (Ll _ _)).2.2.1;have dd:=La Mc HD.out;obtain⟨p0,p1,p2,p3,p4,p5,p6,p7,p8,p9⟩:=zK dd;have r0:=za (La Mc HE.out) 0 rfl;clear Mc dd;go_wp2_with fail;refine(Uf.out W3 bk.out).mono ?_;rintro e w4 ⟨v,rfl,hO,bq⟩;obtain⟨AL,cl,rfl,-,-,hI⟩:=hO.form;have pw:=zH hI;have nz:=zH bq;clear hO hI bq p0 p1 p2 p3 p4 p5 p6 p7 p8 p9 r0;go_wp2_with fail;have Ci:=zH cD.out;clear cD aC
   go_loopw [8,9] (fun ms j wq=>∃q:Nat,q<=L.length/\j=O U (q:Int)/\ms=Ah (qF L f q)/\Ap (Am w4.heap.size w4 wq)) (fun _ j _=>L.length-(Ao j).toNat)
   case atStart=>exact⟨0,by omega,rfl,rfl,Ll _ _⟩
   obtain⟨q,hq,rfl,rfl,C0⟩:=hrel;have Ie:Ap (Am W3.heap.size W3 wr):=Lc nz.out C0.out;have tD:=zH (JP L f q);obtain⟨b,hb⟩:=Kh (qF L f q)
   by_cases Eh:q<L.length
   . have Av:(q:Int)<(L.length:Int):=by omega
     have oG:(0:Int)<=(q:Int):=by omega
     have im:q<5:=by omega
     obtain⟨bl,ol,rfl,az,lD⟩:=pw.out.at_ q Eh;have HZ:=zH (fun (X:Ba) (hX:Am w4.heap.size w4 X)=>(hX.cell (p:=⟨bl,ol+q,Z⟩) az).trans lD);have ez:L.getD q 0=L[q]:=by rw[Le,Lf Eh];rfl
     rw[ez,<-Hu.out q (by omega)] at tD;obtain⟨z,hz⟩:=Kh (L[q]);rw[hz] at tD HZ;rw[hb] at tD ⊢;have z0:=HZ.out wr C0.out;clear lD ez hz hb az
     cases b with
     | true=>
      have sy:Ap (qF L f (q+1)=Ar):=by show _=_;rw[tD.out];rfl
      go_wp2_with fail
      go_roundw
      case rel=>exact⟨q+1,by omega,by go_num,by rw[sy.out],C0⟩
      case measure=>simp[Ao];omega
     | false=>
      by_cases hz:z<0
      . have sy:Ap (qF L f (q+1)=m.testBit q):=by show _=_;rw[tD.out,Lm hz];simp
        have FZ:=zH (Oe.out wr (i9.out wr Ie.out).1);have HHS:=zH (fun X=>kX m q Kr im X);have dd:=((i9.out wr Ie.out).2.2.1.block _ (zc HD.out)).trans HD.out;obtain⟨p0,p1,p2,p3,p4,p5,p6,p7,p8,p9⟩:=zK dd;clear dd tD;go_wp2_with fail;refine FZ.out.mono ?_;rintro e w5 ⟨rfl,ap⟩;have aW:=zH (Lc C0.out ap);clear ap p0 p1 p2 p3 p4 p5 p6 p7 p8 p9 FZ;go_wp2_with fail;refine(HHS.out w5).mono ?_;rintro e w6 ⟨rfl,pH⟩;obtain rfl:=pH.symm;go_wp2_with fail
        go_roundw
        case rel=>exact⟨q+1,by omega,by go_num,by rw[sy.out],aW⟩
        case measure=>simp[Ao];omega
      . have sy:Ap (qF L f (q+1)=As):=by show _=_;rw[tD.out,Ln hz];rfl
        go_wp2_with fail
        go_roundw
        case rel=>exact⟨q+1,by omega,by go_num,by rw[sy.out],C0⟩
        case measure=>simp[Ao];omega
   obtain rfl:q=L.length:=by omega
   have Av:¬(L.length:Int)<(L.length:Int):=by omega
   rw[aD] at hb;obtain⟨mb,mF⟩:=Kh (vy cc (f:Int) L);rw[hb,mF] at rz;have FY:=zH (fun (X:Ba) (hX:Am W3.heap.size W3 X) (SO:Am w4.heap.size w4 X)=>Od.out L aD X (i9.out X hX).2.1 (i9.out X hX).2.2.2 AL cl ((pw.out.keep SO).more SO.size));rw[mF,aD] at FY;rw[aD,hb];clear hb mF tD Od Oe Hu pw;have lc:Ap (∀X,Am wr.heap.size wr X->Am W3.heap.size W3 X/\Am w4.heap.size w4 X):=fun X hX=>⟨Lc Ie.out hX,Lc C0.out hX⟩
   cases b with
   | true=>
    have fu:Ap (F=(k:Int)):=Dv.out (by rw[rz.out];rfl) Ci.out;go_upto_region 11 with fail
    refine zk [(0,Ar),(1,Ar),(2,Ar),(3,Ar),(4,Ar),(5,Ar),(6,Ar),(7,Ar),(8,Ar),(9,Ar),(10,Ar),(12,Ar),(11,As),(13,As),(14,As),(15,As)] (fun X=>Am wr.heap.size wr X) (by kernel_rfl) (by kernel_rfl) (Ll _ _).drew ?_
    iterate 12
     apply zy rfl
     . rintro K' ae X u
       clear u;go_simp
       with_reducible exact ae
    iterate 4
     refine zt rfl ?_;intro K' ae;go_simp;refine ae _ _ (Ll _ _).drew ?_;clear ae K'
    refine zE ?_;go_wp2_with fail;go_ret;exact⟨zd fu.out.symm,((i9.out _ Ie.out).1).drew⟩
   | false=>
    go_upto_region 11 with fail
    refine zk [(0,Ar),(1,Ar),(2,Ar),(3,Ar),(4,Ar),(5,Ar),(6,Ar),(7,Ar),(8,Ar),(9,Ar),(10,Ar),(12,Ar),(11,As),(13,As),(14,As),(15,As)] (fun X=>Am wr.heap.size wr X) (by kernel_rfl) (by kernel_rfl) (Ll _ _).drew ?_
    iterate 12
     apply zy rfl
     . rintro K' ae X u
       obtain⟨q3,e0,e1,e2,y0,y1,y2⟩:=iG.out X (lc.out X u).1;clear u;go_simp
       with_reducible exact ae
    refine zt rfl ?_;intro K' ae;go_simp;refine(ib.out wr.drew (i9.out _ (lc.out _ (Ll _ wr).drew).1).2.1 (i9.out _ (lc.out _ (Ll _ wr).drew).1).2.2.2).mono ?_;rintro e w5 ⟨rfl,ap⟩;have aW:Ap (Am wr.heap.size wr w5):=(Ll _ wr).drew.trans ap;refine ae _ _ aW.out ?_;clear ae K' ap;refine zt rfl ?_;intro K' ae;go_simp;refine(FY.out w5 (lc.out w5 aW.out).1 (lc.out w5 aW.out).2).mono ?_;rintro e w6 ⟨rfl,bz⟩;have dj:Ap (Am wr.heap.size wr w6):=Lc aW.out bz;refine ae _ _ dj.out ?_;clear ae K' bz;have ce:=zH (i9.out _ (lc.out w6 dj.out).1)
    cases mb with
    | true=>
     have cI:=zH (cN.out (by rw[rz.out];rfl))
     iterate 2
      refine zt rfl ?_;intro K' ae;go_simp;refine ae _ _ dj.out ?_;clear ae K'
     refine zE ?_;go_wp2_with fail
     go_roundw
     case rel=>exact⟨k+1,by omega,by go_num,cI,ce.out.2.2.1⟩
     case measure=>simp[Ao];omega
    | false=>
     have fu:Ap (F=(k:Int)):=Dv.out (by rw[rz.out];rfl) Ci.out
     iterate 2
      refine zt rfl ?_;intro K' ae;go_simp;refine ae _ _ dj.out ?_;clear ae K'
     refine zE ?_;go_wp2_with fail;go_ret;exact⟨zd fu.out.symm,ce.out.1⟩
 obtain rfl:k=s.xs.length:=by omega
 have dJ:¬(s.xs.length:Int)<(s.xs.length:Int):=by omega
 have sG:Ap (F=-1):=pk.out fun i hi=>cD.out i hi hi
 have p9:wr.cell? ⟨w.heap.size,9,Z⟩=J (I AX s.xs.length kx):=za (La aC.out HD.out) 9 rfl;go_wp2_with fail;go_ret;exact⟨zd sG.out.symm,mv.out⟩
def jd(m x:Int):Bool:=decide (x < -1\/m<=x)
theorem JJ(x m:Int)(bt:Nat)(w:Ba)(c2:w.cell? ⟨bt,2,Z⟩=J (O U m)) :
  An Al 59 #[O U x,Aj (J ⟨bt,0,Z⟩)] w fun e w'=>e=Ak (Ah (jd m x))/\w=w':=by
 have H:Ap (jd m x=decide (x < -1\/m<=x)):=rfl;obtain⟨r,hr⟩:=Kh (jd m x);rw[hr] at H ⊢
 by_cases h1:x < -1
 . have HR:Ap (r=Ar):=H.out.trans (Lm (.inl h1))
   clear hr H;go_enter func59,ntmps59;go_wp2_with fail;go_ret;exact⟨ze HR.out.symm,rfl⟩
 by_cases h2:m<=x
 . have HR:Ap (r=Ar):=H.out.trans (Lm (.inr h2))
   clear hr H;go_enter func59,ntmps59;go_wp2_with fail;go_ret;exact⟨ze HR.out.symm,rfl⟩
 have HR:Ap (r=As):=H.out.trans (Ln (fun h=>h.elim h1 h2));clear hr H;go_enter func59,ntmps59;go_wp2_with fail;go_ret;exact⟨ze HR.out.symm,rfl⟩
theorem YN(A:Bb)(c:Nat)(xs:List Int)(m:Int)(bt:Nat)(hl:xs.length<=100000)(w:Ba)(hA:IAt w w.heap.size A xs)(hc2:w.cell? ⟨bt,2,Z⟩=J (O U m)) :
  An Al 101 #[I A xs.length c,.func (.func 59) #[] #[Aj (J ⟨bt,0,Z⟩)]] w (Z8 (xs.any (jd m)) w):=by
 have HA:=zH hA;have HV:=zH (fun x=>JJ x m bt w hc2);obtain⟨r,hr⟩:=Kh (xs.any (jd m));rw[hr];have HR:Ap (r=(xs.drop 0).any (jd m)):=by rw[LT];exact hr.symm
 clear hc2;go_enter func101,ntmps101;go_wp2_with fail
 go_loop [8] (fun i=>∃k:Nat,k<=xs.length/\i=O U (k:Int)/\Ap (r=(xs.drop k).any (jd m))) (fun i=>xs.length-(Ao i).toNat)
 case atStart=>exact⟨0,by omega,rfl,HR⟩
 obtain⟨k,hk,rfl,aj⟩:=hrel
 by_cases aa:k<xs.length
 . obtain⟨b,o,rfl,dS,c1⟩:=HA.out.at_ k aa
   have hs:=qV (p:=jd m) aa;obtain⟨x,hx⟩:=Kh (xs[k]);rw[hx] at c1 hs;have HS:=zH hs;have HC:=zH (HV.out x);obtain⟨bo,ck⟩:=Kh (jd m x);rw[ck] at HS HC;clear hs ck hx;go_wp2_with fail;refine HC.out.mono ?_;rintro e w' ⟨rfl,rfl⟩
   cases bo with
   | true=>
    have hR:r=Ar:=by rw[aj.out,HS.out];rfl
    subst hR;go_wp2_with fail;go_ret;exact⟨(k:Int),rfl,by simp,0,rfl⟩
   | false=>
    have cF:Ap (r=(xs.drop (k+1)).any (jd m)):=by rw[Ap,aj.out,HS.out];rfl
    go_wp2_with fail
    go_round
    case rel=>exact⟨k+1,by omega,by go_num,cF⟩
    case measure=>simp[Ao];omega
 obtain rfl:k=xs.length:=by omega
 have hR:r=As:=aj.out.trans (jb rfl);subst hR;go_wp2_with fail;go_ret;exact⟨-1,rfl,by decide,0,rfl⟩
theorem wu(A:Bb)(c:Nat)(xs:List Int)(m:Int)(bt:Nat)(hl:xs.length<=100000)(w:Ba)(hA:IAt w w.heap.size A xs)(hc2:w.cell? ⟨bt,2,Z⟩=J (O U m)) :
  An Al 58 #[I A xs.length c,.func (.func 59) #[] #[Aj (J ⟨bt,0,Z⟩)]] w fun e w'=>e=Ak (Ah (xs.any (jd m)))/\∃n,w'=w.drewN n:=by
 have hc:=YN A c xs m bt hl w hA hc2;obtain⟨r,hr⟩:=Kh (xs.any (jd m));rw[hr] at hc ⊢;have HC:=zH hc;go_enter func58,ntmps58;go_wp2_with fail;refine HC.out.mono ?_;rintro e w' ⟨i,rfl,hi,n,rfl⟩;have HI:=zH hi;clear hi HC hc;go_wp2_with fail;go_ret;exact⟨ze HI.out,_,rfl⟩
theorem JI(v outs:List Int)(f:Nat)(hf:f<32)(hl:v.length<=outs.length)(h5:v.length<=5)(A B:Bb)(ca cb:Nat)(b7 b6:Nat)(w:Ba)(hA:IAt w w.heap.size A v)(hB:IAt w w.heap.size B outs)
  (h7:w.heap[b7]?=J (Ag #[I B outs.length cb] 30 (0,0))) (h6:w.heap[b6]?=J (Ag #[O U (f:Int)] 3 (0,0))) :
  An Al 61 #[I A v.length ca,Aj (J ⟨b7,0,Z⟩),Aj (J ⟨b6,0,Z⟩)] w fun e w'=>e=Ak (Ah (xY v f outs))/\w'=w:=by
 have c0:=za h7 0 rfl;have c1:=za h6 0 rfl;have HC:=zH (Yj v outs f hf hl h5 A B ca cb w hA hB);obtain⟨r,hr⟩:=Kh (xY v f outs);rw[hr] at HC ⊢;clear hr hA hB h7 h6;go_enter func61,ntmps61;go_wp2_with fail;refine HC.out.mono ?_;rintro e w' ⟨rfl,rfl⟩;go_wp2_with fail;go_ret;exact⟨rfl,rfl⟩
theorem YM(L:List (List Int))(outs:List Int)(f:Nat)(hf:f<32)(an:∀u∈L,u.length<=outs.length/\u.length<=5)(dH:L.length<=100000)(A B:Bb)(c cb:Nat)(b7 b6:Nat)(w:Ba)(hA:LAt w w.heap.size A L)(hB:IAt w w.heap.size B outs)
  (h7:w.heap[b7]?=J (Ag #[I B outs.length cb] 30 (0,0))) (h6:w.heap[b6]?=J (Ag #[O U (f:Int)] 3 (0,0))) :
  An Al 102 #[I A L.length c,.func (.func 61) #[] #[Aj (J ⟨b7,0,Z⟩),Aj (J ⟨b6,0,Z⟩)]] w (Z8 (L.any fun u=>xY u f outs) w):=by
 have HA:=zH hA;have HV:=zH (fun (v:List Int) (hv:v∈L) (A1:Bb) (c1:Nat) (h1:IAt w w.heap.size A1 v)=>JI v outs f hf (an v hv).1 (an v hv).2 A1 B c1 cb b7 b6 w h1 hB h7 h6);obtain⟨r,hr⟩:∃r,(L.any fun u=>xY u f outs)=r:=⟨_,rfl⟩;rw[hr];have HR:Ap (r=(L.drop 0).any fun u=>xY u f outs):=by rw[LT];exact hr.symm
 clear hr h7 h6 hB hA an;go_enter func102,ntmps102;go_wp2_with fail
 go_loop [8] (fun i=>∃k:Nat,k<=L.length/\i=O U (k:Int)/\Ap (r=(L.drop k).any fun u=>xY u f outs)) (fun i=>L.length-(Ao i).toNat)
 case atStart=>exact⟨0,by omega,rfl,HR⟩
 obtain⟨k,hk,rfl,aj⟩:=hrel
 by_cases aa:k<L.length
 . obtain⟨b,o,A1,c1,rfl,dS,q1,I1⟩:=HA.out.at_ k aa
   have hs:=qV (p:=fun u=>xY u f outs) aa;have HC:=zH (HV.out _ (Ld aa) A1 c1 I1);obtain⟨x,hx⟩:=Kh (L[k]);rw[hx] at q1 hs HC;have HS:=zH hs;obtain⟨bo,ck⟩:=Kh (xY x f outs);rw[ck] at HS HC;obtain⟨xl,dG⟩:=Kh x.length;rw[dG] at q1 HC;clear hs ck hx dG I1;go_wp2_with fail;refine HC.out.mono ?_;rintro e w' ⟨rfl,rfl⟩
   cases bo with
   | true=>
    have hR:r=Ar:=by rw[aj.out,HS.out];rfl
    subst hR;go_wp2_with fail;go_ret;exact⟨(k:Int),rfl,by simp,0,rfl⟩
   | false=>
    have cF:Ap (r=(L.drop (k+1)).any fun u=>xY u f outs):=by rw[Ap,aj.out,HS.out];rfl
    go_wp2_with fail
    go_round
    case rel=>exact⟨k+1,by omega,by go_num,cF⟩
    case measure=>simp[Ao];omega
 obtain rfl:k=L.length:=by omega
 have hR:r=As:=aj.out.trans (jb rfl);subst hR;go_wp2_with fail;go_ret;exact⟨-1,rfl,by decide,0,rfl⟩
theorem wt(L:List (List Int))(outs:List Int)(f:Nat)(hf:f<32)(an:∀u∈L,u.length<=outs.length/\u.length<=5)(dH:L.length<=100000)(A B:Bb)(c cb:Nat)(b7 b6:Nat)(w:Ba)(hA:LAt w w.heap.size A L)(hB:IAt w w.heap.size B outs)
  (h7:w.heap[b7]?=J (Ag #[I B outs.length cb] 30 (0,0))) (h6:w.heap[b6]?=J (Ag #[O U (f:Int)] 3 (0,0))) :
  An Al 60 #[I A L.length c,.func (.func 61) #[] #[Aj (J ⟨b7,0,Z⟩),Aj (J ⟨b6,0,Z⟩)]] w fun e w'=>e=Ak (Ah (L.any fun u=>xY u f outs))/\∃n,w'=w.drewN n:=by
 have hc:=YM L outs f hf an dH A B c cb b7 b6 w hA hB h7 h6;obtain⟨r,hr⟩:∃r,(L.any fun u=>xY u f outs)=r:=⟨_,rfl⟩;rw[hr] at hc ⊢;have HC:=zH hc;clear hc h7 h6 hA hB an;go_enter func60,ntmps60;go_wp2_with fail;refine HC.out.mono ?_;rintro e w' ⟨i,rfl,hi,n,rfl⟩;have HI:=zH hi;clear hi HC;go_wp2_with fail;go_ret;exact⟨ze HI.out,_,rfl⟩
theorem Jo(t:Tk)(EN:Z9 t)(h:zX t=0)(N:Nat)(hN:t.n=(N:Int))(h5:N<=5)(i f:Nat)(hi:i<t.cases.length)(hf:f<2^N)(outs:List Int)(ho:outs.length=N)(hr:∀x∈outs,jd t.outs x=As)
  (an:∀u∈yV t.cases[i] (f:Int),u.length=N) (dH:(yV t.cases[i] (f:Int)).length<=100000) (A B:Bb) (kc cb:Nat) (w:Ba) (nN:CAt w w.heap.size A t.cases) (hB:IAt w w.heap.size B outs) :
  An Al 18 #[Ai #[O U t.n,O U t.ins,O U t.outs,I A t.cases.length kc],O U (i:Int),O U (f:Int),I B outs.length cb] w fun e w'=>e=Ak (.tuple #[Ah (vy t.cases[i] (f:Int) outs),O U 0])/\Am w.heap.size w w':=by
 obtain⟨wa,cm,da,cX,dl⟩:=zh w #[O U t.n,O U t.ins,O U t.outs,I A t.cases.length kc] 24;obtain⟨wb,fy,db,dB,cx⟩:=zh wa #[O U (f:Int)] 3;obtain⟨w1,ac,dc,u',mN⟩:=zh wb #[I B outs.length cb] 30;have pc:Am w.heap.size w wb:=dl.trans (cx.mono (by omega));have aG:Am w.heap.size w w1:=pc.trans (mN.mono (by omega));have da:=Lb mN (by omega) (Lb cx (by omega) da);have db:=Lb mN (by omega) db;rw[dB,cX] at dc;rw[cX] at db;have BM:f<32:=Lx hf (LZ (n:=2) (by omega) h5);have rk:=zH (uK t h N hN h5 i f hi hf A kc w1 (fun X hX=>jx t A kc EN X ((nN.keep (Lc aG hX)).more (Lc aG hX).size)));have mR:=zH (fun (X:Ba) (hX:Am w1.heap.size w1 X)=>wu B cb outs t.outs w.heap.size (by omega) X ((hB.keep (Lc aG hX)).more (Lc aG hX).size) (za (La hX da) 2 rfl));have cD:outs.any (jd t.outs)=As:=List.any_eq_false.2 fun x hx=>by rw[hr x hx];decide
 rw[cD] at mR;obtain⟨bc,oc,B0,d0,B1,d1,B2,d2,eC,lw,y0,y1,y2,si,tq,eH⟩:=nN.row i hi;subst eC;obtain⟨AV,kV,eV,hV⟩:=QF (f:=(f:Int)) (k2:=d1) (k3:=d2) tq eH;have ic:=zH (fun (X:Ba)=>Yi t.cases[i] (f:Int) B0 B1 B2 d0 d1 d2 X);rw[eV] at ic
 have eF:=zH (fun (X:Ba) (hX:Am w1.heap.size w1 X)=>wt (yV t.cases[i] (f:Int)) outs f BM (fun u hu=>by have:=an u hu;omega) dH AV B kV cb (w.heap.size+1+1) (w.heap.size+1) X
  ((hV.keep (Lc aG hX)).more (Lc aG hX).size) ((hB.keep (Lc aG hX)).more (Lc aG hX).size) (La hX dc) (La hX db))
 have Eu:((yV t.cases[i] (f:Int)).any fun u=>xY u f outs)=vy t.cases[i] (f:Int) outs:=rfl;rw[Eu] at eF;obtain⟨M,hM⟩:=Kh (vy t.cases[i] (f:Int) outs);rw[hM] at eF ⊢;obtain⟨nv,sY⟩:=Kh ((yV t.cases[i] (f:Int)).length);rw[sY] at ic eF;obtain⟨cc,lZ⟩:=Kh (t.cases[i]);rw[lZ] at y0 y1 y2 ic
 have iG:Ap (∀X,Am w1.heap.size w1 X->X.cell? ⟨w.heap.size,3,Z⟩=J (I (J ⟨bc,oc,Z⟩) t.cases.length kc)/\X.cell? ⟨w.heap.size+1,0,Z⟩=J (O U (f:Int))/\X.cell? ⟨w.heap.size+1+1,0,Z⟩=J (I B outs.length cb)/\X.cell? ⟨w.heap.size,0,Z⟩=J (O U (N:Int)) /\
   X.cell? ⟨bc,oc+i*3,Z⟩=J (I B0 cc.inp.length d0)/\X.cell? ⟨bc,oc+i*3+1,Z⟩=J (I B1 cc.out.length d1)/\X.cell? ⟨bc,oc+i*3+2,Z⟩=J (I B2 cc.calm.length d2)):=fun X hX=>by
  have o8:=Lc aG hX
  exact⟨za (La hX da) 3 rfl,za (La hX db) 0 rfl,za (La hX dc) 0 rfl,by rw[<-hN];exact za (La hX da) 0 rfl,
   (o8.cell (p:=⟨bc,_,Z⟩) lw).trans y0,(o8.cell (p:=⟨bc,_,Z⟩) lw).trans y1,(o8.cell (p:=⟨bc,_,Z⟩) lw).trans y2⟩
 rw[hN] at rk cm ⊢;have fa:=zH cm;have FI:=zH fy;have ah:=zH ac;have dk:=zH aG;have ta:(0:Int)<=(i:Int):=by omega
 have KH:(i:Int)<(t.cases.length:Int):=by omega
 have p0:w1.cell? ⟨w.heap.size,0,Z⟩=J (O U (N:Int)):=by rw[<-hN];exact za da 0 rfl
 have p1:=za da 1 rfl;have p2:=za da 2 rfl;have p3:=za da 3 rfl;have q0:=za db 0 rfl;rw[ho] at mR iG ac ah ⊢;clear cm fy ac da db dc cX dB u' dl cx mN pc aG hi hf h EN hN nN hB hr cD an dH hM sY lZ lw y0 y1 y2 si tq eH eV hV Eu;go_enter func18,ntmps18;go_upto_region 1 with fail
 rw[fa.out,FI.out,ah.out];go_wp2_with fail;refine rk.out.mono ?_;rintro e w2 ⟨rfl,af⟩;have aP:=zH af;obtain⟨c3,g6,g7,g0,c0,c1,c2⟩:=iG.out w2 aP.out;clear af p0 p1 p2 p3 q0 rk;go_wp2_with fail;refine(mR.out w2 aP.out).mono ?_;rintro e w3 ⟨rfl,n3,rfl⟩;have bk:Ap (Am w1.heap.size w1 (w2.drewN n3)):=zO aP.out n3;clear mR c3 g6 g7 g0 c0 c1 c2;go_upto_region 8 with fail
 refine zk [(0,Ar),(1,Ar),(2,Ar),(3,Ar),(4,Ar),(5,Ar),(7,Ar),(6,As),(8,As),(9,As),(10,As)] (fun X=>Am w1.heap.size w1 X) (by kernel_rfl) (by kernel_rfl) bk.out.drew ?_
 iterate 7
  apply zy rfl
  . rintro K' ae X u
    obtain⟨c3,g6,g7,g0,c0,c1,c2⟩:=iG.out X u;clear u;go_simp
    with_reducible exact ae
 refine zt rfl ?_;intro K' ae;go_simp;refine(ic.out _).mono ?_;rintro e w5 ⟨rfl,ap⟩;have aW:Ap (Am w1.heap.size w1 w5):=Lc bk.out.drew ap;refine ae _ _ aW.out ?_;clear ae K' ap;refine zt rfl ?_;intro K' ae;go_simp;refine(eF.out w5 aW.out).mono ?_;rintro e w6 ⟨rfl,n6,rfl⟩;have dj:Ap (Am w1.heap.size w1 (w5.drewN n6)):=zO aW.out n6;refine ae _ _ dj.out ?_;clear ae K'
 iterate 2
  refine zt rfl ?_;intro K' ae;go_simp;refine ae _ _ dj.out ?_;clear ae K'
 refine zE ?_;go_wp2_with fail
 go_ret2
 exact⟨rfl,Lc dk.out dj.out⟩
theorem solv_hit{s:Sy}{K:Nat}{out:List Int}{k:Nat}(hk:k<s.xs.length)(hb:xz s K out s.xs[k]=As)(cD:∀i (_:i<s.xs.length),i<k->xz s K out s.xs[i]=Ar):kp s K out=(As,(k:Int),0):=by
 unfold kp;have h1:s.xs.findIdx? (fun x=>!xz s K out x)=J k:=Rr.2 ⟨hk,by rw[hb];rfl,fun j hj=>by rw[cD j (by omega) hj];decide⟩;rw[h1]
theorem Jt{s:Sy}{K:Nat}{out:List Int}(h:∀i (_:i<s.xs.length),xz s K out s.xs[i]=Ar):kp s K out=(Ar,0,0):=
 Yk fun x hx=>by
  obtain⟨i,hi,rfl⟩:=LG hx;exact h i hi
theorem kd(s:Sy)(hs:LowS s)(hf:xN s.p)(hv:yb s=0){K N:Nat}(hF:Fine s K N)(hC:∀x∈s.xs,CaseOk s N x)(ht:zX s.p.t=0)(out:List Int)(eS:xf s out=0)(A SV AV AX AR:Bb)(kc ks kv kx cr:Nat)(w:Ba)(hS:SyAt w w.heap.size A SV AV AX s)(hR:IAt w w.heap.size AR out) :
  An Al 6 #[.agg (s.vs_ A kc SV ks AV kv AX kx),Ai #[I AR out.length cr]] w fun e w'=>e=Ak (.tuple #[Ah (kp s K out).1,O U (kp s K out).2.1,O U (kp s K out).2.2])/\Am w.heap.size w w':=by
 obtain⟨wa,cm,da,cX,dl⟩:=zh w (s.vs_ A kc SV ks AV kv AX kx) 39;obtain⟨w1,ac,db,dB,cx⟩:=zh wa #[I AR out.length cr] 32;have hB:Am w.heap.size w w1:=dl.trans (cx.mono (by omega));have da:w1.heap[w.heap.size]?=J (Ag (s.vs_ A kc SV ks AV kv AX kx) 39 (0,0)):=Lb cx (by omega) da;rw[cX] at db;have dt:=hF.lx;have fR:=uB eS;have rB:=zH (Yt s hs hf hv hF out A SV AV AX AR kc ks kv kx cr w1 (hS.up hB) ((hR.keep hB).more hB.size));rw[eS] at rB;have Uu:=zH (fun (k:Nat) (hk:k<s.xs.length) (X:Ba) (hX:Am w.heap.size w X)=>Jy s hF out fR.len k hk A SV AV AX AR kc ks kv kx cr X (hS.up hX) ((hR.keep hX).more hX.size));have HPM:=zH (fun (i f:Nat) hi dr (o:List Int) ho hr an dH (B:Bb) (cb:Nat) (X:Ba) (hX:Am w.heap.size w X) hB=>Jo s.p.t hf.1.1 ht N hF.pn hF.n5 i f hi dr o ho hr an dH A B kc cb X (hS.up hX).fc hB);have sH:=zH hC;have iR:=zH hF;have tC:=zH fR;have HS:=zH hS;have cy:=zH (fun (k:Nat) hk hb cD=>@solv_hit s K out k hk hb cD);have pk:=zH (@Jt s K out);obtain⟨F,iC⟩:=Kh (kp s K out);simp only[iC] at cy;rw[iC] at pk ⊢;unfold Sy.vs_ at cm da rB Uu ⊢;have HD:=zH da;have HE:=zH db;have fa:=zH cm;have ah:=zH ac;have HB:=zH hB;obtain⟨p0,p1,p2,p3,p4,p5,p6,p7,p8,p9⟩:=zK da;have r0:=za db 0 rfl;clear iC cm ac da db cX dB dl cx hB hR hS hF hC fR eS ht hv hs hf;go_enter func6,ntmps6;go_upto_region 1 with fail
 rw[fa.out,ah.out];go_wp2_with fail;refine rB.out.mono ?_;rintro e w2 ⟨rfl,af⟩;have aP:=zH (Lc HB.out af);have iF:=zH (La af HD.out);have ai:=zH (La af HE.out);clear af p0 p1 p2 p3 p4 p5 p6 p7 p8 p9 r0;have p9:=za iF.out 9 rfl;go_wp2_with fail;clear p9
 go_loopw [21] (fun j wr=>∃k:Nat,k<=s.xs.length/\j=O U (k:Int)/\Ap (∀i (_:i<s.xs.length),i<k->xz s K out s.xs[i]=Ar)/\Ap (Am w2.heap.size w2 wr)) (fun j _=>s.xs.length-(Ao j).toNat)
 case atStart=>exact⟨0,by omega,rfl,fun _ _ h=>absurd h (by omega),Ll _ _⟩
 obtain⟨k,hk,rfl,cD,aC⟩:=hrel;have mv:=zH (Lc aP.out aC.out)
 by_cases aU:k<s.xs.length
 . have dJ:(k:Int)<(s.xs.length:Int):=by omega
   have cA:(0:Int)<=(k:Int):=by omega
   have bu:=Ld aU;obtain⟨⟨cn,fl,aw⟩,fB,pT⟩:=sH.out _ bu;obtain⟨f,hf,dr⟩:=kM iR.out bu;obtain⟨lk,fw⟩:=iR.out.word _ bu;obtain⟨co,ov⟩:=iR.out.views _ bu;have h5:=iR.out.n5;have h6:=iR.out.k6;have rX:s.p.t.cases.getD s.xs[k].c.toNat default=s.p.t.cases[cn]:=by rw[fl,Lj,Le,Lf aw];rfl
   have aN:=ov _ (Ld (show K<s.xs[k].views.length by omega));have EJ:s.xs[k].views.getD K []=s.xs[k].views[K]'(by omega):=by rw[Le,Lf (by omega)];rfl
   have aD:(qq out s.xs[k] K).length=N:=by
    unfold qq;rw[LJ,EJ];exact aN.1
   have Ea:∀y∈qq out s.xs[k] K,jd s.p.t.outs y=As:=fun y hy=>by
    unfold qq at hy;rw[EJ] at hy;obtain⟨z,hz,rfl⟩:=LO.1 hy;obtain⟨z0,z1⟩:=aN.2 z hz;have:=Y9 (tC.out.row z.toNat (by omega));unfold jd ruE;exact Ln (by omega)
   rw[rX,hf] at fB pT;have Dm:=zH (HPM.out cn f aw dr (qq out s.xs[k] K) aD Ea fB pT)
   have rz:Ap (xz s K out s.xs[k]=vy s.p.t.cases[cn] (f:Int) (qq out s.xs[k] K)):=by
    show _=_;unfold xz;rw[rX,hf]
   rw[<-rz.out] at Dm;obtain⟨bx,ox,A1,c1,A2,c2,eX,aV,x0,x1,x2,de,eU⟩:=(HS.out.keep mv.out).fx.row k aU;subst eX;have Ut:=zH (Uu.out k aU);have ib:=zH (fun (X:Ba) (hX:Am w.heap.size wr X) (hs:w.heap.size<=X.heap.size)=>ZF s.xs[k] (by omega) A1 A2 c1 c2 X ((de.keep hX).more hs));have Dv:=zH (cy.out k aU)
   have cN:Ap (xz s K out s.xs[k]=Ar->∀i (_:i<s.xs.length),i<k+1->xz s K out s.xs[i]=Ar):=fun h i hi aa=>by
    by_cases e:i=k
    . subst e;exact h
    . exact cD.out i hi (by omega)
   rw[hf] at ib;obtain⟨fb,EP⟩:=Kh (xz s K out s.xs[k]);rw[EP] at Dm Dv cN;obtain⟨L,hL⟩:=Kh (qq out s.xs[k] K);rw[hL] at Dm Ut;obtain⟨x,hx⟩:=Kh (s.xs[k]);rw[hx] at x0 x1 x2 fl ib;rw[fl] at x0 ib;obtain⟨W3,dE,g3,ij,cW⟩:=zh wr #[O U (cn:Int),I A1 x.word.length c1,I A2 x.views.length c2] 49;have nP:=zH dE;have Gc:=zH g3;have FE:Ap (wr.heap.size<W3.heap.size):=by show _<_;omega
   have p9:wr.cell? ⟨w.heap.size,9,Z⟩=J (I (J ⟨bx,ox,Z⟩) s.xs.length kx):=za (La aC.out iF.out) 9 rfl
   have i9:Ap (∀X,Am W3.heap.size W3 X->Am w.heap.size w X/\Am w.heap.size wr X/\Am w2.heap.size w2 X/\w.heap.size<=X.heap.size):=fun X hX=>by
    have a1:Am wr.heap.size wr X:=Lc cW hX;have a2:=Lc aC.out a1;have a3:=Lc aP.out a2;exact⟨a3,a1.mono mv.out.size,a2,a3.size⟩
   have iG:Ap (∀X,Am W3.heap.size W3 X->X.heap[w.heap.size]?=J (Ag #[O U s.p.t.n,O U s.p.t.ins,O U s.p.t.outs,I A s.p.t.cases.length kc,O U s.p.a.n,I SV s.p.a.sts.length ks,O U s.p.k,O U s.n,I AV s.vs.length kv,I (J ⟨bx,ox,Z⟩) s.xs.length kx] 39 (0,0))/\X.cell? ⟨w.heap.size+1,0,Z⟩=J (I AR out.length cr)/\X.cell? ⟨wr.heap.size,0,Z⟩=J (O U (cn:Int))/\X.cell? ⟨wr.heap.size,1,Z⟩=J (I A1 x.word.length c1)/\X.cell? ⟨wr.heap.size,2,Z⟩=J (I A2 x.views.length c2)):=fun X hX=>by
    obtain⟨-,-,ti,-⟩:=i9.out X hX;have Bo:=Lb hX FE.out Gc.out;exact⟨La ti iF.out,za (La ti ai.out) 0 rfl,za Bo 0 rfl,za Bo 1 rfl,za Bo 2 rfl⟩
   have Ci:=zH cD.out;clear rz cD aC dE g3 ij cW aV de eU rX EJ aN bu fB pT lk fw co ov dr hf EP hL fl aw hx h5 h6 aD Ea;go_upto_region 7 with fail
   rw[nP.out];clear x0 x1 x2 p9;refine zk [(0,Ar),(1,Ar),(2,Ar),(3,Ar),(4,Ar),(5,Ar),(7,Ar),(8,Ar),(9,Ar),(6,As),(10,As),(11,As),(12,Ar),(13,Ar),(14,Ar),(15,Ar),(16,Ar)] (fun X=>Am W3.heap.size W3 X) (by kernel_rfl) (by kernel_rfl) (Ll _ _).drew ?_
   iterate 9
    apply zy rfl
    . rintro K' ae X u
      obtain⟨dd,r0,e0,e1,e2⟩:=iG.out X u;obtain⟨p0,p1,p2,p3,p4,p5,p6,p7,p8,p9⟩:=zK dd;clear u dd;go_simp
      with_reducible exact ae
   refine zt rfl ?_;intro K' ae;go_simp;refine(ib.out W3.drew (i9.out _ (Ll _ W3).drew).2.1 (i9.out _ (Ll _ W3).drew).2.2.2).mono ?_;rintro e w5 ⟨rfl,ap⟩;have aW:Ap (Am W3.heap.size W3 w5):=(Ll _ W3).drew.trans ap;refine ae _ _ aW.out ?_;clear ae K' ap;refine zt rfl ?_;intro K' ae;go_simp;refine(Ut.out w5 (i9.out _ aW.out).1).mono ?_;rintro e w6 ⟨v,rfl,hO,bz⟩;obtain⟨AL,cl,rfl,-,-,hI⟩:=hO.form;have pw:=zH hI;have dj:Ap (Am W3.heap.size W3 w6):=Lc aW.out bz;clear hO hI bz;refine ae _ _ dj.out ?_;clear ae K';refine zt rfl ?_;intro K' ae;go_simp;refine(Dm.out AL cl w6 (i9.out _ dj.out).1 pw.out).mono ?_;rintro e w7 ⟨rfl,cM⟩;have ec:Ap (Am W3.heap.size W3 w7):=Lc dj.out cM;refine ae _ _ ec.out ?_;clear ae K' cM
   iterate 5
    apply zy rfl
    . rintro K' ae X u
      clear u;go_simp
      with_reducible exact ae
   refine zE ?_;have ce:=zH (i9.out _ ec.out)
   cases fb with
   | true=>
    have cI:=zH (cN.out rfl);go_wp2_with fail
    go_roundw
    case rel=>exact⟨k+1,by omega,by go_num,cI,ce.out.2.2.1⟩
    case measure=>simp[Ao];omega
   | false=>
    have fu:=zH (Dv.out rfl Ci.out);go_wp2_with fail
    go_ret3
    exact⟨by rw[fu.out];rfl,ce.out.1⟩
 obtain rfl:k=s.xs.length:=by omega
 have dJ:¬(s.xs.length:Int)<(s.xs.length:Int):=by omega
 have sG:=zH (pk.out fun i hi=>cD.out i hi hi);go_wp2_with fail
 go_ret3
 exact⟨by rw[sG.out];rfl,mv.out⟩
theorem Yz(s:Sy){K N:Nat}(hF:Fine s K N)(out:List Int)(A SV AV AX AR:Bb)(kc ks kv kx cr:Nat)(w:Ba)(hS:SyAt w w.heap.size A SV AV AX s)(hR:IAt w w.heap.size AR out) :
  An Al 51 #[.agg (s.vs_ A kc SV ks AV kv AX kx),Ai #[I AR out.length cr]] w fun e w'=>e=Ak (O U (xf s out))/\Am w.heap.size w w':=by
 obtain⟨wa,cm,da,cX,dl⟩:=zh w (s.vs_ A kc SV ks AV kv AX kx) 39;obtain⟨w1,ac,db,dB,cx⟩:=zh wa #[I AR out.length cr] 32;have hB:Am w.heap.size w w1:=dl.trans (cx.mono (by omega));have da:w1.heap[w.heap.size]?=J (Ag (s.vs_ A kc SV ks AV kv AX kx) 39 (0,0)):=Lb cx (by omega) da;rw[cX] at db;have GC:=hF.lv;have dv:=zH (fun (j:Nat) (hj:j<s.vs.length)=>bef_lt hF hj);have Cy:=zH (fun (j:Nat) (hj:j<s.vs.length) (q:Nat) (h5:q<5) (hq:s.vs[j].p=(q:Int)) (X:Ba) (hX:Am w.heap.size w X)=>YD s.n AV kv s.vs j hj q h5 hq X ((hS.fv.keep hX).more hX.size));have ib:=zH (@wR s out);have sF:=zH (@vE s out);obtain⟨F,iC⟩:=Kh (xf s out);rw[iC] at ib sF ⊢;unfold Sy.vs_ at cm da ⊢;have HD:=zH da;have HE:=zH db;have fa:=zH cm;have ah:=zH ac;have HB:=zH hB;have iE:=zH (hR.keep hB);have p8:=za da 8 (u:=I AV s.vs.length kv) rfl;have r0:=za db 0 (u:=I AR out.length cr) rfl;clear iC cm ac da db cX dB dl cx hB hR hS hF
 by_cases hl:out.length=s.vs.length
 case neg=>
  have e0:((out.length:Int) != (s.vs.length:Int))=Ar:=by simp;omega
  have HR:=zH (ib.out hl);clear hl;go_enter func51,ntmps51;go_upto_region 1 with fail
  rw[fa.out,ah.out];go_wp2_with fail;go_ret;exact⟨zd HR.out.symm,HB.out⟩
 have e0:((out.length:Int) != (s.vs.length:Int))=As:=by simp;omega
 have HR:=zH (sF.out hl);have eD:=zH hl;clear hl;go_enter func51,ntmps51;go_upto_region 1 with fail
 rw[fa.out,ah.out];go_wp2_with fail;clear e0 p8 r0
 go_loopw [5] (fun j wr=>∃k:Nat,k<=out.length/\j=O U (k:Int)/\Ap (qs (qk s.vs s.p.t.outs out) k=0)/\Ap (Am w1.heap.size w1 wr)) (fun j _=>out.length-(Ao j).toNat)
 case atStart=>exact⟨0,by omega,rfl,rfl,Ll _ _⟩
 obtain⟨k,hk,rfl,hz,aC⟩:=hrel
 by_cases aU:k<out.length
 . have dJ:(k:Int)<(out.length:Int):=by omega
   have cA:(0:Int)<=(k:Int):=by omega
   have AJ:k<s.vs.length:=by rw[<-eD.out];exact aU
   obtain⟨b5,o5,rfl,ap,lD⟩:=iE.out.at_ k aU;have cB:b5<w1.heap.size:=Lx ap HB.out.size;have rg:=zH (fun (X:Ba) (hX:Am w1.heap.size w1 X)=>(hX.cell (p:=⟨b5,o5+k,Z⟩) cB).trans lD);have z0:=rg.out wr aC.out;clear lD
   have du:Ap (∀X,Am w1.heap.size w1 X->X.cell? ⟨w.heap.size,2,Z⟩=J (O U s.p.t.outs)/\X.cell? ⟨w.heap.size,7,Z⟩=J (O U s.n)/\X.cell? ⟨w.heap.size,8,Z⟩=J (I AV s.vs.length kv)/\X.cell? ⟨w.heap.size+1,0,Z⟩=J (I (J ⟨b5,o5,Z⟩) out.length cr)):=fun X hX=>
    ⟨za (La hX HD.out) 2 rfl,za (La hX HD.out) 7 rfl,za (La hX HD.out) 8 rfl,za (La hX HE.out) 0 rfl⟩
   have ez:out.getD k 0=out[k]:=by rw[Le,Lf aU];rfl
   have fu:Ap (qk s.vs s.p.t.outs out k=if out[k] < -1\/s.p.t.outs<=out[k] then 2 else if 0<=xx s.vs k/\0<=ruE out (xx s.vs k)/\ruE out (xx s.vs k)≠out[k] then 21 else 0):=by show qk _ _ _ _=_;unfold qk;rw[ez]
   have cy:Ap (qk s.vs s.p.t.outs out k≠0->F=qk s.vs s.p.t.outs out k):=fun h=>HR.out.trans (Y7 hz.out h AJ)
   have cY:Ap (qk s.vs s.p.t.outs out k=0->qs (qk s.vs s.p.t.outs out) (k+1)=0):=fun h=>(vD hz.out).trans h
   obtain⟨⟨q,im,Eg⟩,Bg⟩:=dv.out k AJ;have rC:=zH (Cy.out k AJ q im Eg);obtain⟨bb,aM⟩:=Kh (xx s.vs k);obtain⟨z,tP⟩:=Kh (out[k]);obtain⟨fr,EO⟩:=Kh (qk s.vs s.p.t.outs out k);rw[EO] at fu cy cY;rw[aM,tP] at fu;rw[aM] at rC Bg;rw[tP] at z0 rg;have HZ:=zH (fun X hX=>rg.out X hX);clear rg;obtain⟨p2,p7,p8,r0⟩:=du.out wr aC.out;clear ap cB ez aM tP EO Eg im
   by_cases h1:z < -1\/s.p.t.outs<=z
   · have cG : Ap (F = 2) := by
      have e:fr=2:=fu.out.trans (Lo h1);exact(cy.out (by rw[e];decide)).trans e
     have ce:=zH (Lc HB.out aC.out);clear fu cy cY Bg
     by_cases h2:z < -1
     . clear h1
       go_upto_region 6 with fail
       go_quiet (fail);go_wp2_with fail;go_ret;exact⟨zd cG.out.symm,zO ce.out _⟩
     have h3:s.p.t.outs<=z:=by omega
     clear h1;go_upto_region 6 with fail
     go_quiet (fail);go_wp2_with fail;go_ret;exact⟨zd cG.out.symm,zO ce.out _⟩
   have h2:¬z < -1:=fun h=>h1 (.inl h)
   have h3:¬s.p.t.outs<=z:=fun h=>h1 (.inr h)
   have fK:=zH (fu.out.trans (Li h1));clear h1 fu;go_upto_region 6 with fail
   go_quiet (fail);go_wp2_with fail;refine(rC.out _ (zO (Lc HB.out aC.out) _)).mono ?_;rintro e w5 ⟨rfl,ap⟩;have aW:=zH ((zO aC.out _).trans (ap.mono (zO aC.out _).size));clear ap p2 p7 p8 r0 h2 h3 z0;obtain⟨-,-,-,r0⟩:=du.out w5 aW.out;have z0:=HZ.out w5 aW.out;rcases Bg with KY | ⟨m,rfl,hm⟩
   . have oY:¬(0:Int)<=bb:=by omega
     have ft:=zH (cY.out (fK.out.trans (Li (fun h=>oY h.1))));have Wj:((0:Int)<=bb)=False:=eq_false oY;clear fK cY cy KY oY;go_upto_region 9 with fail
     refine zk [(0,Ar),(1,Ar),(2,Ar),(3,Ar),(4,Ar),(5,Ar),(6,Ar),(7,Ar),(8,Ar),(9,Ar),(10,Ar),(11,Ar),(12,Ar),(13,Ar),(14,Ar),(15,Ar),(16,Ar),(17,Ar),(18,Ar),(19,Ar),(20,Ar),(21,Ar),(22,Ar)] (fun X=>Am w1.heap.size w1 X) (by kernel_rfl) (by kernel_rfl) aW.out.drew ?_
     iterate 23
      apply zy rfl
      . rintro K' ae X u7
        obtain⟨-,-,-,r0⟩:=du.out X u7;clear u7;go_simp
        with_reducible exact ae
     refine zE ?_;go_wp2_with fail
     go_roundw
     case rel=>exact⟨k+1,by omega,by go_num,ft,aW.out.drew⟩
     simp[Ao];omega
   have iY:(0:Int)<=(m:Int):=by omega
   have iM:m<out.length:=by rw[eD.out];exact hm
   have GA:(m:Int)<(out.length:Int):=by omega
   obtain⟨b6,o6,e6,bz,DC⟩:=iE.out.at_ m iM
   cases e6
   have MW:=zH (fun (X:Ba) (hX:Am w1.heap.size w1 X)=>(hX.cell (p:=⟨b5,o5+m,Z⟩) (Lx bz HB.out.size)).trans DC);have y0:=MW.out w5 aW.out;have er:ruE out (m:Int)=out[m]:=by unfold ruE;rw[Lj,Le,Lf iM];rfl
   rw[er] at fK;obtain⟨u,hu⟩:=Kh (out[m]);rw[hu] at y0 fK MW;clear DC er hu bz hm iM
   by_cases h4:0<=u
   . by_cases h5:u=z
     . have ft:=zH (cY.out (fK.out.trans (Li (fun h=>h.2.2 h5))))
       subst h5;clear fK cY cy;go_upto_region 9 with fail
       go_quiet (fail);go_wp2_with fail
       go_roundw
       case rel=>exact⟨k+1,by omega,by go_num,ft,zO aW.out _⟩
       simp[Ao];omega
     have e:fr=21:=fK.out.trans (Lo ⟨iY,h4,h5⟩);have Cu:Ap (F=21):=(cy.out (by rw[e];decide)).trans e;have e5:(z != u)=Ar:=by simpa using fun h=>h5 (Eq.symm h)
     have ce:=zH (Lc HB.out aW.out);clear fK cY cy e h5;go_upto_region 9 with fail
     go_quiet (fail);go_wp2_with fail;go_ret;exact⟨zd Cu.out.symm,zO ce.out _⟩
   have ft:=zH (cY.out (fK.out.trans (Li (fun h=>h4 h.2.1))));have h43:((0:Int)<=u)=False:=eq_false h4;clear fK cY cy h4;go_upto_region 9 with fail
   refine zk [(0,Ar),(1,Ar),(2,Ar),(3,Ar),(4,Ar),(5,Ar),(6,Ar),(7,Ar),(8,Ar),(9,Ar),(10,Ar),(11,Ar),(12,Ar),(13,Ar),(14,Ar),(15,Ar),(16,Ar),(17,Ar),(18,Ar),(19,Ar),(20,Ar),(21,Ar),(22,Ar)] (fun X=>Am w1.heap.size w1 X) (by kernel_rfl) (by kernel_rfl) aW.out.drew ?_
   iterate 23
    apply zy rfl
    . rintro K' ae X u7
      obtain⟨-,-,-,r0⟩:=du.out X u7;have y0:=MW.out X u7;have z0:=HZ.out X u7;clear u7;go_simp
      with_reducible exact ae
   refine zE ?_;go_wp2_with fail
   go_roundw
   case rel=>exact⟨k+1,by omega,by go_num,ft,aW.out.drew⟩
   simp[Ao];omega
 obtain rfl:k=out.length:=by omega
 have dJ:¬(out.length:Int)<(out.length:Int):=by omega
 have sG:Ap (F=0):=by rw[eD.out] at hz;exact HR.out.trans hz.out
 have ce:=zH (Lc HB.out aC.out);have r0:=za (La aC.out HE.out) 0 rfl;go_wp2_with fail;go_ret;exact⟨zd sG.out.symm,ce.out⟩
theorem ZJ(s:Sy)(hs:LowS s)(hf:xN s.p)(hv:yb s=0){K N:Nat}(hF:Fine s K N)(out:List Int)(A SV AV AX AR:Bb)(kc ks kv kx cr:Nat)(w:Ba)(hS:SyAt w w.heap.size A SV AV AX s)(hR:IAt w w.heap.size AR out) :
  An Al 15 #[.agg (s.vs_ A kc SV ks AV kv AX kx),Ai #[I AR out.length cr]] w fun e w'=>e=Ak (O U (xf s out))/\Am w.heap.size w w':=by
 obtain⟨wa,cm,da,cX,dl⟩:=zh w (s.vs_ A kc SV ks AV kv AX kx) 39;obtain⟨w1,ac,db,dB,cx⟩:=zh wa #[I AR out.length cr] 32;have hB:Am w.heap.size w w1:=dl.trans (cx.mono (by omega));have da:w1.heap[w.heap.size]?=J (Ag (s.vs_ A kc SV ks AV kv AX kx) 39 (0,0)):=Lb cx (by omega) da;rw[cX] at db;have HV:=zH (rver_any s hs hf A SV AV AX kc ks kv kx w1 (hS.up hB));have Cq:=zH (fun (X:Ba) (hX:Am w.heap.size w X)=>Yz s hF out A SV AV AX AR kc ks kv kx cr X (hS.up hX) ((hR.keep hX).more hX.size));rw[hv] at HV;obtain⟨F,iC⟩:=Kh (xf s out);rw[iC] at Cq ⊢;unfold Sy.vs_ at cm da HV Cq ⊢;have HD:=zH da;have HE:=zH db;have fa:=zH cm;have ah:=zH ac;have HB:=zH hB;obtain⟨p0,p1,p2,p3,p4,p5,p6,p7,p8,p9⟩:=zK da;clear iC cm ac da db cX dB dl cx hB hR hS hF hs hf hv;go_enter func15,ntmps15;go_upto_region 1 with fail
 rw[fa.out,ah.out];go_wp2_with fail;refine HV.out.mono ?_;rintro e w2 ⟨rfl,af⟩;have aP:=zH (Lc HB.out af);have d2:=La af HD.out;obtain⟨p0,p1,p2,p3,p4,p5,p6,p7,p8,p9⟩:=zK d2;have r0:=za (La af HE.out) 0 rfl;clear af d2;go_wp2_with fail;refine(Cq.out w2 aP.out).mono ?_;rintro e w3 ⟨rfl,am⟩;have bk:=zH (Lc aP.out am);clear am;go_wp2_with fail;go_ret;exact⟨rfl,bk.out⟩
end
section
open Go.RowKit Go.Shelf
attribute [local go_sem] Oper.semAt_some
section
variable {P:Program}
theorem ye{fn:Func}{p u:Tmp}{ty:TypeId}(h:fn.results=#[.cell p ty,.tmp u])(tmps:Array Aq)(w:Ba)(g:Nat)(t:TypeId)(cs:Array Aq)(fr:Nat×Nat)(d:TypeDesc)
  (hp:tmps.getD p undef=Aj (J ⟨g,0,Z⟩)) (hg:w.heap[g]?=J (Ag cs t fr))
  (hu:P.underlying ty=J d) (hd:(match d with | .struct _ | .array _ _=>Ar | _=>As)=Ar) (hi:(P.info? ty).map (·.size)=J cs.size) (x:Aq) (hx:tmps.getD u undef=x) :
  (results fn tmps).run P w=.ok (.tuple #[.agg cs,x]) w:=by
 rw[results_cell_tmp h,hp,hx];simp[asAddr,Result.andThen,run_loadVar_row w g t ty cs fr d hg hu hd hi]
end
theorem uR{w:Ba}{g:Nat}{a0 a1 a2 a3 a4 a5 a6 a7 a8 a9:Aq}{t:TypeId}(h:w.heap[g]?=J (Ag #[a0,a1,a2,a3,a4,a5,a6,a7,a8,a9] t (0,0)))(v0 v1 v2 v3 v4 v5 v6 v7 v8 v9:Aq) :
  ∃W,((((((((((w.setCell ⟨g,0,Z⟩ v0).setCell ⟨g,1,Z⟩ v1).setCell ⟨g,2,Z⟩ v2).setCell ⟨g,3,Z⟩ v3).setCell ⟨g,4,Z⟩ v4).setCell ⟨g,5,Z⟩ v5).setCell ⟨g,6,Z⟩ v6).setCell ⟨g,7,Z⟩ v7).setCell ⟨g,8,Z⟩ v8).setCell ⟨g,9,Z⟩ v9)=W/\W.heap[g]?=J (Ag #[v0,v1,v2,v3,v4,v5,v6,v7,v8,v9] t (0,0))/\(∀k,k≠g->W.heap[k]?=w.heap[k]?)/\(∀B,B<=g->Am B w W)/\W.heap.size=w.heap.size:=by
 refine⟨_,rfl,?_,fun k hk=>?_,fun B hB=>?_,by simp[World.setCell]⟩
 . skip
   have k0:(w.setCell ⟨g,0,Z⟩ v0).heap[g]?=J (Ag #[v0,a1,a2,a3,a4,a5,a6,a7,a8,a9] t (0,0)):=Lk _ g 0 _ _ v0 h;have k1:((w.setCell ⟨g,0,Z⟩ v0).setCell ⟨g,1,Z⟩ v1).heap[g]?=J (Ag #[v0,v1,a2,a3,a4,a5,a6,a7,a8,a9] t (0,0)):=Lk _ g 1 _ _ v1 k0;have k2:(((w.setCell ⟨g,0,Z⟩ v0).setCell ⟨g,1,Z⟩ v1).setCell ⟨g,2,Z⟩ v2).heap[g]?=J (Ag #[v0,v1,v2,a3,a4,a5,a6,a7,a8,a9] t (0,0)):=Lk _ g 2 _ _ v2 k1;have k3:((((w.setCell ⟨g,0,Z⟩ v0).setCell ⟨g,1,Z⟩ v1).setCell ⟨g,2,Z⟩ v2).setCell ⟨g,3,Z⟩ v3).heap[g]?=J (Ag #[v0,v1,v2,v3,a4,a5,a6,a7,a8,a9] t (0,0)):=Lk _ g 3 _ _ v3 k2;have k4:(((((w.setCell ⟨g,0,Z⟩ v0).setCell ⟨g,1,Z⟩ v1).setCell ⟨g,2,Z⟩ v2).setCell ⟨g,3,Z⟩ v3).setCell ⟨g,4,Z⟩ v4).heap[g]?=J (Ag #[v0,v1,v2,v3,v4,a5,a6,a7,a8,a9] t (0,0)):=Lk _ g 4 _ _ v4 k3;have k5:((((((w.setCell ⟨g,0,Z⟩ v0).setCell ⟨g,1,Z⟩ v1).setCell ⟨g,2,Z⟩ v2).setCell ⟨g,3,Z⟩ v3).setCell ⟨g,4,Z⟩ v4).setCell ⟨g,5,Z⟩ v5).heap[g]?=J (Ag #[v0,v1,v2,v3,v4,v5,a6,a7,a8,a9] t (0,0)):=Lk _ g 5 _ _ v5 k4;have k6:(((((((w.setCell ⟨g,0,Z⟩ v0).setCell ⟨g,1,Z⟩ v1).setCell ⟨g,2,Z⟩ v2).setCell ⟨g,3,Z⟩ v3).setCell ⟨g,4,Z⟩ v4).setCell ⟨g,5,Z⟩ v5).setCell ⟨g,6,Z⟩ v6).heap[g]?=J (Ag #[v0,v1,v2,v3,v4,v5,v6,a7,a8,a9] t (0,0)):=Lk _ g 6 _ _ v6 k5
   have k7:((((((((w.setCell ⟨g,0,Z⟩ v0).setCell ⟨g,1,Z⟩ v1).setCell ⟨g,2,Z⟩ v2).setCell ⟨g,3,Z⟩ v3).setCell ⟨g,4,Z⟩ v4).setCell ⟨g,5,Z⟩ v5).setCell ⟨g,6,Z⟩ v6).setCell ⟨g,7,Z⟩ v7).heap[g]?=J (Ag #[v0,v1,v2,v3,v4,v5,v6,v7,a8,a9] t (0,0)):=Lk _ g 7 _ _ v7 k6;have k8:(((((((((w.setCell ⟨g,0,Z⟩ v0).setCell ⟨g,1,Z⟩ v1).setCell ⟨g,2,Z⟩ v2).setCell ⟨g,3,Z⟩ v3).setCell ⟨g,4,Z⟩ v4).setCell ⟨g,5,Z⟩ v5).setCell ⟨g,6,Z⟩ v6).setCell ⟨g,7,Z⟩ v7).setCell ⟨g,8,Z⟩ v8).heap[g]?=J (Ag #[v0,v1,v2,v3,v4,v5,v6,v7,v8,a9] t (0,0)):=Lk _ g 8 _ _ v8 k7;have k9:((((((((((w.setCell ⟨g,0,Z⟩ v0).setCell ⟨g,1,Z⟩ v1).setCell ⟨g,2,Z⟩ v2).setCell ⟨g,3,Z⟩ v3).setCell ⟨g,4,Z⟩ v4).setCell ⟨g,5,Z⟩ v5).setCell ⟨g,6,Z⟩ v6).setCell ⟨g,7,Z⟩ v7).setCell ⟨g,8,Z⟩ v8).setCell ⟨g,9,Z⟩ v9).heap[g]?=J (Ag #[v0,v1,v2,v3,v4,v5,v6,v7,v8,v9] t (0,0)):=Lk _ g 9 _ _ v9 k8;exact k9
 . exact(Lg _ ⟨g,9,Z⟩ v9 k hk).trans ((Lg _ ⟨g,8,Z⟩ v8 k hk).trans ((Lg _ ⟨g,7,Z⟩ v7 k hk).trans ((Lg _ ⟨g,6,Z⟩ v6 k hk).trans ((Lg _ ⟨g,5,Z⟩ v5 k hk).trans ((Lg _ ⟨g,4,Z⟩ v4 k hk).trans ((Lg _ ⟨g,3,Z⟩ v3 k hk).trans ((Lg _ ⟨g,2,Z⟩ v2 k hk).trans ((Lg _ ⟨g,1,Z⟩ v1 k hk).trans (Lg _ ⟨g,0,Z⟩ v0 k hk)))))))))
 have b0:=(Ll B w).setCell (p:=⟨g,0,Z⟩) hB v0;have b1:=b0.setCell (p:=⟨g,1,Z⟩) hB v1;have b2:=b1.setCell (p:=⟨g,2,Z⟩) hB v2;have b3:=b2.setCell (p:=⟨g,3,Z⟩) hB v3;have b4:=b3.setCell (p:=⟨g,4,Z⟩) hB v4;have b5:=b4.setCell (p:=⟨g,5,Z⟩) hB v5;have b6:=b5.setCell (p:=⟨g,6,Z⟩) hB v6;have b7:=b6.setCell (p:=⟨g,7,Z⟩) hB v7;have b8:=b7.setCell (p:=⟨g,8,Z⟩) hB v8;have b9:=b8.setCell (p:=⟨g,9,Z⟩) hB v9;exact b9
theorem Z5{p:Pb}{K N:Nat}(dI:zX p.t=0)(hf:Z9 p.t)(hF:Fine (zz p) K N)(hS:Sees (zz p) K N):∀x∈(zz p).xs,CaseOk (zz p) N x:=fun x hx=>by
 obtain⟨c,hc,aa,_⟩:=hS.cs x hx;refine⟨⟨c,hc,aa⟩,Q3 dI hF hS x hx,?_⟩;rw[hc,Lj,Le,Lf aa];have h1:=hf.2 _ (Ld aa);show(yV ((zz p).p.t.cases[c]) (yf x)).length<=100000;unfold yV;have h2:=h1.2.1.1;have h3:=h1.2.2.1
 split
 . exact LE h3 (by decide)
 . exact LE h2 (by decide)
def RetSol(p:Pb)(out:List Int)(w:Ba)(e:Ending)(w':Ba):Prop:=∃(T:Sy) (AC SV AV AX:Bb) (kc ks kv kx:Nat) (b:Bool),e=Ak (.tuple #[.agg (T.vs_ AC kc SV ks AV kv AX kx),Ah b])/\Am w.heap.size w w' /\
 (b=Ar->xW p=Ar/\T=zz p/\SyAt w' w'.heap.size AC SV AV AX T/\xf T out=0/\∃K N,Fine T K N/\Sees T K N/\xX T N K out<0)
theorem RetSol.zero{p:Pb}{out:List Int}{w w':Ba}(h:Am w.heap.size w w'):RetSol p out w (Ak (.tuple #[Ai #[O U 0,O U 0,O U 0,I Z 0 0,O U 0,I Z 0 0,O U 0,O U 0,I Z 0 0,I Z 0 0],Ah As])) w':=⟨xC,Z,Z,Z,Z,0,0,0,0,As,rfl,h,fun h=>(by cases h)⟩
theorem uI(p:Pb)(hl:gu p)(out:List Int)(ir:out.length<=17592186044416)(A SV AR:Bb)(kc ks cr:Nat)(w:Ba)(hA:CAt w w.heap.size A p.t.cases)(hS:SAt w w.heap.size SV p.a.sts)(hR:IAt w w.heap.size AR out) :
  An Al 5 #[.agg (p.vs A kc SV ks),Ai #[I AR out.length cr]] w (RetSol p out w):=by
 obtain⟨wa,cm,da,cX,dl⟩:=zh w (p.vs A kc SV ks) 29;obtain⟨wb,fy,db,dB,cx⟩:=zh wa #[I AR out.length cr] 32;obtain⟨w1,ac,dc,u',mN⟩:=zh wb #[O U 0,O U 0,O U 0,I Z 0 0,O U 0,I Z 0 0,O U 0,O U 0,I Z 0 0,I Z 0 0] 39;have pc:Am w.heap.size w wb:=dl.trans (cx.mono (by omega));have hB:Am w.heap.size w w1:=pc.trans (mN.mono (by omega));have da:w1.heap[w.heap.size]?=J (Ag (p.vs A kc SV ks) 29 (0,0)):=Lb mN (by omega) (Lb cx (by omega) da);have db:=Lb mN (by omega) db;rw[cX] at db;rw[show wb.heap.size=w.heap.size+2 by omega] at dc;have bN:w1.heap.size=w.heap.size+3:=by omega
 have Gi:Ap (∀X,Am w1.heap.size w1 X->CAt X w.heap.size A p.t.cases/\SAt X w.heap.size SV p.a.sts):=fun X hX=>⟨hA.keep (Lc hB hX),hS.keep (Lc hB hX)⟩
 have Hq:=zH (JB p hl A kc SV ks w1 ((hA.keep hB).more hB.size) ((hS.keep hB).more hB.size));have Hr:Ap (∀X,Am w1.heap.size w1 X->IAt X X.heap.size AR out):=fun X hX=>(((hR.keep hB).more hB.size).keep hX).more hX.size
 have Dx:=zH (fun (h:xW p=Ar) (X:Ba) (hX:Am w1.heap.size w1 X)=>gi p (few_x (by unfold xW at h;rw[Nh] at h;exact h.1)).1 A kc SV ks X w.heap.size (by have:=hX.size;omega) (Gi.out X hX).1 (Gi.out X hX).2);have bj:Ap (∀X,Am w1.heap.size w1 X->X.heap[w.heap.size]?=J (Ag #[O U p.t.n,O U p.t.ins,O U p.t.outs,I A p.t.cases.length kc,O U p.a.n,I SV p.a.sts.length ks,O U p.k] 29 (0,0))/\X.heap[w.heap.size+1]?=J (Ag #[I AR out.length cr] 32 (0,0))/\X.heap[w.heap.size+2]?=J (Ag #[O U 0,O U 0,O U 0,I Z 0 0,O U 0,I Z 0 0,O U 0,O U 0,I Z 0 0,I Z 0 0] 39 (0,0))):=fun X hX=>⟨Lb hX (by omega) da,Lb hX (by omega) db,Lb hX (by omega) dc⟩
 have sA:=zH hl;unfold Pb.vs at cm Hq Dx ⊢;have fa:=zH cm;have FI:=zH fy;have ah:=zH ac;have HB:=zH hB;have HZ:=zH bN;obtain⟨rb,IW⟩:=Kh (xW p);have mo:=zH IW;rw[IW] at Hq Dx;obtain⟨D0,D1,D2⟩:=bj.out w1 (Ll _ _);obtain⟨p0,p1,p2,p3,p4,p5,p6,_⟩:=Kf (D0);clear cm fy ac da db dc cX dB u' dl cx mN pc hB hA hS hR hl IW D0 D1 D2;go_enter func5,ntmps5;go_upto_region 1 with fail
 rw[fa.out,FI.out,ah.out];go_wp2_with fail;refine Hq.out.mono ?_;rintro e w2 ⟨rfl,af⟩;have G2:=zH af;obtain⟨D0,D1,D2⟩:=bj.out _ G2.out;have s0:=za D1 0 rfl;clear af Hq p0 p1 p2 p3 p4 p5 p6 D0 D1 D2
 cases rb with
 | false=>
  have E1:=zH (bj.out _ G2.out).2.2;obtain⟨r0,r1,r2,r3,r4,r5,r6,r7,r8,r9⟩:=zK (E1.out);have g0:=zb (E1.out) 0;have g1:=zb (E1.out) 1;have g2:=zb (E1.out) 2;have g3:=zb (E1.out) 3;have g4:=zb (E1.out) 4;have g5:=zb (E1.out) 5;have g6:=zb (E1.out) 6;have g7:=zb (E1.out) 7;have g8:=zb (E1.out) 8;have g9:=zb (E1.out) 9;have ce:=zH (Lc HB.out G2.out);clear Dx mo bj Gi Hr sA;go_wp2_with fail;obtain⟨WF,dy,f1,f2,f3,f4⟩:=uR E1.out (O U 0) (O U 0) (O U 0) (I Z 0 0) (O U 0) (I Z 0 0) (O U 0) (O U 0) (I Z 0 0) (I Z 0 0);rw[dy]
  (try simp only[Exit.inBlock,Exit.then])
  refine L6 (ye (P:=Al) rfl _ _ (w.heap.size+2) 39 _ (0,0) _ rfl f1 Pj rfl (by kernel_rfl) _ rfl) rfl ?_;exact RetSol.zero (ce.out.trans (f3 _ (by omega)))
 | true=>
 by_cases an:2000<out.length
 . have TF:(2000:Int)<(out.length:Int):=by omega
   have E1:=zH (bj.out _ G2.out).2.2;obtain⟨r0,r1,r2,r3,r4,r5,r6,r7,r8,r9⟩:=zK (E1.out);have g0:=zb (E1.out) 0;have g1:=zb (E1.out) 1;have g2:=zb (E1.out) 2;have g3:=zb (E1.out) 3;have g4:=zb (E1.out) 4;have g5:=zb (E1.out) 5;have g6:=zb (E1.out) 6;have g7:=zb (E1.out) 7;have g8:=zb (E1.out) 8;have g9:=zb (E1.out) 9;have ce:=zH (Lc HB.out G2.out);clear Dx mo bj Gi Hr sA;go_wp2_with fail;obtain⟨WF,dy,f1,f2,f3,f4⟩:=uR E1.out (O U 0) (O U 0) (O U 0) (I Z 0 0) (O U 0) (I Z 0 0) (O U 0) (O U 0) (I Z 0 0) (I Z 0 0);rw[dy]
   (try simp only[Exit.inBlock,Exit.then])
   refine L6 (ye (P:=Al) rfl _ _ (w.heap.size+2) 39 _ (0,0) _ rfl f1 Pj rfl (by kernel_rfl) _ rfl) rfl ?_;exact RetSol.zero (ce.out.trans (f3 _ (by omega)))
 have TF:¬(2000:Int)<(out.length:Int):=by omega
 have HC:=zH (Dx.out (by simp) w2 G2.out);obtain⟨pV,iI,hf,h0,dt,CQ,-⟩:=qx mo.out;have cz:LowS (zz p):=by have:=qU sA.out hf;rw[pV] at this;exact this
 obtain⟨K,N,hF,mc,-,-,-,-,-,fU,-,-,-,-⟩:=gR mo.out;have lY:=Z5 (zM h0).1 hf.1.1 hF mc;rw[pV] at HC;obtain⟨T,hT⟩:=Kh (zz p);rw[hT] at HC iI cz hF mc fU lY;have ri:Ap (T=zz p):=hT.symm;have Dt:Ap (Fine T K N/\Sees T K N):=⟨hF,mc⟩;have rB:=zH (fun (A' MP DB OQ:Bb) (DH DF CI Iq:Nat) (X:Ba) h1 h2=>ZJ T cz fU iI hF out A' MP DB OQ AR DH DF CI Iq cr X h1 h2);have Ia:=zH (fun (h:xf T out=0) (A' MP DB OQ:Bb) (DH DF CI Iq:Nat) (X:Ba) h1 h2=>ZH T hF lY out (uB h).len A' MP DB OQ AR DH DF CI Iq cr X h1 h2);obtain⟨D0,D1,D2⟩:=bj.out _ G2.out;obtain⟨p0,p1,p2,p3,p4,p5,p6,_⟩:=Kf (D0);clear D0 D1 D2 Dx pV iI hf h0 dt CQ cz hF mc fU lY hT an;go_wp2_with fail;refine HC.out.mono ?_;rintro e w7 ⟨A2,dX,dz,dW,AV,kv,AX,kx,rfl,nM,_,_,cM⟩;have G7:=zH (Lc G2.out cM);have fd:=zH nM;have Ca:Ap (w1.heap.size<=w2.heap.size/\w2.heap.size<=w7.heap.size):=⟨G2.out.size,cM.size⟩;unfold Sy.vs_;clear cM nM HC p0 p1 p2 p3 p4 p5 p6 s0 TF;dsimp only;go_upto_region 4 with fail
 obtain⟨w8,sS,d8,mA,dD⟩:=zh w7 #[O U T.p.t.n,O U T.p.t.ins,O U T.p.t.outs,I A2 T.p.t.cases.length dX,O U T.p.a.n,I dz T.p.a.sts.length dW,O U T.p.k,O U T.n,I AV T.vs.length kv,I AX T.xs.length kx] 39;rw[sS];have G8:=zH (Lc G7.out dD);have BU:=zH mA
 have mn:Ap (∀X,Am w8.heap.size w8 X->SyAt X X.heap.size A2 dz AV AX T/\IAt X X.heap.size AR out/\X.heap[w7.heap.size]?=J (Ag #[O U T.p.t.n,O U T.p.t.ins,O U T.p.t.outs,I A2 T.p.t.cases.length dX,O U T.p.a.n,I dz T.p.a.sts.length dW,O U T.p.k,O U T.n,I AV T.vs.length kv,I AX T.xs.length kx] 39 (0,0))/\X.heap[w.heap.size+1]?=J (Ag #[I AR out.length cr] 32 (0,0))/\Am w1.heap.size w1 X/\∀k,k<w7.heap.size->X.heap[k]?=w7.heap[k]?):=fun X hX=>by
  have hk:∀k,k<w7.heap.size->X.heap[k]?=w7.heap[k]?:=fun k hk=>(hX.block k (by omega)).trans (dD.block k hk)
  have ti:=Lc G8.out hX;exact⟨fd.out X (by have:=hX.size;omega) (fun k _ h2=>hk k h2),Hr.out X ti,Lb hX (by omega) d8,(bj.out X ti).2.1,ti,hk⟩
 have nT:=zH (rB.out A2 dz AV AX dX dW kv kx w8 (mn.out w8 (Ll _ _)).1 (mn.out w8 (Ll _ _)).2.1);have fI:=zH (fun (h:xf T out=0) (X:Ba) (hX:Am w8.heap.size w8 X)=>Ia.out h A2 dz AV AX dX dW kv kx X (mn.out X hX).1 (mn.out X hX).2.1);unfold Sy.vs_ at nT fI;obtain⟨D0,D1⟩:=(mn.out w8 (Ll _ _)).2.2;obtain⟨q0,q1,q2,q3,q4,q5,q6,q7,q8,q9⟩:=zK (D0);have s0:=za D1.1 0 rfl;clear D0 D1 sS d8 mA dD rB Ia Hr Gi;go_wp2_with fail;refine nT.out.mono ?_;rintro e w9 ⟨rfl,dg⟩;have B9:=zH dg;have G9:=zH (mn.out w9 B9.out).2.2.2.2.1;clear dg nT q0 q1 q2 q3 q4 q5 q6 q7 q8 q9 s0
 by_cases eS:xf T out=0
 case neg=>
  obtain⟨E,hE⟩:=Kh (xf T out);rw[hE] at eS ⊢;have e0:(E != 0)=Ar:=by simpa using eS
  clear hE eS;have E1:=zH (bj.out _ G9.out).2.2;obtain⟨r0,r1,r2,r3,r4,r5,r6,r7,r8,r9⟩:=zK (E1.out);have g0:=zb (E1.out) 0;have g1:=zb (E1.out) 1;have g2:=zb (E1.out) 2;have g3:=zb (E1.out) 3;have g4:=zb (E1.out) 4;have g5:=zb (E1.out) 5;have g6:=zb (E1.out) 6;have g7:=zb (E1.out) 7;have g8:=zb (E1.out) 8;have g9:=zb (E1.out) 9;have ce:=zH (Lc HB.out G9.out);clear fI mo bj mn fd Dt sA;go_wp2_with fail;obtain⟨WF,dy,f1,f2,f3,f4⟩:=uR E1.out (O U 0) (O U 0) (O U 0) (I Z 0 0) (O U 0) (I Z 0 0) (O U 0) (O U 0) (I Z 0 0) (I Z 0 0);rw[dy]
  (try simp only[Exit.inBlock,Exit.then])
  refine L6 (ye (P:=Al) rfl _ _ (w.heap.size+2) 39 _ (0,0) _ rfl f1 Pj rfl (by kernel_rfl) _ rfl) rfl ?_;exact RetSol.zero (ce.out.trans (f3 _ (by omega)))
 have H':=zH eS;have fI:=zH (fI.out eS w9 B9.out);rw[eS];obtain⟨R,fX⟩:=Kh (xX T N K out);rw[fX] at fI;have T2:=zH fX;obtain⟨D0,D1⟩:=(mn.out w9 B9.out).2.2;obtain⟨q0,q1,q2,q3,q4,q5,q6,q7,q8,q9⟩:=zK (D0);have s0:=za D1.1 0 rfl;clear D0 D1 eS fX;go_wp2_with fail;refine fI.out.mono ?_;rintro e cZ ⟨rfl,aX⟩;have sN:=zH (Lc B9.out aX);have CD:=zH (mn.out cZ sN.out).2.2.2.2.1;clear aX fI q0 q1 q2 q3 q4 q5 q6 q7 q8 q9 s0
 by_cases Da:0<=R
 case pos=>
  have E1:=zH (bj.out _ CD.out).2.2;obtain⟨r0,r1,r2,r3,r4,r5,r6,r7,r8,r9⟩:=zK (E1.out);have g0:=zb (E1.out) 0;have g1:=zb (E1.out) 1;have g2:=zb (E1.out) 2;have g3:=zb (E1.out) 3;have g4:=zb (E1.out) 4;have g5:=zb (E1.out) 5;have g6:=zb (E1.out) 6;have g7:=zb (E1.out) 7;have g8:=zb (E1.out) 8;have g9:=zb (E1.out) 9;have ce:=zH (Lc HB.out CD.out);clear mo bj mn fd Dt sA T2;go_wp2_with fail;obtain⟨WF,dy,f1,f2,f3,f4⟩:=uR E1.out (O U 0) (O U 0) (O U 0) (I Z 0 0) (O U 0) (I Z 0 0) (O U 0) (O U 0) (I Z 0 0) (I Z 0 0);rw[dy]
  (try simp only[Exit.inBlock,Exit.then])
  refine L6 (ye (P:=Al) rfl _ _ (w.heap.size+2) 39 _ (0,0) _ rfl f1 Pj rfl (by kernel_rfl) _ rfl) rfl ?_;exact RetSol.zero (ce.out.trans (f3 _ (by omega)))
 case neg=>
 have Nv:Ap (xX T N K out<0):=by show _<_;rw[T2.out];omega
 have E1:=zH (bj.out _ CD.out).2.2;have ce:=zH (Lc HB.out CD.out);have Di:=zH (mn.out cZ sN.out).2.2.2.2.2;have mi:=zH sN.out.size;obtain⟨r0,r1,r2,r3,r4,r5,r6,r7,r8,r9⟩:=zK (E1.out);have g0:=zb (E1.out) 0;have g1:=zb (E1.out) 1;have g2:=zb (E1.out) 2;have g3:=zb (E1.out) 3;have g4:=zb (E1.out) 4;have g5:=zb (E1.out) 5;have g6:=zb (E1.out) 6;have g7:=zb (E1.out) 7;have g8:=zb (E1.out) 8;have g9:=zb (E1.out) 9;obtain⟨q0,q1,q2,q3,q4,q5,q6,q7,q8,q9⟩:=zK ((mn.out cZ sN.out).2.2.1);clear bj mn sA;go_wp2_with fail;obtain⟨WF,dy,f1,f2,f3,f4⟩:=uR E1.out (O U T.p.t.n) (O U T.p.t.ins) (O U T.p.t.outs) (I A2 T.p.t.cases.length dX) (O U T.p.a.n) (I dz T.p.a.sts.length dW) (O U T.p.k) (O U T.n) (I AV T.vs.length kv) (I AX T.xs.length kx);rw[dy]
 (try simp only[Exit.inBlock,Exit.then])
 refine L6 (ye (P:=Al) rfl _ _ (w.heap.size+2) 39 _ (0,0) _ rfl f1 Pj rfl (by kernel_rfl) _ rfl) rfl ?_;have hz:=HZ.out;have oE:=Ca.out;have mA:=BU.out;have oh:=mi.out;refine⟨T,A2,dz,AV,AX,dX,dW,kv,kx,Ar,rfl,ce.out.trans (f3 _ (by omega)),fun _=>⟨mo.out,ri.out,?_,H'.out,K,N,Dt.out.1,Dt.out.2,Nv.out⟩⟩;exact fd.out WF (by omega) fun k bC eG=>(f2 k (by omega)).trans (Di.out k eG)
end
end Go.Proofs.YtjjcgpfljidbhaaGreat
