/- Merged. -/
import Derived.Test.YtkmbdfdaffmhjaaGreatUf
import Derived.Sort.CutIn
import Derived.Orders
open Go.Proofs.Tryz
open Go.Value renaming int->O,slice->I,bool->Ah,agg->Ai,pointer->Aj
open Go.IntKind renaming i64->U
open Option renaming none->Z,some->J
open Go.Obj renaming cells->Ag
open Go.Ending renaming returned->Ak
open Go.Proofs.Tryz renaming prog->Al
open Go.RowKit renaming Below->Am,intOf->Ar,Hid->As
open Go renaming Calls->An,Value->Au
open Bool renaming true->Av,false->Aw
namespace Go.Proofs.YtkmbdfdaffmhjaaGreat
abbrev Ng:=@Classical.byContradiction
abbrev Sj:=@Go.results_cell_row
set_option maxRecDepth 100000
set_option maxHeartbeats 4000000
section
open Go.RowKit Go.Shelf
attribute [local go_sem] Oper.semAt_some
def RetB(xs:List Bool)(w:Ba)(e:Ending)(w':Ba):Prop:=∃g:Nat,e=Ak (I (J ⟨g,0,Z⟩) xs.length xs.length)/\w.heap.size<=g/\BRow w' g xs/\Am w.heap.size w w'
theorem wP(A B:Bb)(ca cb n:Nat)(hn:n<=100000)(a b:List Bool)(ha:a.length=n)(hb:b.length=n)(w:Ba)(hA:BAt w w.heap.size A a)(hB:BAt w w.heap.size B b) :
  An Al 42 #[I A n ca,I B n cb] w (RetB (kV n a b) w):=by
 have HA:=zH hA;have HB:=zH hB;have nk:=zH ha;have tl:=zH hb;have fl:=xm n hn;obtain⟨rs,oN⟩:=Kj (kV n a b);have eM:rs.length=n:=by rw[<-oN];exact xr _ _ _
 have cX:=zH eM
 have dl:As (∀k (h:k<n),rs[k]'(by rw[cX.out];exact h)=(a[k]'(by rw[nk.out];exact h)&&b[k]'(by rw[tl.out];exact h))):=fun k h=>by
  subst oN;rw[ZG h,zA (by omega),zA (by omega)]
 unfold RetB;rw[oN,eM];go_enter func42,ntmps42;go_upto_region 2 with fail
 obtain⟨w3,bL,d3,cz,aG⟩:=zn w (xM (List.replicate n Aw)) 4;rw[bL];have pg:=zH (HA.out.keep aG);have aC:=zH (HB.out.keep aG);have fy:=zH aG;have mI:As (BRow w3 w.heap.size (xq rs 0)):=by rw[jk,cX.out];exact d3
 go_wp2_with fail
 go_loopw [12] (fun i wr=>∃k:Nat,k<=n/\i=O U (k:Int)/\As (BRow wr w.heap.size (xq rs k))/\As (Am w.heap.size w3 wr)) (fun i _=>n-(Ar i).toNat)
 case atStart=>exact⟨0,by omega,rfl,mI,Ll _ _⟩
 obtain⟨k,hk,rfl,aK,bz⟩:=hrel
 by_cases hlt:k<n
 . obtain⟨b1,o1,rfl,aF,z0⟩:=(pg.out.keep bz.out).at_ k (by rw[nk.out];exact hlt)
   obtain⟨b2,o2,rfl,ae,z1⟩:=(aC.out.keep bz.out).at_ k (by rw[tl.out];exact hlt);have aI:=dl.out k hlt;obtain⟨x,hx⟩:=Kj (a[k]'(by rw[nk.out];exact hlt));obtain⟨y,hy⟩:=Kj (b[k]'(by rw[tl.out];exact hlt));rw[hx] at z0 aI;rw[hy] at z1 aI;have dB:k<rs.length:=by rw[cX.out];exact hlt
   have ie:=j8 rs (Px dB);have y0:=zh aK.out k (qh (xq rs k) k (by omega));have f0:=zi aK.out k
   have i8:As (BRow (wr.setCell ⟨w.heap.size,k,Z⟩ (Ah (x&&y))) w.heap.size (xq rs (k+1))):=by
    rw[<-aI,<-j7 rs dB];show _=_;rw[Lk wr _ k _ _ _ aK.out,jp]
   have rx:=zH (bz.out.setCell (p:=⟨w.heap.size,k,Z⟩) (by show w.heap.size<=w.heap.size;omega) (Ah (x&&y)));obtain⟨u,hu⟩:=Kj ((xq rs k)[k]'(by omega));rw[hu] at y0;have dg:(0:Int)<=(k:Int):=by omega
   have aM:(k:Int)<(n:Int):=by omega
   cases x with
   | false=>
    go_wp2_with fail
    go_roundw
    case rel=>exact⟨k+1,by omega,by go_num,i8,rx⟩
    case measure=>simp[Ar];omega
   | true=>
    go_wp2_with fail
    go_roundw
    case rel=>exact⟨k+1,by omega,by go_num,i8,rx⟩
    case measure=>simp[Ar];omega
 obtain rfl:n=k:=by omega
 have HE:As (BRow wr w.heap.size rs):=by have:=aK.out;rwa[show xq rs n=rs by rw[<-cX.out];exact j9 rs] at this
 have rY:=zH (fy.out.trans bz.out);go_wp2_with fail;go_ret;exact⟨w.heap.size,rfl,Ld _,HE.out,rY.out⟩
theorem Zb(A B:Bb)(ca cb n:Nat)(hn:n<=100000)(ls:List Int)(set:List Bool)(ha:ls.length=n)(hb:set.length=n)(w:Ba)(hA:IAt w w.heap.size A ls)(hB:BAt w w.heap.size B set) :
  An Al 128 #[I A n ca,I B n cb] w (RetB (xR n ls set) w):=by
 have HA:=zH hA;have HB:=zH hB;have nk:=zH ha;have tl:=zH hb;have fl:=xm n hn;have iD:=@run_makeMap Al;have hz:∀W:Ba,(zeroValue 4).run Al W=.ok (Ah Aw) W:=fun W=>by kernel_rfl
 have ht:Al.underlying 224=J (.map 3 4):=underlying224;have HZ:=zH hz;have HT:=zH ht;obtain⟨rs,oN⟩:=Kj (xR n ls set);have eM:rs.length=n:=by rw[<-oN];exact xb _ _ _
 have cX:=zH eM
 have dl:As (∀k (h:k<n),rs[k]'(by rw[cX.out];exact h)=(vC ls set n (ls[k]'(by rw[nk.out];exact h))).isNone):=fun k h=>by
  subst oN;rw[insL_brk h,ye (by rw[nk.out];exact h)]
 unfold RetB;rw[oN,eM];go_enter func128,ntmps128;go_upto_region 2 with fail
 obtain⟨w1,h1⟩:=Kj (w.alloc (.map #[] 0));have m1:MapOf (O U) w1 w.heap.size 0 (fun _=>Z):=by rw[<-h1];exact MapOf.made w
 have z1:Am w.heap.size w w1:=by rw[<-h1];exact zW _ _
 have iG:w.heap.size<w1.heap.size:=by rw[<-h1];simp
 rw[h1];have HM1:As (MapOf (O U) w1 w.heap.size 0 (vC ls set 0)):=m1;have ib:=zH z1;have Tb:=zH (HA.out.keep z1);have nh:=zH (HB.out.keep z1);go_wp2_with fail
 go_loopw [14] (fun i wr=>∃k m:Nat,k<=n/\i=O U (k:Int)/\As (MapOf (O U) wr w.heap.size m (vC ls set k))/\As (Am w.heap.size w1 wr)) (fun i _=>n-(Ar i).toNat)
 case atStart=>exact⟨0,0,by omega,rfl,HM1,Ll _ _⟩
 obtain⟨k,m,hk,rfl,hm,bz⟩:=hrel
 by_cases hlt:k<n
 . obtain⟨b1,o1,rfl,aF,z0⟩:=(Tb.out.keep bz.out).at_ k (by rw[nk.out];exact hlt)
   obtain⟨b2,o2,rfl,ae,z1⟩:=(nh.out.keep bz.out).at_ k (by rw[tl.out];exact hlt);have MS:ls.getD k 0=ls[k]'(by rw[nk.out];exact hlt):=ye (by rw[nk.out];exact hlt) 0;have dK:set.getD k Aw=set[k]'(by rw[tl.out];exact hlt):=zA (by rw[tl.out];exact hlt) Aw;obtain⟨x,hx⟩:=Kj (ls[k]'(by rw[nk.out];exact hlt));obtain⟨y,hy⟩:=Kj (set[k]'(by rw[tl.out];exact hlt));rw[hx] at z0 MS;rw[hy] at z1 dK;have dg:(0:Int)<=(k:Int):=by omega
   have aM:(k:Int)<(n:Int):=by omega
   have hG:vC ls set (k+1)=if y then vC ls set k else xg (vC ls set k) x (Ah Av):=by rw[vC,MS,dK]
   cases y with
   | true=>
    have fL:As (MapOf (O U) wr w.heap.size m (vC ls set (k+1))):=by rw[hG,Lj rfl];exact hm
    go_wp2_with fail
    go_roundw
    case rel=>exact⟨k+1,m,by omega,by go_num,fL,bz⟩
    case measure=>simp[Ar];omega
   | false=>
    obtain⟨W5,dm,pk,bY⟩:=hm.out.put yC HT.out x (Ah Av);have fL:As (MapOf (O U) W5 w.heap.size (m+1) (vC ls set (k+1))):=by rw[hG,Lg (by simp)];exact pk
    have aT:As (Am w.heap.size w1 W5):=bz.out.grown bY (by have:=bz.out.size;omega) (fun r e=>by cases e;omega);go_wp2_with fail
    go_roundw
    case rel=>exact⟨k+1,m+1,by omega,by go_num,fL,aT⟩
    case measure=>simp[Ar];omega
 obtain rfl:n=k:=by omega
 have pj:=bz.out.size;obtain⟨wE,rfl⟩:∃x,x=wr:=⟨_,rfl⟩;go_upto_region 9 with fail
 obtain⟨w3,bL,d3,cz,aG⟩:=zn wE (xM (List.replicate n Aw)) 4;rw[bL];have pg:=zH ((Tb.out.keep bz.out).keep (aG.mono (by omega)));have HM3:=zH (hm.out.same (aG.block _ (by omega)));have fy:=zH (ib.out.trans (bz.out.trans (aG.mono (by omega))));have mI:As (BRow w3 wE.heap.size (xq rs 0)):=by rw[jk,cX.out];exact d3
 have hwE:w.heap.size<wE.heap.size:=by omega
 go_wp2_with fail
 go_loopw [32] (fun i wr=>∃k:Nat,k<=n/\i=O U (k:Int)/\As (BRow wr wE.heap.size (xq rs k))/\As (Am wE.heap.size w3 wr)) (fun i _=>n-(Ar i).toNat)
 case atStart=>exact⟨0,by omega,rfl,mI,Ll _ _⟩
 obtain⟨k,hk,rfl,aK,bz⟩:=hrel
 by_cases hlt:k<n
 . obtain⟨b1,o1,rfl,aF,z0⟩:=(pg.out.keep (bz.out.mono (by omega))).at_ k (by rw[nk.out];exact hlt)
   have aI:=dl.out k hlt;obtain⟨x,hx⟩:=Kj (ls[k]'(by rw[nk.out];exact hlt));rw[hx] at z0 aI;have hm:=HM3.out.same (bz.out.block _ hwE);have dS:=hm.look yC HT.out (HZ.out wr) x
   have bJ:∃y:Bool,(vC ls set n x).getD (Ah Aw)=Ah y/\rs[k]'(by rw[cX.out];exact hlt)=!y:=by
    rcases jB ls set x n with ⟨h1,_⟩ | ⟨h1,_⟩
    . exact⟨Av,by rw[h1];rfl,by rw[aI,h1];rfl⟩
    exact⟨Aw,by rw[h1];rfl,by rw[aI,h1];rfl⟩
   obtain⟨y,hy1,EW⟩:=bJ;rw[hy1] at dS;have dB:k<rs.length:=by rw[cX.out];exact hlt
   have ie:=j8 rs (Px dB);have y0:=zh aK.out k (qh (xq rs k) k (by omega));have f0:=zi aK.out k
   have i8:As (BRow (wr.setCell ⟨wE.heap.size,k,Z⟩ (Ah (!y))) wE.heap.size (xq rs (k+1))):=by
    rw[<-EW,<-j7 rs dB];show _=_;rw[Lk wr _ k _ _ _ aK.out,jp]
   have rx:=zH (bz.out.setCell (p:=⟨wE.heap.size,k,Z⟩) (by show wE.heap.size<=wE.heap.size;omega) (Ah (!y)));obtain⟨u,hu⟩:=Kj ((xq rs k)[k]'(by omega));rw[hu] at y0;have dg:(0:Int)<=(k:Int):=by omega
   have aM:(k:Int)<(n:Int):=by omega
   go_wp2_with fail
   go_roundw
   case rel=>exact⟨k+1,by omega,by go_num,i8,rx⟩
   simp[Ar];omega
 obtain rfl:n=k:=by omega
 have HE:As (BRow wr wE.heap.size rs):=by have:=aK.out;rwa[show xq rs n=rs by rw[<-cX.out];exact j9 rs] at this
 have rY:=zH (fy.out.trans (bz.out.mono (by omega)));go_wp2_with fail;go_ret;exact⟨wE.heap.size,rfl,by omega,HE.out,rY.out⟩
end
section
open Go.RowKit
theorem ZW:(Al.info? 4).map (·.size)=J 1:=by kernel_rfl
theorem gP(n b:Nat)(h1:1<=n)(h5:n<=100000)(u:Bool)(w:Ba)(hb:w.heap[b]?=J (Ag #[Ah u] 4 (0,0))) :
  An Al 121 #[I (J ⟨b,0,Z⟩) 1 1,O U n] w fun e w'=>∃g,e=Ak (I (J ⟨g,0,Z⟩) n n)/\w.heap.size<=g/\BRow w' g (List.replicate n u)/\Am w.heap.size w w':=by
 have fl:=xm n h5;obtain⟨ar,oz⟩:∃ar:List Au,(List.replicate n Aw).map Ah=ar:=⟨_,rfl⟩;unfold xM at fl;rw[oz] at fl;have CX:ar.length=n:=by rw[<-oz];simp
 have hc:=zh hb 0 rfl;have aY:=zj hb;have hm:=Tryz.bits_Mul 1 n (by omega) (by omega) w;have e1:(1*n / 18446744073709551616:Nat)=0:=by omega
 have e2:(1*n % 18446744073709551616:Nat)=n:=by omega
 rw[e1,e2] at hm;have H':¬(n:Int)<0:=by omega
 go_enter func121,ntmps121;go_wp2_with fail;refine hm.mono ?_;rintro e w1 ⟨rfl,ab⟩;obtain rfl:=ab;obtain⟨W0,dT,b0,aP,bG⟩:=zn w1 ar.toArray 4;have hx:W0.cell? ⟨b,0,Z⟩=J (Ah u):=(bG.cell (p:=⟨b,0,Z⟩) aY).trans hc;have BB:=zH bG;have BX:=zH b0;have HX:=zH hx;go_wp2_with ((refine R7 rfl (.tmp 31) (.tmp 32) 58 58 rfl 4 Pm ZW (J ⟨w1.heap.size,0,Z⟩) (J ⟨b,0,Z⟩) n n 1 1 rfl rfl w1.heap.size 0 ar 4 BX.out [Ah u] (by simp[Nat.min_def];omega) (fun _=>⟨rfl,_,rfl,Qb HX.out⟩) (by simp;omega) (by simp[Value.oneCell']) w1.heap.size w1 BB.out (Ld _) ?_);intro w2 fi ae);obtain⟨g,hg⟩:=Kj w1.heap.size;have s1:=qu (cur:=ar) (x:=Ah u) (k:=0) (m:=1) (n:=n) CX (by simp) (by omega);have S1:=zH s1;have EI:=zH hg;rw[hg] at fi ae ⊢
 go_loopw [8] (fun l wr=>∃(k:Nat) (cur:List Au),1<=k/\k<=n/\l=O U k/\As (cur.length=n)/\As (cur.take k=List.replicate k (Ah u))/\As (wr.heap[g]?=J (Ag cur.toArray 4 (0,0)))/\Am g w1 wr) (fun l _=>n-(Ar l).toNat)
 case atStart=>exact⟨1,splice ar 0 [Ah u],by omega,h1,rfl,S1.out.2,S1.out.1,fi,ae⟩
 obtain⟨k,cur,aM,Wg,rfl,aA,tW,al,fu⟩:=hrel
 by_cases hlt:k<n
 . clear S1 fi ae
   have dg:(0:Int)<=(k:Int):=by omega
   have fU:(k:Int)<=(n:Int):=by omega
   have az:¬n=k:=by omega
   go_upto_region 9 with fail
   obtain⟨d,hd⟩:=Kj (n-k);obtain⟨m,hm⟩:=Kj (Nat.min k d);have oo:min k d=m:=hm;have sV:1<=m:=by omega
   have fL:k+m<=n:=by omega
   have sf:m<=k:=by omega
   have oL:∀j v,(List.replicate m (Ah u))[j]?=J v->wr.cell? ((⟨g,0,Z⟩:Addr).add j)=J v:=by
    intro j v hj;have MM:j<m:=by have:=(Lq.1 hj).1;simpa using this
    rw[NN,Lj MM] at hj
    cases hj
    rw[NR,LI];refine zh al.out j ?_;rw[PC];have h2:=congrArg (fun l=>l[j]?) tW.out;simp only[List.getElem?_take,List.getElem?_replicate] at h2;rwa[Lj (by omega),Lj (by omega)] at h2
   have SP:=zH (qu (cur:=cur) (x:=Ah u) (k:=k) (m:=m) (n:=n) aA.out tW.out fL);have Bc:=zH oL;have HM:=zH hm;have ip:=zH fu;have av:IntKind.i64.wrap ((k:Int)+(m:Int))=(k:Int)+(m:Int):=Sz _ (by omega);have nh:=zH av;clear oL hm fu av
   go_region_law ((refine Si (by rfl) (.tmp 41) (.tmp 44) 58 58 (by rfl) 4 Pm ZW (J ⟨g,k,Z⟩) (J ⟨g,0,Z⟩) d d k n (by simp[go_sem]) (by simp[go_sem]) g k cur 4 al.out (List.replicate m (Ah u)) (by rw[LO];exact HM.out.symm) (fun _=>⟨rfl,_,rfl,Bc.out⟩) (by rw[LO,aA.out];exact fL) (by intro v hv;rw[Rw hv];rfl) g w1 ip.out.drew (Ld _) ?_;intro w3 iR ak;rw[LO]))
   all_goals
    rw[nh.out];go_wp2_with fail
    go_frame
    go_roundw
    case rel=>
     (repeat apply Exists.intro)
     exact⟨⟨k+m,splice cur k (List.replicate m (Ah u)),by omega,by omega,rfl,SP.out.2,SP.out.1,iR,ak⟩,by first | rfl | (go_frame;rfl) | (simp[Act.put];done)⟩
    case measure=>simp[Ar];omega
 obtain rfl:k=n:=by omega
 go_wp2_with fail;go_ret;refine⟨g,rfl,by have:=EI.out;omega,?_,by have:=EI.out;rw[this];exact fu⟩;unfold BRow xM;have e:=tW.out;rw[NQ (by have:=aA.out;omega)] at e;rw[al.out,e];simp
theorem clone_kBl(A:Bb)(n cap:Nat)(cs:List Au)(w:Ba)(hl:cs.length=n*1)(hA:Raw w A n cs)(h1:∀u∈cs,u.oneCell'=Av)(hn:n<=1000000) :
  An Al 41 #[I A n cap] w (RetR kBl n cs w):=by
 have HT:=zH hA;have H1:=zH h1;have HL:=zH hl;have q:∀(w:Ba) (a:Bb) (n c n' c':Nat),(binOp .eql 58 (I a n c) (I Z n' c')).run Al w=.ok (Ah a.isNone) w:=fun w a n c n' c'=>Ph w _ _ a n c n' c' Pm
 obtain⟨i0,hi,dx,ce,dI⟩:=yT kBl_ok
 cases A with
 | none=>
  have mV:n=0:=by
   rcases NC n with h | h
   . exact h
   . obtain⟨b,off,e,_⟩:=HT.out h;cases e
  subst mV;have bN:cs=[]:=LJ (by have:=HL.out;omega);subst bN;go_enter func41,ntmps41;go_wp2;go_ret;exact⟨_,rfl,OwnR.nil _ _ _,Ll _ _⟩
 | some ad=>
  have HC:As (∀(j:Nat) (u:Au),cs[j]?=J u->(w.alloc (Ag #[] 4)).cell? (ad.add j)=J u):=fun j u hj=>by
   have cc:j<n*1:=by rw[<-HL.out];exact(Lq.1 hj).1
   obtain⟨b,off,e,hlt,hc⟩:=HT.out (by omega)
   cases e
   rw[NR];exact Pq _ (hc j u hj)
  go_enter func41,ntmps41;go_wp2_with (at_builtin;refine Pk _ rfl _ _ 58 rfl w.heap.size 4 i0 _ 1 1 Pm hi dx ce dI rfl (by decide) _ _ _ rfl (Pv w #[] 0 (Ld _) (Ni _) rfl) ad n cap cs rfl HL.out HC.out H1.out ?qc4 ?qc5 ?qc6 ?_)
  case qc4=>unfold maxLen;omega
  case qc5=>omega
  case qc6=>simp
  intro v' w1 aU bK pN;go_wp2;go_ret;refine⟨v',rfl,aU,?_⟩;exact((Ll _ w).alloc (Ld _) _).grown bK (by simp) (by intro k hk;simp[Value.ownBlock] at hk;omega)
end
section
open Go.RowKit Go.Shelf
attribute [local go_sem] Oper.semAt_some
structure KwAt(w:Ba)(B bw n N:Nat)(cls:Nat->List Int):Prop where
 lt:bw<B
 size:w.cell? ⟨bw,10,Z⟩=J (O U (n:Int))
 rows:∃b off cC,w.cell? ⟨bw,11,Z⟩=J (I (J ⟨b,off,Z⟩) N cC)/\b<B/\∀q,q<N->∃A c,w.cell? ⟨b,off+q,Z⟩=J (I A n c)/\IAt w B A (cls q)
 len:∀q,(cls q).length=n
theorem KwAt.keep{w w':Ba}{B bw n N:Nat}{cls:Nat->List Int}(h:KwAt w B bw n N cls)(hb:Am B w w'):KwAt w' B bw n N cls:=by
 obtain⟨b,off,cC,h1,h2,h3⟩:=h.rows;refine⟨h.lt,(hb.cell (p:=⟨bw,10,Z⟩) h.lt).trans h.size,⟨b,off,cC,(hb.cell (p:=⟨bw,11,Z⟩) h.lt).trans h1,h2,fun q hq=>?_⟩,h.len⟩;obtain⟨A,c,h4,h5⟩:=h3 q hq;exact⟨A,c,(hb.cell (p:=⟨b,off+q,Z⟩) h2).trans h4,h5.keep hb⟩
theorem KwAt.more{w:Ba}{B B' bw n N:Nat}{cls:Nat->List Int}(h:KwAt w B bw n N cls)(hB:B<=B'):KwAt w B' bw n N cls:=by
 obtain⟨b,off,cC,h1,h2,h3⟩:=h.rows;refine⟨by have:=h.lt;omega,h.size,⟨b,off,cC,h1,by omega,fun q hq=>?_⟩,h.len⟩;obtain⟨A,c,h4,h5⟩:=h3 q hq;exact⟨A,c,h4,h5.more hB⟩
theorem Jm(bw n N:Nat)(cls:Nat->List Int)(h1:1<=n)(hn:n<=100000)(w:Ba)(hK:KwAt w w.heap.size bw n N cls) :
  An Al 77 #[Aj (J ⟨bw,0,Z⟩)] w (RetB (List.replicate n Av) w):=by
 obtain⟨w1,ab,d1,av,hB⟩:=zn w #[Ah Av] 4;have HC:=zH (gP n w.heap.size h1 hn Av w1 d1);have z0:=hK.size;have hl:=hK.lt;have ag:=zH ab;have HB:=zH hB;unfold RetB;rw[LO];clear ab d1 hB hK;go_enter func77,ntmps77;go_wp2_with fail;rw[ag.out];refine HC.out.mono ?_;rintro e w2 ⟨g,rfl,hg,hr,ae⟩;have HR:=zH hr;have au:=zH (HB.out.trans (ae.mono (by omega)));go_wp2_with fail;go_ret;exact⟨g,rfl,by omega,HR.out,au.out⟩
theorem Yn(bw n N:Nat)(cls:Nat->List Int)(hn:n<=100000)(q:Nat)(hq:q<N)(B:Bb)(cb:Nat)(set:List Bool)(hb:set.length=n)(w:Ba)(hK:KwAt w w.heap.size bw n N cls)(hB:BAt w w.heap.size B set) :
  An Al 78 #[Aj (J ⟨bw,0,Z⟩),O U (q:Int),I B n cb] w (RetB (xR n (cls q) set) w):=by
 obtain⟨b,off,cC,z1,ae,hr⟩:=hK.rows;obtain⟨A,c,z2,hI⟩:=hr q hq;have HC:=zH (Zb A B c cb n hn (cls q) set (hK.len q) hb w hI hB);have sS:(0:Int)<=(q:Int):=by omega
 have mZ:(q:Int)<(N:Int):=by omega
 unfold RetB at HC ⊢;rw[xb] at HC ⊢;go_enter func78,ntmps78;go_wp2_with fail;refine HC.out.mono ?_;rintro e w2 ⟨g,rfl,hg,fi,ak⟩;have HR:=zH fi;have au:=zH ak;go_wp2_with fail;go_ret;exact⟨g,rfl,hg,HR.out,au.out⟩
theorem kS(bw n N:Nat)(cls:Nat->List Int)(h1:1<=n)(hn:n<=100000)(hN:N<=5)(G:Nat)(hG:G<32)(B:Bb)(cb:Nat)(set:List Bool)(hb:set.length=n)(w:Ba)(hK:KwAt w w.heap.size bw n N cls)(hB:BAt w w.heap.size B set) :
  An Al 43 #[Aj (J ⟨bw,0,Z⟩),O U (G:Int),I B n cb] w (RetB (evL n cls (zB G N) set) w):=by
 have HA:=zH (Jm bw n N cls h1 hn w hK);have HKN:=zH (fun (q:Nat) (hq:q<N) (X:Ba) (hX:Am w.heap.size w X)=>Yn bw n N cls hn q hq B cb set hb X ((hK.keep hX).more hX.size) ((hB.keep hX).more hX.size));have bU:=zH (fun (g g':Nat) (a b:List Bool) (ha:a.length=n) (hb:b.length=n) (X:Ba) (r1:BRow X g a) (r2:BRow X g' b)=>wP (J ⟨g,0,Z⟩) (J ⟨g',0,Z⟩) n n n hn a b ha hb X (r1.at_ r1.lt) (r2.at_ r2.lt));have HK:=zH hK;unfold RetB at HA HKN bU ⊢;rw[LO] at HA;simp only[xb] at HKN;simp only[xr] at bU;rw[qS];go_enter func43,ntmps43;go_wp2_with fail;refine HA.out.mono ?_;rintro e w2 ⟨g2,rfl,fm,fi,ae⟩;have dk:=zH fi;have au:=zH ae;obtain⟨b,off,cC,z1,bj,_⟩:=(HK.out.keep ae).rows;go_wp2_with fail
 go_loopw [7,16] (fun o i wr=>∃k g:Nat,k<=N/\i=O U (k:Int)/\o=I (J ⟨g,0,Z⟩) n n/\w.heap.size<=g/\As (BRow wr g (evL n cls (zB G k) set))/\As (Am w.heap.size w wr)) (fun _ i _=>N-(Ar i).toNat)
 case atStart=>exact⟨0,g2,by omega,rfl,rfl,fm,dk,au⟩
 obtain⟨k,g,hk,rfl,rfl,hg,hr,bz⟩:=hrel
 by_cases hlt:k<N
 . have aF:=JQ hG (show k<5 by omega)
   have aM:(k:Int)<(N:Int):=by omega
   have DT:min k 64=k:=by omega
   by_cases eQ:G.testBit k=Av
   case neg=>
    have tZ:G.testBit k=Aw:=by simpa using eQ
    rw[tZ] at aF;have hE:zB G (k+1)=zB G k:=by rw[kO,Lg eQ]
    have fi:As (BRow wr g (evL n cls (zB G (k+1)) set)):=by rw[hE];exact hr
    go_wp2_with fail
    go_roundw
    case rel=>exact⟨k+1,g,by omega,by go_num,rfl,hg,fi,bz⟩
    simp[Ar];omega
   case pos=>
   rw[eQ] at aF;have HE:As (evL n cls (zB G (k+1)) set=kV n (evL n cls (zB G k) set) (xR n (cls k) set)):=by rw[As,kO,Lj eQ,JJ]
   have HC:=zH (HKN.out k hlt wr bz.out);go_wp2_with fail;refine HC.out.mono ?_;rintro e w3 ⟨g3,rfl,oR,iR,ak⟩;have cz:=bz.out.size;have pI:BRow w3 g (evL n cls (zB G k) set):=Lb ak hr.out.lt hr.out;have dv:=zH (bU.out g g3 _ _ (qS n cls set (zB G k)) (xb n (cls k) set) w3 pI iR);rw[<-HE.out] at dv;have aC:=zH (bz.out.trans (ak.mono cz));go_wp2_with fail;refine dv.out.mono ?_;rintro e w4 ⟨g4,rfl,sk,l7,aD⟩;have mL:=zH l7;have fB:=zH (Lc aC.out aD);have FH:w.heap.size<=g4:=by have:=aC.out.size;omega
   go_wp2_with fail
   go_roundw
   case rel=>exact⟨k+1,g4,by omega,by go_num,rfl,FH,mL,fB⟩
   simp[Ar];omega
 obtain rfl:N=k:=by omega
 go_wp2_with fail;go_ret;exact⟨g,rfl,hg,hr.out,bz.out⟩
theorem pcount_any(s:Sy)(K N:Nat)(hF:Fine s K N)(A SV AV AX:Bb)(kc ks kv kx:Nat)(w:Ba) :
  An Al 147 #[.agg (s.vs_ A kc SV ks AV kv AX kx)] w fun e w'=>e=Ak (O U (ptn s:Int))/\Am w.heap.size w w':=by
 obtain⟨w1,ab,d0,av,hB⟩:=zn w (s.vs_ A kc SV ks AV kv AX kx) 39;have Fv:=hF.lx;have hk:=hF.k;have CK:=hF.k6;have hn:ptn s=s.xs.length*(K+1):=by unfold ptn;rw[hk];rfl
 have hb:=LU Fv (show K+1<=7 by omega);rw[hn];unfold Sy.vs_ at ab d0 ⊢;rw[hk] at ab d0 ⊢;obtain⟨M,hM⟩:=Kj s.xs.length;rw[hM] at ab d0 hb Fv ⊢;have ag:=zH ab;have HB:=zH hB
 have O2:As (wrap64 ((M:Int)*((K:Int)+1))=((M*(K+1):Nat):Int)):=by
  show wrap64 _=_;rw[show(M:Int)*((K:Int)+1)=((M*(K+1):Nat):Int) by push_cast;rfl];exact IntWalk.wrap64_in _ (by omega)
 clear ab d0 hB hF hk hn hM hb;go_enter func147,ntmps147;go_wp2_with fail;rw[ag.out];go_wp2_with fail;go_ret;exact⟨by rw[<-O2.out];rfl,HB.out⟩
def JK(s:Sy):Int×Int:=if yc s≠0 then (0,yc s) else ((ptn s:Int),0)
theorem pCount_any(s:Sy)(hs:LowS s)(hf:yU s.p)(A SV AV AX:Bb)(kc ks kv kx:Nat)(w:Ba)(hS:SyAt w w.heap.size A SV AV AX s) :
  An Al 124 #[.agg (s.vs_ A kc SV ks AV kv AX kx)] w fun e w'=>e=Ak (.tuple #[O U (JK s).1,O U (JK s).2])/\Am w.heap.size w w':=by
 obtain⟨w1,ab,d0,av,hB⟩:=zn w (s.vs_ A kc SV ks AV kv AX kx) 39;have HV:=zH (vi s hs hf A SV AV AX kc ks kv kx w1 (hS.up hB));have be:As (yc s≠0->JK s=(0,yc s)):=fun h=>Lj h
 have ai:As (yc s=0->JK s=((ptn s:Int),0)/\∀X,An Al 147 #[.agg (s.vs_ A kc SV ks AV kv AX kx)] X fun e w'=>e=Ak (O U (ptn s:Int))/\Am X.heap.size X w'):=fun h=>by
  obtain⟨_,K,N,hF⟩:=yF hf h;exact⟨Lg (by simpa using h),fun X=>pcount_any s K N hF A SV AV AX kc ks kv kx X⟩
 obtain⟨r,hr⟩:=Kj (yc s);rw[hr] at HV be ai;obtain⟨R,de⟩:=Kj (JK s);rw[de] at be ai ⊢;unfold Sy.vs_ at ab d0 HV ai ⊢;have ag:=zH ab;have HB:=zH hB;have HD:=zH d0;have p9:=zh (d0) 9 rfl;clear ab d0 hB hS hr de hs hf;go_enter func124,ntmps124;go_wp2_with fail;rw[ag.out];go_wp2_with fail;refine HV.out.mono ?_;rintro e w2 ⟨rfl,ae⟩;have au:=zH (HB.out.trans (ae.mono (by omega)));have d0:=Lb ae (by omega:w.heap.size<w1.heap.size) HD.out;clear p9 ae HV ag HD;obtain⟨p0,p1,p2,p3,p4,p5,p6,p7,p8,p9⟩:=zM (d0);clear d0
 by_cases h0:r=0
 case neg=>
  have hR:As (R=(0,r)):=be.out h0;have e0:(r != 0)=Av:=by simpa using h0
  clear be ai;go_wp2_with fail
  go_ret2
  rw[hR.out];exact⟨rfl,au.out⟩
 case pos=>
 subst h0;obtain⟨Gb,hC⟩:=ai.out rfl;have HC:=zH (hC w2);have hR:=zH Gb;clear be ai Gb hC;go_wp2_with fail;refine HC.out.mono ?_;rintro e w3 ⟨rfl,ak⟩;have aC:=zH (Lc au.out ak);go_wp2_with fail
 go_ret2
 rw[hR.out];exact⟨rfl,aC.out⟩
end
section
open Go.RowKit Go.Shelf
attribute [local go_sem] Oper.semAt_some
def RetTA(x:(List (Int×Int)×Bool)×Int)(w:Ba)(e:Ending)(w':Ba):Prop:=∃A c,e=Ak (.tuple #[I A x.1.1.length c,Ah x.1.2,O U x.2])/\x.1.1.length<=c/\c<=maxLen/\TAt w' w'.heap.size A x.1.1/\Am w.heap.size w w'
structure WtIn(B D:Nat)(wD:Ba)(pt:Nat)(w W:Ba):Prop where
 below:Am B w W
 pt:W.heap[B+1]?=J (Ag #[O U (pt:Int)] 3 (0,0))
 old:∀k,B+2<=k->k<D->W.heap[k]?=wD.heap[k]?
 size:D<=W.heap.size
section
variable {B D pt:Nat} {wD w W W':Ba}
theorem WtIn.free(h:WtIn B D wD pt w W)(hb:Am D W W')(hD:B+2<=D):WtIn B D wD pt w W':=
 ⟨h.below.trans (hb.mono (by omega)),Lb hb (by omega) h.pt,fun k h1 h2=>(hb.block k h2).trans (h.old k h1 h2),Lu h.size hb.size⟩
theorem WtIn.on(h:WtIn B D wD pt w W)(hb:Am W.heap.size W W')(hD:B+2<=D):WtIn B D wD pt w W':=h.free (hb.mono h.size) hD
theorem WtIn.turn{row:Option Nat}(h:WtIn B D wD pt w W)(hg:W.grownBy W' row)(hr:∀r,row=J r->D<=r)(hD:B+2<=D):WtIn B D wD pt w W':=
 h.free ((Ll D W).grown hg h.size hr) hD
theorem WtIn.move(h:WtIn B D wD pt w W)(q:Nat)(_hD:B+2<=D):WtIn B D wD q w (W.setCell ⟨B+1,0,Z⟩ (O U (q:Int))):=
 ⟨h.below.setCell (by show B<=B+1;omega) _,by rw[Lk W (B+1) 0 _ _ _ h.pt];rfl,fun k h1 h2=>(Le W ⟨B+1,0,Z⟩ _ k (by show k≠B+1;omega)).trans (h.old k h1 h2),by simp[World.setCell];exact h.size⟩
theorem vx{K:Kd}{base:Nat}{v:Au}{n:Nat}{cs:List Au}(h:OwnR K W base v n cs)(hs:∀k,v.ownBlock=J k->W'.heap[k]?=W.heap[k]?):OwnR K W' base v n cs:=by
 refine⟨h.1,?_⟩;rcases h.2 with hn | ⟨g,cap,cur,rfl,hb,hg,rest⟩
 . exact .inl hn
 exact .inr ⟨g,cap,cur,rfl,hb,(hs g rfl).trans hg,rest⟩
theorem ownR_cells{K:Kd}{base:Nat}{v:Au}{n:Nat}{cs:List Au}(h:OwnR K W base v n cs)(hs:∀(k:Nat) (o:Obj),W.heap[k]?=J o->o.isCells=Av->W'.heap[k]?=J o):OwnR K W' base v n cs:=by
 refine⟨h.1,?_⟩;rcases h.2 with hn | ⟨g,cap,cur,rfl,hb,hg,rest⟩
 . exact .inl hn
 exact .inr ⟨g,cap,cur,rfl,hb,hs g _ hg rfl,rest⟩
theorem ownR_ne{K:Kd}{base:Nat}{v:Au}{n y:Nat}{cs:List Au}{d:Option (List Deferred)}(h:OwnR K W base v n cs)(hy:W.heap[y]?=J (Obj.deferred d)):v.ownBlock≠J y:=fun e=>by
 rcases h.2 with ⟨rfl,_⟩ | ⟨g,cap,cur,rfl,hb,hg,rest⟩
 . cases e
 . have:g=y:=by simpa[Value.ownBlock] using e
   subst this;rw[hg] at hy
   cases hy
theorem ownR_one{g base:Nat}{x y:Int}(h:W.heap[g]?=J (Ag #[O U x,O U y] 106 (0,0)))(hb:base<=g):OwnR kSt W base (I (J ⟨g,0,Z⟩) 1 1) 1 (jG [(x,y)]):=
 ⟨by simp[jG,kSt],.inr ⟨g,1,_,rfl,hb,h,Ld _,by unfold maxLen;omega,by simp[kSt],by simp[jG,kSt]⟩⟩
end
theorem set2{w:Ba}{g:Nat}{x0 x1:Au}{t:TypeId}(h:w.heap[g]?=J (Ag #[x0,x1] t (0,0)))(y0 y1:Au) :
  ∃W,((w.setCell ⟨g,0,Z⟩ y0).setCell ⟨g,1,Z⟩ y1)=W/\W.heap[g]?=J (Ag #[y0,y1] t (0,0))/\(∀k,k≠g->W.heap[k]?=w.heap[k]?)/\∀B,B<=g->Am B w W:=by
 refine⟨_,rfl,?_,fun k hk=>?_,fun B hB=>?_⟩
 . have a1:=Lk w g 0 _ _ y0 h
   exact Lk _ g 1 _ _ y1 a1
 . exact(Le _ ⟨g,1,Z⟩ y1 k hk).trans (Le _ ⟨g,0,Z⟩ y0 k hk)
 exact((Ll B w).setCell (by show B<=g;omega) y0).setCell (by show B<=g;omega) y1
theorem best_ok{f:List Int}{n:Nat}{L:List Nat}{ps:List Nat}{cls:Nat->List Int}(hl:∀p∈ps,(cls p).length=n)(hp:ps.Pairwise (·<·))(hf:Far n (qB ps cls) (fun i=>i∈L) (fun i=>f.getD i 0)){i d:Nat}(hi:i<n)(hd:f.getD i 0=(d:Int)+1) :
  (yO f (d:Int) n (zU ps cls i)).1<n/\f.getD (yO f (d:Int) n (zU ps cls i)).1 0=(d:Int):=by
 obtain⟨k,hk,ha,he⟩:=hf.step i hi (by show 0<f.getD i 0;omega);have sY:f.getD k 0=(d:Int):=by have:f.getD k 0=f.getD i 0-1:=he;omega
 obtain⟨p,DM,e⟩:=ha;have hm:(k,p)∈zU ps cls i:=(kB hl).2 ⟨hk,DM,e.symm⟩;obtain⟨h1,h2⟩:=gh f (d:Int) n (zU ps cls i) (n,0) (nbr_asc hp i);have h3:=h1 _ hm sY;change (yO f (d:Int) n (zU ps cls i)).1<=k at h3;refine⟨by omega,?_⟩;rcases h2 with e2 | ⟨_,e2,_⟩
 . exfalso
   have e3:yO f (d:Int) n (zU ps cls i)=(n,0):=e2;rw[e3] at h3;simp at h3;omega
 exact e2
theorem QD(s:Sy)(hs:LowS s)(hf:yU s.p)(g pt:Int)(set:List Bool)(A SV AV AX AB:Bb)(kc ks kv kx kb:Nat)(w:Ba)(hS:SyAt w w.heap.size A SV AV AX s)(bG:BAt w w.heap.size AB set)(dR:set.length<=1000000) :
  An Al 29 #[.agg (s.vs_ A kc SV ks AV kv AX kx),O U g,O U pt,I AB set.length kb] w (RetTA (jM s g pt set) w):=by
 obtain⟨w1,ab,d0,d1,av,hB⟩:=yI w (s.vs_ A kc SV ks AV kv AX kx) #[O U pt] 39 3;have HR:=zH (jU s hs hf g set A SV AV AX AB kc ks kv kx kb w1 (hS.up hB) ((bG.keep hB).more hB.size) dR);have HF:=zH (fun h=>xC (s:=s) (g:=g) hf h);have HG:=zH (fun h=>xz (s:=s) (g:=g) (set:=set) h);have be:As (zw s g set≠0->jM s g pt set=(([],Aw),zw s g set)):=fun h=>Lj h
 have ai:As (zw s g set=0->pt<0\/(ptn s:Int)<=pt->jM s g pt set=(([],Aw),6)):=fun h h1=>by unfold jM;rw[Lg (by simpa using h),Lj h1]
 have aj:As (∀(q:Nat) (f:List Int),zw s g set=0->q<ptn s->pt=(q:Int)->f.length=ptn s->Far (ptn s) (qB (psG s g) (ya s)) (fun i=>i∈yv set) (fun i=>f.getD i 0)->f.getD q 0<0->jM s g pt set=(([],Aw),0)):=fun q f h h1 h2 h3 h4 h5=>by
  subst h2;unfold jM xN;rw[Lg (by simpa using h),Lg (by omega),uQ h3 h4,Lm,Lj h5]
 have ax:As (∀(q:Nat) (f:List Int),zw s g set=0->q<ptn s->pt=(q:Int)->f.length=ptn s->Far (ptn s) (qB (psG s g) (ya s)) (fun i=>i∈yv set) (fun i=>f.getD i 0)->¬f.getD q 0<0->jM s g pt set=((xu f (ptn s) (zU (psG s g) (ya s)) q,Av),0)):=fun q f h h1 h2 h3 h4 h5=>by
  subst h2;unfold jM xN;rw[Lg (by simpa using h),Lg (by omega),uQ h3 h4,Lm,Lg h5]
 unfold YO stC xx at HR;unfold Sy.vs_ at ab d0 HR ⊢;obtain⟨r,hr⟩:=Kj (zw s g set);rw[hr] at HR HG be ai aj ax;obtain⟨R,de⟩:=Kj (jM s g pt set);rw[de] at be ai aj ax ⊢;have ag:=zH ab;have HB:=zH hB;have cy:=zH d1
 have lT:=zH (fun (n i:Nat) (hn:n<=100000) (hi:i<n) (Ap:Bb) (kp bC bM:Nat) (ps:List Nat) (rF:ps.length<=100) (cls:Nat->List Int) (B bx bp:Nat) (X:Ba) (hx:X.heap[bx]?=J (Ag #[O U (n:Int),I Ap ps.length kp,.map (J bC),.map (J bM)] 101 (0,0)))
  (hp:X.heap[bp]?=J (Ag #[O U (i:Int)] 3 (0,0))) (hS:StAt X B Ap bC bM n ps cls) (hB:B<=X.heap.size)=>Xo n i hn hi Ap kp bC bM ps rF cls B bx bp X hx hp hS hB)
 have oF:=zH (fun (n:Nat) (Ap:Bb) (m kp bC bM:Nat) (i:Int) (X:Ba)=>Jc n Ap m kp bC bM i X);unfold stC at oF;obtain⟨p0,p1,p2,p3,p4,p5,p6,p7,p8,p9⟩:=zM d0;have q1:=zh d1 0 rfl;clear ab d0 d1 hB hS hr de hs hf bG;refine yg func29 rfl ?_;simp only[ntmps29,List.size_toArray,List.length_cons,List.length_nil,Nat.reduceAdd,Nat.reduceSub,Array.replicate_succ,Array.replicate_zero,List.push_toArray,List.append_toArray,List.nil_append,List.cons_append];go_wp2_with fail;rw[ag.out];go_wp2_with fail;refine HR.out.mono ?_;rintro e w2 ⟨ae,(⟨az,rfl⟩ | ⟨h0,Ap,kp,bC,bM,AO,cO,rfl,Ei⟩)⟩
 . have au:=zH (HB.out.trans (ae.mono (by omega)))
   have hR:As (R=(([],Aw),r)):=be.out az;have e0:(r != 0)=Av:=by simpa using az
   clear p0 p1 p2 p3 p4 p5 p6 p7 p8 p9 q1 ae HR ag HF be ai aj ax az HG lT oF cy;go_wp2_with fail;obtain⟨w3,bL,d3,cz,aG⟩:=zn w2 #[O U 0,I Z 0 0,.map Z,.map Z] 101;rw[bL];go_wp2_with fail;refine yo (Marks.nil w.heap.size w3) (v:=.tuple #[I Z 0 0,Ah Aw,O U r]) (fun W=>by kernel_rfl) ?_;intro X hX;rw[hR.out];exact⟨Z,0,rfl,Ld _,Ni _,TAt.nil _ _ _,(Lc au.out aG).trans hX.below⟩
 have au:=zH (HB.out.trans (ae.mono (by omega)));have GE:=zH Ei;have te:As (pt<0\/(ptn s:Int)<=pt->R=(([],Aw),6)):=ai.out h0;have fd:=zH (fun (q:Nat) (f:List Int)=>aj.out q f h0);have BQ:=zH (fun (q:Nat) (f:List Int)=>ax.out q f h0);obtain⟨g1,g2⟩:=HG.out h0;obtain⟨f1,f2,f3⟩:=HF.out g1;have tp:=zH (fun (X:Ba) (hX:StAt X X.heap.size Ap bC bM (ptn s) (psG s g) (ya s)) (hI:IAt X X.heap.size AO (yr (yv set)))=>JF (ptn s) f1 (by omega) Ap kp bC bM (psG s g) (by omega) (ya s) (yv set) (offE_lt g2) (by have:=Yg set;omega) AO cO X hX hI);have lU:As (∀p∈psG s g,(ya s p).length=ptn s):=fun p _=>uT s p
 have HAS:As ((psG s g).Pairwise (·<·)):=psG_asc s g;unfold stC at tp;subst h0;have d1:=Lb ae (by omega:w.heap.size+1<w1.heap.size) cy.out;have ff:=zH d1;obtain⟨PN,iL⟩:=Kj (ptn s);obtain⟨PS,lh⟩:=Kj (psG s g);obtain⟨cm,ik⟩:=Kj (ya s);obtain⟨OL,Ir⟩:=Kj (yv set);rw[iL,lh,ik,Ir] at fd BQ tp GE;rw[iL,lh,ik] at lU;rw[iL] at te f1 f2;rw[lh] at f3 HAS;have lQ:=zH iL;have rT:=zH lh;have ni:=zH Ir;have CS:=ae.size;have Hh:=zH ae;clear p0 p1 p2 p3 p4 p5 p6 p7 p8 p9 q1 ae HR ag HF be ai aj ax iL lh ik Ir g1 g2 HG Ei d1 cy;go_upto_region 2 with fail
 rw[lQ.out,rT.out,ni.out];obtain⟨w3,bL,d3,cz,aG⟩:=zn w2 #[O U (PN:Int),I Ap PS.length kp,.map (J bC),.map (J bM)] 101;rw[bL];obtain⟨x0,x1,x2,x3,_⟩:=Ka d3;have Gt:=zH d3;have sJ:=zH aG;have d1:=La aG ff.out;have od:=zH d1;have aC:=zH (Lc au.out aG);have q1:=zh d1 0 rfl;clear bL d3 aG ff d1 au lQ rT ni
 by_cases fE:pt<0\/(PN:Int)<=pt
 case pos=>
  have hR:As (R=(([],Aw),6)):=te.out fE;clear te fd BQ tp lT oF
  by_cases h1:pt<0
  . go_wp2_with fail
    refine yo (Marks.nil w.heap.size w3) (v:=.tuple #[I Z 0 0,Ah Aw,O U 6]) (fun W=>by kernel_rfl) ?_;intro X hX;rw[hR.out];exact⟨Z,0,rfl,Ld _,Ni _,TAt.nil _ _ _,aC.out.trans hX.below⟩
  have h2:(PN:Int)<=pt:=by omega
  go_wp2_with fail;refine yo (Marks.nil w.heap.size w3) (v:=.tuple #[I Z 0 0,Ah Aw,O U 6]) (fun W=>by kernel_rfl) ?_;intro X hX;rw[hR.out];exact⟨Z,0,rfl,Ld _,Ni _,TAt.nil _ _ _,aC.out.trans hX.below⟩
 case neg=>
 obtain⟨q0,sS⟩:=Lp (show 0<=pt by omega);have h1:¬pt<0:=by omega
 have h2:¬(PN:Int)<=pt:=by omega
 have mZ:q0<PN:=by omega
 have GD:As (StAt w3 w3.heap.size Ap bC bM PN PS cm/\IAt w3 w3.heap.size AO (yr OL)):=by
  obtain⟨a1,a2⟩:=GE.out w3 fun k _ hk=>sJ.out.block k hk
  exact⟨a1.more sJ.out.size,a2.more sJ.out.size⟩
 clear te fE;go_wp2_with fail;refine(tp.out w3 GD.out.1 GD.out.2).mono ?_;rintro e w4 ⟨f,g4,rfl,sk,l7,CJ,mw,aD⟩;go_upto_region 7 with fail
 obtain⟨w5,dY,d5,cY,ea⟩:=zn w4 #[I (J ⟨g4,0,Z⟩) PN PN] 50;rw[dY];have HB45:=zH ea;have HB34:=zH aD;have Dt:=zH (Lc aD ea);have cF:=zH (show RowAt w5 g4 f from Lb ea l7.lt l7);have aT:=zH (Lc aC.out Dt.out);have Bv:=zH d5;have d1:=La Dt.out od.out;have q1:w5.cell? ⟨w.heap.size+1,0,Z⟩=J (O U (q0:Int)):=by rw[<-sS];exact zh d1 0 rfl
 have z0:=zh d5 0 rfl;have y0:=cF.out.cell q0 (by omega);rw[<-ye (by omega:q0<f.length) 0] at y0;have Sm:=zH CJ;have Br:=zH mw;have Hd:=zH d1;have C5:As (f.getD q0 0<0->R=(([],Aw),0)):=fd.out q0 f mZ sS CJ mw;have C4:As (¬f.getD q0 0<0->R=((xu f PN (zU PS cm) q0,Av),0)):=fun h=>BQ.out q0 f mZ sS CJ mw (by omega)
 obtain⟨d,hd⟩:=Kj (f.getD q0 0);rw[hd] at y0 C5 C4;have VF:(0:Int)<=(q0:Int):=by omega
 have VE:(q0:Int)<(PN:Int):=by omega
 have lq:=zH hd;have EC:=zH sS;have hg4l:=cF.out.lt
 have nf:As (w.heap.size+2<=w1.heap.size/\w3.heap.size=w2.heap.size+1/\w5.heap.size=w4.heap.size+1/\w3.heap.size<=w4.heap.size/\w1.heap.size<=w2.heap.size/\w3.heap.size<=g4):=by
  have:=HB34.out.size;exact⟨av,cz,cY,by omega,CS,sk⟩
 clear dY d5 ea aD l7 CJ mw d1 fd BQ hd sS tp x0 x1 x2 x3 h1 h2 GD od av cz cY CS sk
 by_cases nH:d<0
 case pos=>
  have hR:As (R=(([],Aw),0)):=C5.out nH;clear C5 C4 lT oF;go_wp2_with fail;refine yo (Marks.nil w.heap.size w5) (v:=.tuple #[I Z 0 0,Ah Aw,O U 0]) (fun W=>by kernel_rfl) ?_;intro X hX;rw[hR.out];exact⟨Z,0,rfl,Ld _,Ni _,TAt.nil _ _ _,aT.out.trans hX.below⟩
 case neg=>
 have hR:As (R=((xu f PN (zU PS cm) q0,Av),0)):=C4.out nH;clear C5 C4;go_wp2_with fail;obtain⟨m0,oo⟩:=Lp (show 0<=d by omega);have Du:As (w5.heap[w2.heap.size]?=J (Ag #[O U (PN:Int),I Ap PS.length kp,.map (J bC),.map (J bM)] 101 (0,0))):=La Dt.out Gt.out
 have O7:As (∀W,(∀k,w.heap.size+2<=k->k<w5.heap.size->W.heap[k]?=w5.heap[k]?)->StAt W w5.heap.size Ap bC bM PN PS cm):=fun W h=>by
  obtain⟨a1,a2,a3,a4,a5,a6⟩:=nf.out;refine(GE.out W fun k h1 h2=>?_).1.more (by omega);exact(h k (by omega) (by omega)).trans ((Dt.out.block k (by omega)).trans (sJ.out.block k h2))
 have O1:As (WtIn w.heap.size w5.heap.size w5 q0 w (w5.alloc (Ag #[O U (q0:Int),O U (-1)] 106))):=by
  refine⟨aT.out.trans ((zW w5 _).mono aT.out.size),?_,fun k _ hk=>Nj w5 _ k hk,by simp⟩;refine(Nj w5 _ _ (zj Hd.out)).trans ?_;rw[<-EC.out];exact Hd.out
 have UF:As (OwnR kSt (w5.alloc (Ag #[O U (q0:Int),O U (-1)] 106)) w5.heap.size (I (J ⟨w5.heap.size,0,Z⟩) 1 1) 1 (jG [((q0:Int),-1)])):=ownR_one (zx w5 _) (Ld _)
 have Dk:As ([((q0:Int),(-1:Int))]++gI (yZ f PN (zU PS cm) m0 q0)=xu f PN (zU PS cm) q0):=by
  unfold xu;rw[lq.out,oo];rfl
 have hdm:f.getD q0 0=(m0:Int):=lq.out.trans oo
 have hmP:m0<=PN:=by
  have h9:=Qt (f:=fun i=>f.getD i 0) Br.out.step mZ;change f.getD q0 0<(PN:Int) at h9;omega
 have HTOT:As ((xu f PN (zU PS cm) q0).length<=PN+1):=by
  unfold xu gI;rw[lq.out,oo,Lx,LG,vh,Lm];show _<=_;omega
 refine wp_loop_ghost (fun (m:Nat) (a':Act) (w':Ba)=>∃(ds:List Deferred) (v:Au) (p:Nat) (l:List (Int×Int)) (u16 Kz Ky Kx Dz Dy Dx Kw Kv Ku Kt Ks Kr Kq Ko Kn Km Kl Kk J' I' u38 u39 u40 u41 I9 I8 u44 u45 u46 u47 u48 u49 u50 u51 u52 u53 u54 u55 u56 u57 u58 u79 u80 u81 u82 u83 u84:Au),(p<PN/\As (f.getD p 0=(m:Int))/\As (WtIn w.heap.size w5.heap.size w5 p w w')/\As (OwnR kSt w' w5.heap.size v l.length (jG l))/\As (l++gI (yZ f PN (zU PS cm) m p)=xu f PN (zU PS cm) q0)/\As (Marks w.heap.size ds w'))/\a'={ tmps:=#[Ai #[O U s.p.t.n,O U s.p.t.ins,O U s.p.t.outs,I A s.p.t.cases.length kc,O U s.p.a.n,I SV s.p.a.sts.length ks,O U s.p.k,O U s.n,I AV s.vs.length kv,I AX s.xs.length kx],O U g,O U (q0:Int),I AB set.length kb,Aj (J ⟨w.heap.size,0,Z⟩),undef,Aj (J ⟨w.heap.size+1,0,Z⟩),undef,I Z 0 0,Ah Aw,O U 0,Aj (J ⟨w2.heap.size,0,Z⟩),I AO OL.length cO,O U 0,Aj (J ⟨w4.heap.size,0,Z⟩),v,u16,undef,Kz,Ky,Kx,Dz,Dy,Dx,Kw,Kv,Ku,Kt,Ks,Kr,Kq,Ko,Kn,Km,Kl,Kk,J',I',u38,u39,u40,u41,I9,I8,u44,u45,u46,u47,u48,u49,u50,u51,u52,u53,u54,u55,u56,u57,u58,undef,undef,undef,undef,undef,undef,undef,undef,undef,undef,undef,undef,undef,undef,undef,undef,undef,undef,undef,undef,u79,u80,u81,u82,u83,u84,undef],defers:=ds }) m0 ?_ ?_
 . exact⟨[],_,q0,[((q0:Int),-1)],_,_,_,_,_,_,_,_,_,_,_,_,_,_,_,_,_,_,_,_,_,_,_,_,_,_,_,_,_,_,_,_,_,_,_,_,_,_,_,_,_,_,_,_,_,_,_,_,⟨mZ,hdm,O1,UF,Dk,Marks.nil _ _⟩,rfl⟩
 clear O1 UF Dk hdm hmP oo lq nH y0 z0 q1 VF VE mZ Hd EC;rintro m a' W ⟨ds,v,p,l,u16,Kz,Ky,Kx,Dz,Dy,Dx,Kw,Kv,Ku,Kt,Ks,Kr,Kq,Ko,Kn,Km,Kl,Kk,J',I',u38,u39,u40,u41,I9,I8,u44,u45,u46,u47,u48,u49,u50,u51,u52,u53,u54,u55,u56,u57,u58,u79,u80,u81,u82,u83,u84,⟨nx,HM,HW,HO,HL,MK⟩,rfl⟩;obtain⟨AQ,cq,rfl,cG,Ia,_⟩:=HO.out.form;have d1:=HW.out.pt;obtain⟨a1,a2,a3,a4,a5,a6⟩:=nf.out;have Eq:=(HW.out.old w4.heap.size (by omega) (by omega)).trans Bv.out;have Gn:=(HW.out.old w2.heap.size (by omega) (by omega)).trans Du.out;have ah:RowAt W g4 f:=(HW.out.old g4 (by omega) (by omega)).trans cF.out;have q1:=zh d1 0 rfl;have z0:=zh Eq 0 rfl;have BG:p<f.length:=by rw[Sm.out];exact nx
 have y0:=ah.cell p BG;rw[<-ye BG 0,HM.out] at y0;have iB:(0:Int)<=(p:Int):=by omega
 have iS:(p:Int)<(PN:Int):=by omega
 have ay:l.length<=PN+1:=by
  have h1:=HTOT.out;rw[<-HL.out,Lr] at h1;omega
 cases m with
 | zero=>
  have T8:l=xu f PN (zU PS cm) q0:=by
   have:=HL.out;simpa[yZ,gI] using this
  have cX:=zH T8;clear T8 lT oF O7 Eq Gn ah BG d1;go_wp2_with fail;refine yo MK.out (v:=.tuple #[I AQ l.length cq,Ah Av,O U 0]) (fun W=>by kernel_rfl) ?_;intro X hX;rw[hR.out,<-cX.out];refine⟨AQ,cq,rfl,cG,Ia,?_,HW.out.below.trans hX.below⟩;refine TAt.of_own (K:=kSt) (base:=w5.heap.size) (n:=l.length) (c:=cq) (ownR_cells HO.out fun k o h1 h2=>hX.same _ _ h1 h2) rfl
 | succ m=>
  have y0:W.cell? ⟨g4,p,Z⟩=J (O U ((m:Int)+1)):=y0;have O0:=zH Gn;have AP:=zH d1;have bU:=zH (best_ok lU.out HAS.out Br.out nx HM.out);have hWs:=HW.out.size;have c11:=zh Gn 0 rfl;clear Eq Gn ah d1 cG Ia BG;go_upto_region 12 with fail
  obtain⟨W1,dj,d16,Lt,su⟩:=zn W #[O U (PN:Int),O U 0] 106;rw[dj];have Gn:=La su O0.out;have d1:=La su AP.out;obtain⟨x0,x1,x2,x3,_⟩:=Ka Gn;have r1:W1.cell? ⟨w.heap.size+1,0,Z⟩=J (O U (p:Int)):=zh d1 0 rfl;have ag:=zH (HW.out.on su (by omega));have Cc:=zH (HO.out.below su (Ld _));have UB:As (∀z,(I AQ l.length cq).ownBlock=J z->w5.heap.size<=z/\z<W.heap.size):=HO.out.lt;have ST:=zH d16;have OW:As (Marks w.heap.size ds W1):=xQ (w:=W) MK.out fun y hy=>(su.block y (Ln.1 hy).1).trans hy
  clear dj d16 su Gn d1 q1 z0 y0 HW HO MK O0 AP c11;go_wp2_with fail;refine(oF.out PN Ap PS.length kp bC bM (p:Int) W1).mono ?_;rintro e W3 ⟨rfl,ii⟩;obtain⟨V3,y',k0,k1,cz,aG⟩:=yI W1 #[O U (PN:Int),I Ap PS.length kp,.map (J bC),.map (J bM)] #[O U (p:Int)] 101 3;rw[ii] at y';subst y';have K8:W3.heap.size=W.heap.size+1+2:=by rw[<-ii];simp;omega
  rw[Lt] at k0 k1 ⊢;have fy:=zH (ag.out.on aG (by omega));have mO:=zH (Cc.out.below aG (Ld _));have od:=zH (La aG ST.out);have Gs:As (Marks w.heap.size ds W3):=xQ (w:=W1) OW.out fun y hy=>(aG.block y (Ln.1 hy).1).trans hy
  have dG:=zH (lT.out PN p (by omega) nx Ap kp bC bM PS (by omega) cm w5.heap.size (W.heap.size+1) (W.heap.size+1+1) W3 k0 k1 (O7.out W3 fy.out.old) fy.out.size);clear ii k0 k1 cz aG ST OW ag Cc x0 x1 x2 x3 r1 lT oF Lt;go_wp2_with fail
  refine qp rfl (NA func81 (by kernel_rfl) rfl) dG.out (by rintro x (h | rfl | rfl)<;>omega) (fun _=>rfl)
   (fun (pre:List { x:Nat×Nat // x∈zU PS cm p }) (X:Ba)=>WtIn w.heap.size w5.heap.size w5 p w X/\OwnR kSt X w5.heap.size (I AQ l.length cq) l.length (jG l)/\X.heap[W.heap.size]?=J (Ag #[O U (((yO f (m:Int) PN (pre.map (·.1))).1:Nat):Int),O U (((yO f (m:Int) PN (pre.map (·.1))).2:Nat):Int)] 106 (0,0))/\W3.heap.size<=X.heap.size/\(∀y:Nat,W3.heap[y]?=J (Obj.deferred (J []))->X.heap[y]?=J (Obj.deferred (J []))))
   (fun _ _ _=>False)
   ?hI (fun _ _ _ _ _ h _ _=>h)
   ⟨fy.out,mO.out,od.out,Ld _,fun _ h=>h⟩ (fun x=>#[O U x.1,O U x.2]) 106 ?a1 ?assign ?body ?done ?stop (fun _ _ h=>h.2.2.2.1)
  case hI=>
   rintro pre X X' row ⟨k1,k2,k3,k4,k5⟩ hg hr;refine⟨k1.turn hg (fun r e=>by have:=(hr r e).1;omega) (by omega),vx k2 fun z e=>?_,(LN hg (fun r e=>(hr r e).2) k3 rfl).trans k3,Lu k4 hg.size,fun y hy=>?_⟩
   . have h2:=k2.lt z e
     exact hg.block z h2.2 (fun e2=>by have h3:=(hr z e2.symm).1;have h4:=(UB.out z e).2;omega)
   . have EW:=k5 y hy
     have lw:=(Ln.1 hy).1;exact(hg.block y (by omega) (fun e=>by have:=(hr y e.symm).1;omega)).trans EW
  case assign=>
   intro l9 pre x X K' hI hK;obtain⟨g',fO⟩:∃g',g'=X.heap.size:=⟨_,rfl⟩;obtain⟨k1,k2,k3,k4,k5⟩:=hI;have HK:=zH (hK g' fO ⟨k1.on (zW X _) (by omega),k2.below (zW X _) (Ld _),yD k3 _,by simp;omega,fun y hy=>(Nj X _ y (Ln.1 (k5 y hy)).1).trans (k5 y hy)⟩);have HG:=zH fO;clear hK fO k1 k2 k3 k4 k5;gi_wp2;rw[<-HG.out];exact HK.out
  case body=>
   rintro l9 pre x g9 W4 WH dK ⟨k1,k2,k3,k4,k5⟩ hlt;obtain⟨t,ht⟩:=Kj x.1.1;obtain⟨c,hc⟩:=Kj x.1.2;obtain⟨sV,_,_⟩:=(kB lU.out).1 x.2;rw[ht] at sV dK;rw[hc] at dK
   have aO:yO f (m:Int) PN ((pre++[x]).map (·.1))=qi f (m:Int) (yO f (m:Int) PN (pre.map (·.1))) (t,c):=by
    rw[LF,L4,Nd,bestE_snoc,show x.1=(t,c) from Prod.ext ht hc]
   have Y':(yO f (m:Int) PN (pre.map (·.1))).1<=PN:=Qx f _ PN _ _;obtain⟨bb,bj⟩:=Kj (yO f (m:Int) PN (pre.map (·.1)));rw[bj] at aO k3 Y';have Eq:=(k1.old w4.heap.size (by omega) (by omega)).trans Bv.out;have ah:RowAt W4 g4 f:=(k1.old g4 (by omega) (by omega)).trans cF.out;have KW:t<f.length:=by rw[Sm.out];exact sV
   have BG:p<f.length:=by rw[Sm.out];exact nx
   have u0:W4.drew.cell? ⟨w4.heap.size,0,Z⟩=J (I (J ⟨g4,0,Z⟩) PN PN):=zh Eq 0 rfl;have u1:W4.drew.cell? ⟨g9,0,Z⟩=J (O U (t:Int)):=zh dK 0 rfl;have u2:W4.drew.cell? ⟨g4,t,Z⟩=J (O U (f.getD t 0)):=by rw[ye KW];exact ah.cell t KW
   have u3:W4.drew.cell? ⟨w.heap.size+1,0,Z⟩=J (O U (p:Int)):=zh k1.pt 0 rfl
   have u4:W4.drew.cell? ⟨g4,p,Z⟩=J (O U ((m:Int)+1)):=by
    have:=ah.cell p BG;rw[<-ye BG 0,HM.out] at this;exact this
   have u5:W4.drew.cell? ⟨W.heap.size,0,Z⟩=J (O U (bb.1:Int)):=zh k3 0 rfl
   have eK:IntKind.i64.wrap (m:Int)=(m:Int):=by
    have h9:=Qt (f:=fun i=>f.getD i 0) Br.out.step nx;change f.getD p 0<(PN:Int) at h9;rw[HM.out] at h9;rw[Lo];omega
   have FL:As (∀b:Nat×Nat,qi f (m:Int) b (t,c)=if f.getD t 0=(m:Int)/\t<b.1 then (t,c) else b):=fun _=>rfl
   obtain⟨ft,CN⟩:=Kj (f.getD t 0);rw[CN] at u2 FL;have BF:(0:Int)<=(t:Int):=by omega
   have rz:(t:Int)<(PN:Int):=by omega
   have tu:=zH aO;have K1:=zH k1;have K2:=zH k2;have K3:=zH k3;have K5:=zH k5;have K4:=zH k4;have HGB:=zH dK;have nJ:As (Am w5.heap.size W4 W4.drew):=(Ll _ W4).drew
   by_cases e1:ft=(m:Int)
   . subst e1
     by_cases e2:t<bb.1
     . have eP:As (yO f (m:Int) PN ((pre++[x]).map (·.1))=(t,c)):=tu.out.trans ((FL.out bb).trans (Lj ⟨rfl,e2⟩))
       have e3:(t:Int)<(bb.1:Int):=by omega
       have u6:W4.drew.cell? ⟨g9,1,Z⟩=J (O U (c:Int)):=zh dK 1 rfl;have u7:W4.drew.cell? ⟨W.heap.size,1,Z⟩=J (O U (bb.2:Int)):=zh k3 1 rfl;have f5:W4.drew.frozen? ⟨W.heap.size,0,Z⟩=Aw:=zi k3 0;have f7:W4.drew.frozen? ⟨W.heap.size,1,Z⟩=Aw:=zi k3 1;have l5:W.heap.size<W4.drew.heap.size:=zj k3;clear k1 k2 k3 k5 dK aO FL Eq ah KW BG CN tu hlt dG bU sV;gi_wp2_with fail;refine zS [(0,Av),(1,Av),(2,Av),(3,Av),(4,Av),(5,Av),(6,Av),(7,Av),(8,Av),(9,Av),(10,Av),(11,Av),(12,Av),(13,Av),(14,Av),(15,Av),(16,Av),(17,Av)] (fun X=>X=W4.drew) (by kernel_rfl) (by kernel_rfl) (by kernel_rfl) (by rintro⟨_,_,h⟩;exact h) rfl ?_
       repeat
        apply zk rfl
        . rintro K' aa X rfl
          go_simp;exact aa
       refine zz ?_;have K3d:As (W4.drew.heap[W.heap.size]?=J (Ag #[O U (bb.1:Int),O U (bb.2:Int)] 106 (0,0))):=K3.out;have K1d:=zH (K1.out.free nJ.out (by omega));have K2d:As (OwnR kSt W4.drew w5.heap.size (I AQ l.length cq) l.length (jG l)):=K2.out;have K5d:As (∀y:Nat,W3.heap[y]?=J (Obj.deferred (J []))->W4.drew.heap[y]?=J (Obj.deferred (J []))):=K5.out;have s5:As (W4.drew.heap.size=W4.heap.size):=rfl;have o5:As (∀k:Nat,W4.drew.heap[k]?=W4.heap[k]?):=fun _=>rfl
       obtain⟨W5,dQ⟩:=Kj W4.drew;rw[dQ] at u1 u5 u6 u7 f5 f7 l5 K3d K1d K2d K5d s5 o5 ⊢;clear dQ u0 u2 u3 u4 K1 K2 K5 nJ;gi_wp2_with fail;obtain⟨Wf,hWf,r1,r2,r3⟩:=set2 (w:=W5) (g:=W.heap.size) K3d.out (O U (t:Int)) (O U (c:Int));rw[hWf];have hsf:Wf.heap.size=W4.heap.size:=by rw[<-hWf,<-s5.out];simp[World.setCell]
       refine⟨⟨by omega,fun k o _ hk ho=>(r2 k (by rintro rfl;rw[K3.out] at hk;cases hk;cases ho)).trans ((o5.out k).trans hk)⟩,⟨by omega,fun k hk hl=>(r2 k (by
        have en:k<w5.heap.size\/k=W.heap.size+1\/k=W.heap.size+1+1:=hk
        omega)).trans (o5.out k)⟩,K1d.out.free (r3 _ (by omega)) (by omega),vx K2d.out fun z e=>r2 z (by have:=(UB.out z e).2;omega),?_,by omega,fun y hy=>(r2 y (by rintro rfl;have h2:=K5d.out _ hy;rw[K3d.out] at h2;cases h2)).trans (K5d.out y hy)⟩
       rw[eP.out];exact r1
     . have eP:As (yO f (m:Int) PN ((pre++[x]).map (·.1))=bb):=tu.out.trans ((FL.out bb).trans (Lg (fun h=>e2 h.2)))
       have e3:¬(t:Int)<(bb.1:Int):=by omega
       clear k1 k2 k3 k5 dK aO FL Eq ah KW BG CN tu hlt dG bU sV;gi_wp2_with fail;refine zS [(0,Av),(1,Av),(2,Av),(3,Av),(4,Av),(5,Av),(6,Av),(7,Av),(8,Av),(9,Av),(10,Av),(11,Av),(12,Av),(13,Av),(14,Av),(15,Av),(16,Av),(17,Av)] (fun X=>X=W4.drew) (by kernel_rfl) (by kernel_rfl) (by kernel_rfl) (by rintro⟨_,_,h⟩;exact h) rfl ?_
       repeat
        apply zk rfl
        . rintro K' aa X rfl
          go_simp;exact aa
       refine zz ?_;gi_wp2_with fail;refine⟨⟨Ld _,fun _ _ _ h _=>h⟩,⟨Ld _,fun _ _ _=>rfl⟩,K1.out.free nJ.out (by omega),K2.out,?_,K4.out,K5.out⟩;rw[eP.out];exact K3.out
   . have eP:As (yO f (m:Int) PN ((pre++[x]).map (·.1))=bb):=tu.out.trans ((FL.out bb).trans (Lg (fun h=>e1 h.1)))
     have e3:(ft==(m:Int))=Aw:=by simpa using e1
     clear k1 k2 k3 k5 dK aO FL Eq ah KW BG CN tu hlt dG bU sV;gi_wp2_with fail;refine zS [(0,Av),(1,Av),(2,Av),(3,Av),(4,Av),(5,Av),(6,Av),(7,Av),(8,Av),(9,Av),(10,Av),(11,Av),(12,Av),(13,Av),(14,Av),(15,Av),(16,Av),(17,Av)] (fun X=>X=W4.drew) (by kernel_rfl) (by kernel_rfl) (by kernel_rfl) (by rintro⟨_,_,h⟩;exact h) rfl ?_
     repeat
      apply zk rfl
      . rintro K' aa X rfl
        go_simp;exact aa
     refine zz ?_;gi_wp2_with fail;refine⟨⟨Ld _,fun _ _ _ h _=>h⟩,⟨Ld _,fun _ _ _=>rfl⟩,K1.out.free nJ.out (by omega),K2.out,?_,K4.out,K5.out⟩;rw[eP.out];exact K3.out
  case done=>
   rintro D ys W4 hD eJ ⟨k1,k2,k3,k4,k5⟩ eq;rw[eJ] at k3;obtain⟨Nv,fu⟩:=bU.out;have Ub:=HL.out;have ns:yZ f PN (zU PS cm) (m+1) p=yO f (m:Int) PN (zU PS cm p)::yZ f PN (zU PS cm) m (yO f (m:Int) PN (zU PS cm p)).1:=rfl;rw[ns] at Ub;obtain⟨bb,bj⟩:=Kj (yO f (m:Int) PN (zU PS cm p));rw[bj] at k3 Nv fu Ub
   have mn:As ((l++[((bb.1:Int),(bb.2:Int))])++gI (yZ f PN (zU PS cm) m bb.1)=xu f PN (zU PS cm) q0):=by
    show _=_;rw[<-Ub,L6];rfl
   have Ut:As (Marks w.heap.size ({ target:=.collected D,args:=#[] }::ds) W4):=Marks.cons Gs.out (fun y hy=>k5 y hy) fy.out.below.size hD eq;have K1:=zH k1;have K2:=zH k2;have K3:=zH k3;have ip:=zH fu;have fP:(0:Int)<=(bb.1:Int):=by omega
   clear k1 k2 k3 k5 eJ Ub ns bj bU dG eq fu HL Gs
   try dsimp only
   go_wp2_with fail;refine zr [(0,Av),(1,Av),(4,Av),(5,Av),(2,Aw),(3,Aw),(6,Aw),(7,Aw)] (fun X=>X.heap[W.heap.size]?=J (Ag #[O U (bb.1:Int),O U (bb.2:Int)] 106 (0,0))) (by kernel_rfl) (by kernel_rfl) K3.out ?_
   repeat
    apply zk rfl
    . rintro K' aa X u0
      have u1:X.cell? ⟨W.heap.size,0,Z⟩=J (O U (bb.1:Int)):=zh u0 0 rfl;have u2:X.cell? ⟨W.heap.size,1,Z⟩=J (O U (bb.2:Int)):=zh u0 1 rfl;clear u0;go_simp;exact aa
   have oA:=zj K3.out;refine zu rfl ?_;intro K' aa;go_simp;obtain⟨V1,hV1,e1,ce,Cu⟩:=Qa W4 #[O U (bb.1:Int),O U (bb.2:Int)] 106;rw[hV1];have n1:=Lb Cu oA K3.out;refine aa _ _ n1 ?_;clear aa K' hV1;refine zu rfl ?_;intro K' aa;rw[Lj (by rfl)];have GN:=zH (K2.out.below Cu (Ld _));refine qP kSt_ok (.tmp 79) (.tmp 81) (by rfl) w5.heap.size (I AQ l.length cq) l.length (jG l) (by rfl) GN.out W4.heap.size #[O U (bb.1:Int),O U (bb.2:Int)] (by rfl) e1 rfl (by simp[Value.oneCell']) (by omega) (by omega) _ rfl ?_;intro g' ap V2 hr hg aI pP;have n2:=(hg.block W.heap.size (by omega) (fun e=>by have:=(UB.out _ e.symm).2;omega)).trans n1;refine aa _ _ n2 ?_;clear aa K';refine zu rfl ?_;intro K' aa;go_simp;refine aa _ _ n2 ?_;clear aa K';have hBV:Am w5.heap.size W4 V2:=(Cu.mono (by omega)).grown hg (by omega) (fun k e=>(UB.out k e).1);have IB:=zH (K1.out.free hBV (by omega));have c1:V2.cell? ⟨w.heap.size+1,0,Z⟩=J (O U (p:Int)):=zh IB.out.pt 0 rfl;have fz1:=zi IB.out.pt 0;have lz1:=zj IB.out.pt;refine yd rfl (by kernel_rfl) ?_;intro K' aa;go_simp;refine aa (fun _=>True) _ _ trivial ?_;refine zz ?_;clear aa K';have IC:=zH (IB.out.move bb.1 (by omega))
   have HOM:As (OwnR kSt (V2.setCell ⟨w.heap.size+1,0,Z⟩ (O U (bb.1:Int))) w5.heap.size (I (J ⟨g',0,Z⟩) (l.length+1) ap) (l++[((bb.1:Int),(bb.2:Int))]).length (jG (l++[((bb.1:Int),(bb.2:Int))]))):=by
    rw[As,stCs_snoc,Lr,Nm];refine vx hr fun z e=>Le V2 ⟨w.heap.size+1,0,Z⟩ _ z ?_
    have:=(hr.lt z e).1;show z≠w.heap.size+1;omega
   have MK5:As (Marks w.heap.size ({ target:=.collected D,args:=#[] }::ds) (V2.setCell ⟨w.heap.size+1,0,Z⟩ (O U (bb.1:Int)))):=xQ (w:=W4) Ut.out fun y hy=>by
    have h1:=(Cu.block y (Ln.1 hy).1).trans hy;have h2:=(hg.block y (by have:=(Ln.1 hy).1;omega) (fun e=>ownR_ne GN.out h1 e.symm)).trans h1;refine(Le V2 ⟨w.heap.size+1,0,Z⟩ _ y (fun e=>?_)).trans h2;have e':y=w.heap.size+1:=e;rw[e',IB.out.pt] at h2
    cases h2
   clear n1 n2 e1 hr hg aI pP c1 fz1 lz1 IB hBV GN Cu K1 K2 K3 Ut;go_wp2_with fail;exact⟨m,Nat.lt_succ_self m,_,_,bb.1,l++[((bb.1:Int),(bb.2:Int))],_,_,_,_,_,_,_,_,_,_,_,_,_,_,_,_,_,_,_,_,_,_,_,_,_,_,_,_,_,_,_,_,_,_,_,_,_,_,_,_,_,_,_,_,_,_,_,_,⟨Nv,ip,IC,HOM,mn,MK5⟩,rfl⟩
  case stop=>
   intro D c pre X _ _ h;exact h.elim
end
section
open Go.RowKit Go.Shelf
attribute [local go_sem] Oper.semAt_some
theorem own_ne{w:Ba}{base base' n:Nat}{v V:Au}{xs:List Int}{cs:List Au}(h:Own w base v xs)(g:OwnR kIs w base' V n cs):v.ownBlock=Z\/v.ownBlock≠V.ownBlock:=by
 rcases h.2 with ⟨rfl,_⟩ | ⟨b,cap,cur,rfl,_,hb,_⟩
 . exact .inl rfl
 refine .inr fun e=>?_
 rcases g.2 with ⟨rfl,_⟩ | ⟨b',ap,cur',rfl,_,cN,_⟩
 . cases e
 have:b=b':=by simpa[Value.ownBlock] using e
 subst this;rw[hb] at cN
 cases cN
structure NwIn(B bw n:Nat)(S SW:Array Au)(cls:Nat->List Int)(w W:Ba)(A:Bb)(k c:Nat)(cs:List Au):Prop where
 below:Am B w W
 b0:W.heap[B]?=J (Ag S 39 (0,0))
 bx:W.heap[bw]?=J (Ag SW 95 (0,0))
 own:OwnR kIs W (bw+1) (I A k c) k cs
 rows:∀q,q<k->∃A' c',cs[q]?=J (I A' n c')/\Own W (bw+1) (I A' n c') (cls q)
 len:cs.length=k
 lo:B<bw
theorem NwIn.on{B bw n k c:Nat}{S SW:Array Au}{cls:Nat->List Int}{w W W':Ba}{A:Bb}{cs:List Au}(h:NwIn B bw n S SW cls w W A k c cs)(hb:Am W.heap.size W W'):NwIn B bw n S SW cls w W' A k c cs:=by
 have l1:=zj h.bx;have l0:=zj h.b0;refine⟨h.below.trans (hb.mono (by omega)),Lb hb l0 h.b0,Lb hb l1 h.bx,h.own.below hb (Ld _),fun q hq=>?_,h.len,h.lo⟩;obtain⟨A',c',e1,e2⟩:=h.rows q hq;exact⟨A',c',e1,e2.below hb (Ld _)⟩
theorem NwIn.push{B bw n k c c2:Nat}{S SW SW':Array Au}{cls:Nat->List Int}{w W W1 W2:Ba}{A A2 A3:Bb}{c3:Nat}{cs:List Au}(h:NwIn B bw n S SW cls w W A k c cs)(ah:Own W (bw+1) (I A3 n c3) (cls k))
  (ho:OwnR kIs W1 (bw+1) (I A2 (k+1) c2) (k+1) (cs++[I A3 n c3])) (hg:W.grownBy W1 (I A k c).ownBlock) (hs:∀z,z≠bw->W2.heap[z]?=W1.heap[z]?) (hb:Am B W1 W2) (hx:W2.heap[bw]?=J (Ag SW' 95 (0,0))) :
  NwIn B bw n S SW' cls w W2 A2 (k+1) c2 (cs++[I A3 n c3]):=by
 have l1:=zj h.bx;have l0:=zj h.b0;have lo:=h.lo;have az:∀z,z<=bw->(I A k c).ownBlock≠J z:=fun z hz e=>by have:=(h.own.lt z e).1;omega
 have keep:∀(v:Au) (xs:List Int),Own W (bw+1) v xs->Own W2 (bw+1) v xs:=fun v xs hv=>by
  have h1:=hv.kept hg (own_ne hv h.own);exact h1.same fun z hz _=>hs z (by omega)
 refine⟨h.below.trans (((Ll _ _).grown hg (by omega) (fun r e=>by have:=(h.own.lt r e).1;omega)).trans hb),(hs B (by omega)).trans ((hg.block B l0 (fun e=>az B (by omega) e.symm)).trans h.b0),hx,vx ho (fun z e=>hs z (by have:=(ho.lt z e).1;omega)),fun q hq=>?_,by simp[h.len],lo⟩
 by_cases e:q=k
 . subst e
   exact⟨A3,c3,by rw[Ly (by rw[h.len];exact Ld _),h.len,Nq];rfl,keep _ _ ah⟩
 obtain⟨A',c',e1,e2⟩:=h.rows q (by omega);exact⟨A',c',by rw[LC (by rw[h.len];omega)];exact e1,keep _ _ e2⟩
def RetKw(s:Sy)(w:Ba)(e:Ending)(w':Ba):Prop:=Am w.heap.size w w'/\((yc s≠0/\e=Ak (.tuple #[Aj Z,O U (yc s)])) \/
 (yc s=0/\∃bw,e=Ak (.tuple #[Aj (J ⟨bw,0,Z⟩),O U 0])/\KwAt w' w'.heap.size bw (ptn s) s.n.toNat (ya s)))
def RetKwG(s:Sy)(A SV AV AX:Bb)(kc ks kv kx:Nat)(w:Ba)(e:Ending)(w':Ba):Prop:=Am w.heap.size w w'/\((yc s≠0/\e=Ak (.tuple #[Aj Z,O U (yc s)])) \/
 (yc s=0/\∃bw,e=Ak (.tuple #[Aj (J ⟨bw,0,Z⟩),O U 0])/\KwAt w' w'.heap.size bw (ptn s) s.n.toNat (ya s) /\
  ∃mb,w.heap.size<=mb/\MapOf (O U) w' mb 0 (fun _=>Z)/\∃AQ cQ,w'.heap[bw]?=J (Ag #[O U s.p.t.n,O U s.p.t.ins,O U s.p.t.outs,I A s.p.t.cases.length kc,O U s.p.a.n,I SV s.p.a.sts.length ks,O U s.p.k,O U s.n,I AV s.vs.length kv,I AX s.xs.length kx,O U (ptn s:Int),I AQ s.n.toNat cQ,.map (J mb)] 95 (0,0))))
theorem vN(s:Sy)(hs:LowS s)(hf:yU s.p)(A SV AV AX:Bb)(kc ks kv kx:Nat)(w:Ba)(hS:SyAt w w.heap.size A SV AV AX s) :
  An Al 75 #[.agg (s.vs_ A kc SV ks AV kv AX kx)] w (RetKwG s A SV AV AX kc ks kv kx w):=by
 obtain⟨w1,ab,d0,av,hB⟩:=zn w (s.vs_ A kc SV ks AV kv AX kx) 39;have Bw:=zH (pCount_any s hs hf A SV AV AX kc ks kv kx w1 (hS.up hB));have i9:=zH (fun (q:Nat) (X:Ba) (hX:Am w.heap.size w X)=>Zi s hs hf (q:Int) A SV AV AX kc ks kv kx X ((hS.keep hX).more hX.size));have be:As (yc s≠0->JK s=(0,yc s)):=fun h=>Lj h
 have ai:As (yc s=0->JK s=((ptn s:Int),0)/\1<=ptn s/\(∃N:Nat,s.n=(N:Int)/\1<=N/\N<=5)/\∀q:Nat,(q:Int)<s.n->JL s (q:Int)=(ya s q,0)):=fun h=>by
  obtain⟨_,K,N,hF⟩:=yF hf h;have hx:=J4 hf h;have:=LU hx (show 1<=s.p.k.toNat+1 by omega);refine⟨Lg (by simpa using h),by unfold ptn;omega,⟨N,hF.n,hF.n1,hF.n5⟩,fun q hq=>?_⟩;unfold JL;rw[Lg (by simpa using h),Lg (by omega),Lm]
 have fT:As (∀q,(ya s q).length=ptn s):=fun q=>uT s q
 unfold RetKwG;obtain⟨r,hr⟩:=Kj (yc s);rw[hr] at be ai ⊢;obtain⟨R,de⟩:=Kj (JK s);rw[de] at Bw be ai;obtain⟨cm,ik⟩:=Kj (ya s);rw[ik] at ai fT ⊢;obtain⟨n,hn⟩:=Kj (ptn s);rw[hn] at ai fT ⊢;unfold Sy.vs_ at ab d0 Bw i9 ⊢;have ag:=zH ab;have HB:=zH hB;have HD:=zH d0;have p7:=zh (d0) 7 rfl;have p8:=zh (d0) 8 rfl;have p9:=zh (d0) 9 rfl;clear ab d0 hB hS hr de hs hf hn ik;go_enter func75,ntmps75;go_wp2_with fail;rw[ag.out];go_wp2_with fail;refine Bw.out.mono ?_;rintro e w2 ⟨rfl,ae⟩;have au:=zH (HB.out.trans (ae.mono (by omega)));have HD:=zH (La ae HD.out);clear p7 p8 p9 ae Bw ag HB
 by_cases h0:r=0
 case neg=>
  have hR:As (R=(0,r)):=be.out h0;have e0:(r != 0)=Av:=by simpa using h0
  clear be ai HD i9 fT;rw[hR.out];go_wp2_with fail
  go_ret2
  exact⟨au.out,.inl ⟨h0,rfl⟩⟩
 case pos=>
 subst h0;obtain⟨e1,cZ,⟨N,hN,OC,Oz⟩,aA⟩:=ai.out rfl;rw[e1];have dM:=zH hN;have tr:=zH aA;have nj:=zH (And.intro cZ (And.intro OC Oz));have iD:=@run_makeMap Al;obtain⟨p0,p1,p2,p3,p4,p5,p6,p7,p8,p9⟩:=zM (HD.out);clear be ai e1 cZ OC Oz hN aA;go_upto_region 5 with fail
 obtain⟨a3,h3⟩:=Kj (w2.alloc (.map #[] 0));have y3:a3.heap.size=w2.heap.size+1:=by rw[<-h3];simp
 have z3:Am w2.heap.size w2 a3:=by rw[<-h3];exact zW _ _
 have m3:MapOf (O U) a3 w2.heap.size 0 (fun _=>Z):=by rw[<-h3];exact MapOf.made w2
 rw[h3];obtain⟨a4,h4,x4,y4,z4⟩:=zn a3 #[O U s.p.t.n,O U s.p.t.ins,O U s.p.t.outs,I A s.p.t.cases.length kc,O U s.p.a.n,I SV s.p.a.sts.length ks,O U s.p.k,O U s.n,I AV s.vs.length kv,I AX s.xs.length kx,O U (n:Int),I Z 0 0,.map (J w2.heap.size)] 95;rw[h4];rw[y3] at x4 y4;have mU:=zj HD.out
 have hIN:NwIn w.heap.size (w2.heap.size+1) n #[O U s.p.t.n,O U s.p.t.ins,O U s.p.t.outs,I A s.p.t.cases.length kc,O U s.p.a.n,I SV s.p.a.sts.length ks,O U s.p.k,O U s.n,I AV s.vs.length kv,I AX s.xs.length kx] #[O U s.p.t.n,O U s.p.t.ins,O U s.p.t.outs,I A s.p.t.cases.length kc,O U s.p.a.n,I SV s.p.a.sts.length ks,O U s.p.k,O U s.n,I AV s.vs.length kv,I AX s.xs.length kx,O U (n:Int),I Z 0 0,.map (J w2.heap.size)] cm w a4 Z 0 0 []:=
  ⟨au.out.trans ((z3.trans (z4.mono (by omega))).mono (by omega)),Lb z4 (by omega) (Lb z3 mU HD.out),x4,OwnR.nil _ _ _,fun q hq=>by omega,rfl,by omega⟩
 have mP:=zH hIN;have Bj:As (MapOf (O U) a4 w2.heap.size 0 (fun _=>Z)):=m3.same (z4.block _ (by omega));have hmw:As (w.heap.size<=w2.heap.size):=au.out.size;have q7:a4.cell? ⟨w.heap.size,7,Z⟩=J (O U (N:Int)):=by rw[<-dM.out];exact zh hIN.b0 7 rfl
 obtain⟨bw,bz⟩:=Kj (w2.heap.size+1);have ec:As (w2.heap.size<bw):=by rw[As];omega
 rw[bz] at mP ⊢;clear h3 y3 z3 m3 h4 x4 y4 z4 mU hIN HD bz iD p7 p8 p9;go_wp2_with fail
 go_loopw [26] (fun i wr=>∃k:Nat,k<=N/\i=O U (k:Int)/\∃AQ cQ cs,As (NwIn w.heap.size bw n #[O U s.p.t.n,O U s.p.t.ins,O U s.p.t.outs,I A s.p.t.cases.length kc,O U s.p.a.n,I SV s.p.a.sts.length ks,O U s.p.k,O U s.n,I AV s.vs.length kv,I AX s.xs.length kx] #[O U s.p.t.n,O U s.p.t.ins,O U s.p.t.outs,I A s.p.t.cases.length kc,O U s.p.a.n,I SV s.p.a.sts.length ks,O U s.p.k,O U s.n,I AV s.vs.length kv,I AX s.xs.length kx,O U (n:Int),I AQ k cQ,.map (J w2.heap.size)] cm w wr AQ k cQ cs)/\As (MapOf (O U) wr w2.heap.size 0 (fun _=>Z))) (fun i _=>N-(Ar i).toNat)
 case atStart=>exact⟨0,by omega,rfl,Z,0,[],mP,Bj⟩
 obtain⟨k,hk,rfl,AQ,cQ,cs,hI,HM⟩:=hrel;clear mP q7 Bj
 by_cases hlt:k<N
 . have hc:=i9.out k wr hI.out.below
   rw[tr.out k (by rw[dM.out];omega)] at hc;have HC:=zH hc;have dg:(0:Int)<=(k:Int):=by omega
   have aM:(k:Int)<(N:Int):=by omega
   have cJ:=fT.out k;have sh:k<=5:=by have:=nj.out;omega
   obtain⟨p0,p1,p2,p3,p4,p5,p6,p7,p8,p9⟩:=zM (hI.out.b0);clear hc;go_wp2_with fail;refine HC.out.mono ?_;rintro e w3 ⟨A3,c3,rfl,rH,ak⟩;have nR:=hI.out.on ak;have iE:=hI.out.lo;have Fv:=zj hI.out.bx;have se:=ec.out;have HM:=zH (HM.out.same (ak.block _ (by omega)));have CD:Own w3 (bw+1) (I A3 n c3) (cm k):=by rw[<-cJ];exact rH.low (by omega)
   dsimp only;rw[cJ];have tm:=zH nR;have mO:=zH CD;have Uq:=zh nR.bx 11 rfl;have hlx3:=zj nR.bx;go_upto_region 11 with fail
   obtain⟨W4,oA,d4,iy,aD⟩:=zn w3 #[I A3 n c3] 50;have EG:=zH (tm.out.on aD);have HM:=zH (HM.out.same (aD.block _ (by omega)));have mN:=zH (mO.out.below aD (Ld _));have mL:=zH EG.out.own;have hb4s:bw+1<=W4.heap.size:=by omega
   have im:=zH oA;clear tm mO oA aD
   go_wp2_with (at_builtin; go_must (rw [im.out]; refine yE Qp rfl _ _ (by rfl) (bw + 1) (I AQ k cQ) k cs (by rfl) mL.out w3.heap.size #[I A3 n c3] (by rfl) d4 rfl (by simp [Value.oneCell']) (by omega) hb4s _ rfl ?_); intro g' ap w5 cP bY nM pO
                have Ht:=(bY.block bw (zj EG.out.bx) (fun e=>by have:=(mL.out.lt bw e.symm).1;omega)).trans EG.out.bx;have u11:=zh Ht 11 rfl;have f11:=zi Ht 11;have HX5:=zH Ht;have HM:=zH (HM.out.same (bY.block _ (by have:=zj EG.out.bx;omega) (fun e=>by have:=(mL.out.lt _ e.symm).1;omega)));have dU:=zH cP;have io:=zH bY
                clear Ht cP bY nM pO)
   have eP:=Lk w5 bw 11 _ _ (I (J ⟨g',0,Z⟩) (k+1) ap) HX5.out;have hI6:=EG.out.push mN.out dU.out io.out (W2:=w5.setCell ⟨bw,11,Z⟩ (I (J ⟨g',0,Z⟩) (k+1) ap)) (fun z hz=>Le w5 ⟨bw,11,Z⟩ _ z hz) ((Ll _ _).setCell (by show w.heap.size<=bw;omega) _) eP;have HI6:=zH hI6;have HM:=zH (HM.out.same (Le w5 ⟨bw,11,Z⟩ (I (J ⟨g',0,Z⟩) (k+1) ap) w2.heap.size (by show ¬w2.heap.size=bw;omega)))
   go_roundw
   case rel=>exact⟨k+1,by omega,by go_num,_,_,_,HI6,HM⟩
   simp[Ar];omega
 obtain rfl:N=k:=by omega
 have pS:As (KwAt wr wr.heap.size bw n N cm):=by
  have hl:=zj hI.out.bx;obtain⟨A0,c0,e0,_,_,hf⟩:=hI.out.own.form
  cases e0
  obtain⟨g,rfl,_,hg,bN⟩:=hf (by have:=nj.out;omega);refine⟨hl,zh hI.out.bx 10 rfl,⟨g,0,cQ,zh hI.out.bx 11 rfl,hg,fun q hq=>?_⟩,fT.out⟩;obtain⟨A',c',e1,e2⟩:=hI.out.rows q hq;exact⟨A',c',by rw[LI];exact bN q _ e1,wC e2 (fun _ _ _=>rfl)⟩
 have rY:=zH hI.out.below;have bD:=zH hI.out.bx;go_wp2_with fail
 go_ret2
 refine⟨rY.out,bw,rfl,?_,w2.heap.size,hmw.out,HM.out,AQ,cQ,?_⟩
 . rw[dM.out,Lm]
   exact pS.out
 have h9:=bD.out;rw[dM.out] at h9 ⊢;rw[Lm];exact h9
theorem Qg(s:Sy)(hs:LowS s)(hf:yU s.p)(A SV AV AX:Bb)(kc ks kv kx:Nat)(w:Ba)(hS:SyAt w w.heap.size A SV AV AX s) :
  An Al 75 #[.agg (s.vs_ A kc SV ks AV kv AX kx)] w (RetKw s w):=
 (vN s hs hf A SV AV AX kc ks kv kx w hS).mono fun e w' h=>by
  obtain⟨hb,h | ⟨h1,bw,h2,h3,_⟩⟩:=h
  . exact⟨hb,.inl h⟩
  . exact⟨hb,.inr ⟨h1,bw,h2,h3⟩⟩
end
section
theorem XF:∀(a b:List Bool),a.length=b.length->(∀i,a.getD i Aw=Av->b.getD i Aw=Av)->a.count Av<=b.count Av/\(a≠b->a.count Av<b.count Av)
 | [],[],_,_=>⟨Ld _,fun h=>absurd rfl h⟩
 | x::a,y::b,hl,h=>by
  obtain⟨h1,h2⟩:=XF a b (by simpa using hl) (fun i hi=>h (i+1) hi);have h0:=h 0;simp only[List.getD_cons_zero] at h0;simp only[List.count_cons]
  cases x with
  | false=>
   cases y with
   | false=>exact⟨by simpa using h1,fun az=>by simpa using h2 (fun e=>az (by rw[e]))⟩
   | true=>simp;omega
  | true=>
   rw[h0 rfl];exact⟨by simpa using h1,fun az=>by have:=h2 (fun e=>az (by rw[e]));simpa using this⟩
theorem bools_ext{n:Nat}{a b:List Bool}(ha:a.length=n)(hb:b.length=n)(h:∀i,i<n->(a.getD i Aw=Av↔b.getD i Aw=Av)):a=b:=by
 refine NO (by omega) fun i h1 h2=>?_
 have:=h i (by omega);rw[zA h1,zA h2] at this;exact NL.2 this
theorem XY{n:Nat}{F:Nat->List Bool}(hl:∀m,(F m).length=n)(hd:∀m i,(F (m+1)).getD i Aw=Av->(F m).getD i Aw=Av):∃M,M<=n/\F (M+1)=F M/\∀m,m<M->F (m+1)≠F m:=by
 have key:∀k,(∀m,m<k->F (m+1)≠F m)->(F k).count Av+k<=n:=by
  intro k
  induction k with
  | zero=>intro _;have:=List.count_le_length (a:=Av) (l:=F 0);rw[hl] at this;omega
  | succ k ih=>
   intro h;have h1:=ih fun m hm=>h m (by omega)
   have h2:=(XF (F (k+1)) (F k) (by rw[hl,hl]) (hd k)).2 (h k (by omega));omega
 have BN:∃m,F (m+1)=F m:=by
  refine Ng fun hn=>?_
  have:=key (n+1) fun m _ e=>hn ⟨m,e⟩
  omega
 obtain⟨m,hm⟩:=BN;obtain⟨M,_,h2,h3⟩:=Ym (p:=fun m=>F (m+1)=F m) m hm;exact⟨M,by have:=key M h3;omega,h2,h3⟩
def yq(n:Nat)(ev:List Bool->List Bool)(set:List Bool):Nat->List Bool
 | 0=>List.replicate n Av
 | m+1=>ev (kV n set (yq n ev set m))
def xv(n:Nat)(ev:List Bool->List Bool)(set:List Bool):Nat->List Bool
 | 0=>set
 | m+1=>kV n (xv n ev set m) (ev (xv n ev set m))
def xF(n:Nat)(ev:List Bool->List Bool)(set:List Bool):Nat->List Int
 | 0=>List.replicate n (-1)
 | m+1=>(List.range n).map fun i=>if (xv n ev set m).getD i Aw then (m:Int) else (xF n ev set m).getD i 0
theorem outS_len(n:Nat)(ev:List Bool->List Bool)(set:List Bool):∀m,(xF n ev set m).length=n
 | 0=>by simp[xF]
 | m+1=>by simp[xF]
def uC(n:Nat)(ev:List Bool->List Bool)(set:List Bool)(M:Nat):List Int:=(List.range n).map fun i=>if (xv n ev set M).getD i Aw then (n:Int) else (xF n ev set M).getD i 0
theorem js{n:Nat}{a b:List Bool}{i:Nat}(h:i<n):(kV n a b).getD i Aw=(a.getD i Aw&&b.getD i Aw):=by rw[zA (by rw[xr];exact h),ZG h]
section
variable {n:Nat} {cls:Nat->List Int} {ps:List Nat} {set:List Bool}
theorem qH:∀m,(yq n (evL n cls ps) set m).length=n
 | 0=>by simp[yq]
 | m+1=>qS _ _ _ _
theorem Yl(hs:set.length=n):∀m,(xv n (evL n cls ps) set m).length=n
 | 0=>hs
 | _+1=>xr _ _ _
theorem Yw{l:List Bool}{i:Nat}(h:l.length<=i):l.getD i Aw=Aw:=by rw[Lf,List.getElem?_eq_none h];rfl
theorem evL_mono{a b:List Bool}(h:∀i,i<n->a.getD i Aw=Av->b.getD i Aw=Av){i:Nat}(hi:i<n)(ha:(evL n cls ps a).getD i Aw=Av):(evL n cls ps b).getD i Aw=Av:=
 (Qu hi ps).2 fun p hp j hj e=>h j hj ((Qu hi ps).1 ha p hp j hj e)
theorem uc:∀m i,(yq n (evL n cls ps) set (m+1)).getD i Aw=Av->(yq n (evL n cls ps) set m).getD i Aw=Av
 | 0,i,h=>by
  by_cases hi:i<n
  . simp[yq,List.getD_eq_getElem?_getD,hi]
  . rw[Yw (by rw[qH];omega)] at h;cases h
 | m+1,i,h=>by
  by_cases hi:i<n
  . refine evL_mono (fun j hj hh=>?_) hi h
    rw[js hj,L8] at hh ⊢;exact⟨hh.1,uc m j hh.2⟩
  . rw[Yw (by rw[qH];omega)] at h;cases h
theorem levS_falls(hs:set.length=n)(m i:Nat)(h:(xv n (evL n cls ps) set (m+1)).getD i Aw=Av):(xv n (evL n cls ps) set m).getD i Aw=Av:=by
 by_cases hi:i<n
 . rw[xv,js hi,L8] at h;exact h.1
 rw[Yw (by rw[Yl hs];omega)] at h;cases h
variable {f:List Int}
theorem ev_far(cI:ps≠[])(hf:Far n (qB ps cls) (fun i=>i∈yv set) (fun i=>f.getD i 0)){x:List Bool}{m:Int}(hm:0<=m)(hx:∀i,i<n->(x.getD i Aw=Av↔f.getD i 0<0\/m<f.getD i 0)){i:Nat}(hi:i<n) :
  (evL n cls ps x).getD i Aw=Av↔f.getD i 0<0\/m+1<f.getD i 0:=by
 rw[Qu hi ps];constructor
 . intro h
   refine Ng fun hn=>?_
   by_cases e:f.getD i 0<=m
   . obtain⟨p,hp⟩:=List.exists_mem_of_ne_nil ps cI
     have:=(hx i hi).1 (h p hp i hi rfl);omega
   obtain⟨k,hk,⟨p,hp,he⟩,nF⟩:=hf.step i hi (by show 0<f.getD i 0;omega);have:=(hx k hk).1 (h p hp k hk he.symm);change f.getD k 0=f.getD i 0-1 at nF;omega
 intro h p hp j hj e;refine(hx j hj).2 (Ng fun hn=>?_);obtain⟨h1,h2⟩:=hf.low i j hi hj ⟨p,hp,e.symm⟩ (by show 0<=f.getD j 0;omega);change 0<=f.getD i 0 at h1;change f.getD i 0<=f.getD j 0+1 at h2;omega
theorem X0(hs:set.length=n)(hf:Far n (qB ps cls) (fun i=>i∈yv set) (fun i=>f.getD i 0)){i:Nat}(hi:i<n):set.getD i Aw=Av↔f.getD i 0<0\/(0:Int)<f.getD i 0:=by
 have h1:=hf.zero i hi;change f.getD i 0=0↔i∈yv set at h1;rw[jX] at h1
 cases hb:set.getD i Aw with
 | true=>
  refine⟨fun _=>?_,fun _=>rfl⟩;have:¬f.getD i 0=0:=fun e=>by have:=(h1.1 e).2;rw[hb] at this;cases this
  omega
 | false=>
  have:=h1.2 ⟨by omega,hb⟩;constructor
  . intro h;cases h
  . omega
theorem uE(cI:ps≠[])(hs:set.length=n)(hf:Far n (qB ps cls) (fun i=>i∈yv set) (fun i=>f.getD i 0)):∀(m:Nat) {i:Nat},i<n->((yq n (evL n cls ps) set (m+1)).getD i Aw=Av↔f.getD i 0<0\/((m:Int)+1)<f.getD i 0)
 | 0,i,hi=>by
  have:=ev_far (x:=kV n set (yq n (evL n cls ps) set 0)) cI hf (m:=0) (So _) (fun j hj=>by
   rw[js hj,L8,<-X0 hs hf hj]
   exact⟨fun h=>h.1,fun h=>⟨h,by simp[yq,List.getD_eq_getElem?_getD,hj]⟩⟩) hi
  simpa[yq] using this
 | m+1,i,hi=>by
  refine(ev_far (x:=kV n set (yq n (evL n cls ps) set (m+1))) cI hf (m:=(m:Int)+1) (by omega) (fun j hj=>?_) hi).trans (by push_cast;exact Iff.rfl);rw[js hj,L8,X0 hs hf hj,uE cI hs hf m hj];omega
theorem vy(cI:ps≠[])(hs:set.length=n)(hf:Far n (qB ps cls) (fun i=>i∈yv set) (fun i=>f.getD i 0)):∀(m:Nat) {i:Nat},i<n->((xv n (evL n cls ps) set m).getD i Aw=Av↔f.getD i 0<0\/(m:Int)<f.getD i 0)
 | 0,i,hi=>X0 hs hf hi
 | m+1,i,hi=>by
  rw[xv,js hi,L8,vy cI hs hf m hi,ev_far cI hf (m:=(m:Int)) (by omega) (fun j hj=>vy cI hs hf m hj) hi]
  push_cast;omega
theorem far_gap(hf:Far n (qB ps cls) (fun i=>i∈yv set) (fun i=>f.getD i 0)){d:Nat}(h:∀i,i<n->f.getD i 0≠(d:Int)):∀(e:Nat) (i:Nat),i<n->f.getD i 0≠((d+e:Nat):Int)
 | 0,i,hi=>h i hi
 | e+1,i,hi=>fun he=>by
  obtain⟨k,hk,_,nF⟩:=hf.step i hi (by show 0<f.getD i 0;omega);change f.getD k 0=f.getD i 0-1 at nF;exact far_gap hf h e k hk (by omega)
theorem wT(hf:Far n (qB ps cls) (fun i=>i∈yv set) (fun i=>f.getD i 0)){d:Nat}(h:∀i,i<n->f.getD i 0≠(d:Int)){i:Nat}(hi:i<n):f.getD i 0<(d:Int):=by
 refine Ng fun hn=>?_
 obtain⟨e,he⟩:=Lp (by omega:0<=f.getD i 0-d);exact far_gap hf h e i hi (by omega)
theorem now_held(cI:ps≠[])(hs:set.length=n)(hf:Far n (qB ps cls) (fun i=>i∈yv set) (fun i=>f.getD i 0)){M:Nat}(hM:yq n (evL n cls ps) set (M+1)=yq n (evL n cls ps) set M){i:Nat}(hi:i<n) :
  (yq n (evL n cls ps) set M).getD i Aw=Av↔f.getD i 0<0:=by
 cases M with
 | zero=>
  have h1:∀j,j<n->f.getD j 0<0\/(1:Int)<f.getD j 0:=fun j hj=>by
   have:=(uE cI hs hf 0 hj).1 (by rw[hM];simp[yq,List.getD_eq_getElem?_getD,hj]);simpa using this
  have h2:=wT hf (d:=0) (fun j hj e=>by have:=h1 j hj;omega) hi;exact⟨fun _=>h2,fun _=>by simp[yq,List.getD_eq_getElem?_getD,hi]⟩
 | succ M=>
  have h2:=wT hf (d:=M+2) (fun j hj e=>by
   have a:=uE cI hs hf M hj;have b:=uE cI hs hf (M+1) hj;rw[hM,a] at b
   push_cast at b e
   omega) hi
  have h3:=uE cI hs hf (M+1) hi;rw[hM] at h3;rw[h3]
  push_cast at h2 ⊢;omega
theorem lev_held(cI:ps≠[])(hs:set.length=n)(hf:Far n (qB ps cls) (fun i=>i∈yv set) (fun i=>f.getD i 0)){M:Nat}(hM:xv n (evL n cls ps) set (M+1)=xv n (evL n cls ps) set M){i:Nat}(hi:i<n):f.getD i 0<(M:Int)+1:=by
 have:=wT hf (d:=M+1) (fun j hj e=>by
  have a:=vy cI hs hf M hj;have b:=vy cI hs hf (M+1) hj;rw[hM,a] at b
  push_cast at b e
  omega) hi
 push_cast at this;exact this
theorem out_far(cI:ps≠[])(hs:set.length=n)(hf:Far n (qB ps cls) (fun i=>i∈yv set) (fun i=>f.getD i 0)):∀(m:Nat) {i:Nat},i<n->(xF n (evL n cls ps) set m).getD i 0=(if f.getD i 0<0\/(m:Int)<f.getD i 0 then (m:Int) else f.getD i 0)-1
 | 0,i,hi=>by
  have h2:=hf.ge i hi;change -1<=f.getD i 0 at h2;rw[xF,Lf,NN,Lj hi];change (-1:Int)=_
  split<;>omega
 | m+1,i,hi=>by
  rw[xF,ye (by simpa using hi),Ny,Pe];have h1:=vy cI hs hf m hi
  by_cases h:f.getD i 0<0\/(m:Int)<f.getD i 0
  . rw[Lj (h1.2 h)]
    push_cast
    split<;>omega
  . rw[Lg (fun e=>h (h1.1 e)),out_far cI hs hf m hi,Lg h]
    push_cast
    split<;>omega
theorem out_lev(cI:ps≠[])(hs:set.length=n)(hf:Far n (qB ps cls) (fun i=>i∈yv set) (fun i=>f.getD i 0)){M:Nat}(hM:xv n (evL n cls ps) set (M+1)=xv n (evL n cls ps) set M){i:Nat}(hi:i<n) :
  (uC n (evL n cls ps) set M).getD i 0=if f.getD i 0<0 then (n:Int) else f.getD i 0-1:=by
 unfold uC;rw[ye (by simpa using hi),Ny,Pe];have h1:=vy cI hs hf M hi;have h2:=lev_held cI hs hf hM hi
 by_cases h:f.getD i 0<0
 . rw[Lj (h1.2 (.inl h)),Lj h]
 rw[Lg (fun e=>by rcases h1.1 e with a | a<;>omega),out_far cI hs hf M hi,Lg (by omega),Lg h]
end
end
section
open Go.RowKit
attribute [local go_sem] Oper.semAt_some
theorem uR(A A':Bb)(cap ap:Nat)(vs us:List Bool)(w:Ba)(B:Nat)(_hB:B<=w.heap.size)(hA:BAt w B A vs)(rc:BAt w B A' us)(_hl:vs.length<=1000000)(ME:us.length<=1000000) :
  An Al 28 #[I A vs.length cap,I A' us.length ap] w fun e w'=>e=Ak (Ah (decide (vs=us)))/\∃n,w'=w.drewN n:=by
 by_cases aJ:vs.length=us.length
 . have HL:=zH aJ
   have iG:((vs.length:Int) != (us.length:Int))=Aw:=by simp[aJ]
   go_enter func28,ntmps28;go_wp2_with fail
   go_loopw [13] (fun i wr=>∃k m:Nat,k<=vs.length/\i=O U k/\wr=w.drewN m/\As (vs.take k=us.take k)) (fun i _=>vs.length-(Ar i).toNat)
   case atStart=>exact⟨0,0,by omega,rfl,rfl,by show vs.take 0=us.take 0;simp⟩
   obtain⟨k,m,hk,rfl,rfl,aZ⟩:=hrel;have cG:k<=us.length:=by have:=HL.out;omega
   by_cases hlt:k<vs.length
   . have cU:k<us.length:=by have:=HL.out;omega
     obtain⟨b,off,rfl,aF,c0⟩:=hA.at_ k hlt;obtain⟨b',nn,rfl,CU,d0⟩:=rc.at_ k cU
     by_cases hv:vs[k]=us[k]
     . have hz:As (vs.take (k+1)=us.take (k+1)):=wi hlt cU aZ.out hv
       obtain⟨x,hx⟩:=Kj (vs[k]);obtain⟨y,hy⟩:=Kj (us[k]);rw[hx] at c0 hv;rw[hy] at d0 hv;subst hv;go_wp2_with fail;go_quiet (fail);go_wp2_with fail
       go_roundw
       case rel=>exact⟨k+1,_,by omega,by go_num,rfl,hz⟩
       simp[Ar];omega
     have hz:As (decide (vs=us)=Aw):=Lv (kA hlt cU hv);obtain⟨x,hx⟩:=Kj (vs[k]);obtain⟨y,hy⟩:=Kj (us[k]);rw[hx] at c0 hv;rw[hy] at d0 hv;have q1:(x != y)=Av:=by simpa using hv
     have q2:(x==y)=Aw:=by simpa using hv
     clear hx hy hv;go_wp2_with fail;go_quiet (fail);go_wp2_with fail;go_ret;exact⟨zy hz.out.symm,_,drewN2 _ _ _⟩
   obtain rfl:k=vs.length:=by omega
   have hz:As (decide (vs=us)=Av):=Lw (kF HL.out aZ.out);go_wp2_with fail;go_ret;exact⟨zy hz.out.symm,_,rfl⟩
 have hz:As (decide (vs=us)=Aw):=Lv (by rintro rfl;exact aJ rfl);have iG:((vs.length:Int) != (us.length:Int))=Av:=by simp;omega
 go_enter func28,ntmps28;go_wp2_with fail;go_ret;exact⟨zy hz.out.symm,0,rfl⟩
end
section
open Go.RowKit Go.Shelf
attribute [local go_sem] Oper.semAt_some
def RetOp(s:Sy)(g:Int)(set:List Bool)(w:Ba)(e:Ending)(w':Ba):Prop:=Am w.heap.size w w'/\((zw s g set≠0/\e=Ak (.tuple #[Aj Z,O U (zw s g set)])) \/
 (zw s g set=0/\∃bw,e=Ak (.tuple #[Aj (J ⟨bw,0,Z⟩),O U 0])/\KwAt w' w'.heap.size bw (ptn s) s.n.toNat (ya s)))
def RetOpG(s:Sy)(g:Int)(set:List Bool)(A SV AV AX:Bb)(kc ks kv kx:Nat)(w:Ba)(e:Ending)(w':Ba):Prop:=Am w.heap.size w w'/\((zw s g set≠0/\e=Ak (.tuple #[Aj Z,O U (zw s g set)])) \/
 (zw s g set=0/\∃bw,e=Ak (.tuple #[Aj (J ⟨bw,0,Z⟩),O U 0])/\KwAt w' w'.heap.size bw (ptn s) s.n.toNat (ya s) /\
  ∃mb,w.heap.size<=mb/\MapOf (O U) w' mb 0 (fun _=>Z)/\∃AQ cQ,w'.heap[bw]?=J (Ag #[O U s.p.t.n,O U s.p.t.ins,O U s.p.t.outs,I A s.p.t.cases.length kc,O U s.p.a.n,I SV s.p.a.sts.length ks,O U s.p.k,O U s.n,I AV s.vs.length kv,I AX s.xs.length kx,O U (ptn s:Int),I AQ s.n.toNat cQ,.map (J mb)] 95 (0,0))))
theorem gU(s:Sy)(hs:LowS s)(hf:yU s.p)(g:Int)(set:List Bool)(A SV AV AX AB:Bb)(kc ks kv kx kb:Nat)(_Gr:set.length<=1000000)(w:Ba)(hS:SyAt w w.heap.size A SV AV AX s) :
  An Al 39 #[.agg (s.vs_ A kc SV ks AV kv AX kx),O U g,I AB set.length kb] w (RetOpG s g set A SV AV AX kc ks kv kx w):=by
 obtain⟨w1,ab,d0,av,hB⟩:=zn w (s.vs_ A kc SV ks AV kv AX kx) 39;have Dg:=zH (vN s hs hf A SV AV AX kc ks kv kx w1 (hS.up hB))
 have be:As (yc s≠0->zw s g set=yc s):=fun h=>by
  have:zQ s g=yc s:=Lj h;unfold zw;rw[this,Lj h]
 have ai:As (yc s=0->(∃N:Nat,s.n=(N:Int)/\1<=N/\N<=5/\((g<0\/(2:Int)^N<=g)->zw s g set=2)/\(¬(g<0\/(2:Int)^N<=g)->zw s g set=if set.length≠ptn s then 15 else 0))/\ptn s<=700):=fun h=>by
  obtain⟨_,K,N,hF⟩:=yF hf h;have hr:zQ s g=if g<0\/(2:Int)^N<=g then 2 else 0:=by unfold zQ;rw[Lg (by simpa using h),hF.n,Lm]
  have nx:ptn s<=700:=by
   have hk:=hF.k;have CK:=hF.k6;have:=LU hF.lx (show K+1<=7 by omega);unfold ptn;rw[hk,Lm];omega
  refine⟨⟨N,hF.n,hF.n1,hF.n5,fun h2=>?_,fun h2=>?_⟩,nx⟩
  . unfold zw;rw[hr,Lj h2];rfl
  . unfold zw;rw[hr,Lg h2,Lg (by simp)]
 unfold RetKwG at Dg;unfold RetOpG;obtain⟨r,hr⟩:=Kj (yc s);rw[hr] at Dg be ai;obtain⟨E,hE⟩:=Kj (zw s g set);rw[hE] at be ai ⊢;obtain⟨n,hn⟩:=Kj (ptn s);rw[hn] at Dg ai ⊢;unfold Sy.vs_ at ab d0 Dg ⊢;have ag:=zH ab;have HB:=zH hB;have HD:=zH d0;clear ab d0 hB hS hr hs hf hn hE;go_enter func39,ntmps39;go_wp2_with fail;rw[ag.out];go_wp2_with fail;refine Dg.out.mono ?_;rintro e w2 ⟨ae,eo⟩;have au:=zH (HB.out.trans (ae.mono (by omega)));have HD:=zH (La ae HD.out);rcases eo with ⟨h0,rfl⟩ | ⟨rfl,bw,rfl,hK,mb,se,iD,AQ,cQ,cd⟩
 . have hR:As (E=r):=be.out h0
   go_wp2_with fail
   go_ret2
   rw[hR.out];exact⟨au.out,.inl ⟨h0,rfl⟩⟩
 have B9:=zH (And.intro (show w.heap.size<=mb by omega) (And.intro iD cd));obtain⟨⟨N,hN,OC,Oz,dh,dJ⟩,nx⟩:=ai.out rfl;have S5:=zH dh;have tj:=zH dJ;have dM:=zH hN;have HK:=zH hK;have U1:=hK.size
 have h2b:(1:Int)<=(2:Int)^N/\(2:Int)^N<=32:=by
  obtain rfl | rfl | rfl | rfl | rfl:N=1\/N=2\/N=3\/N=4\/N=5:=by omega
  all_goals decide
 have E3:IntKind.i64.wrap ((2:Int)^N)=(2:Int)^N:=by rw[Lo];omega
 have DT:min N 64=N:=by omega
 have q7:w2.cell? ⟨w.heap.size,7,Z⟩=J (O U (N:Int)):=by rw[<-dM.out];exact zh HD.out 7 rfl
 by_cases CF:g<0
 . have hR:As (E=2):=S5.out (.inl CF)
   go_wp2_with fail
   go_ret2
   rw[hR.out];exact⟨au.out,.inl ⟨by decide,rfl⟩⟩
 by_cases hbig:(2:Int)^N<=g
 . have hR:As (E=2):=S5.out (.inr hbig)
   go_wp2_with fail
   go_ret2
   rw[hR.out];exact⟨au.out,.inl ⟨by decide,rfl⟩⟩
 have Ek:=tj.out (by omega)
 by_cases ay:set.length=n
 . have hR:As (E=0):=by rw[As,Ek,Lg (by simpa using ay)]
   have lU:=zH ay;obtain⟨ln,rI⟩:=Kj set.length;rw[rI] at ay;subst ay;rw[rI] at *;go_wp2_with fail
   go_ret2
   rw[hR.out];exact⟨au.out,.inr ⟨rfl,bw,rfl,HK.out,mb,B9.out.1,B9.out.2.1,AQ,cQ,B9.out.2.2⟩⟩
 have hR:As (E=15):=by rw[As,Ek,Lj ay]
 have e3:((set.length:Int) != (n:Int))=Av:=by simp;omega
 go_wp2_with fail
 go_ret2
 rw[hR.out];exact⟨au.out,.inl ⟨by decide,rfl⟩⟩
theorem ub(s:Sy)(hs:LowS s)(hf:yU s.p)(g:Int)(set:List Bool)(A SV AV AX AB:Bb)(kc ks kv kx kb:Nat)(dR:set.length<=1000000)(w:Ba)(hS:SyAt w w.heap.size A SV AV AX s) :
  An Al 39 #[.agg (s.vs_ A kc SV ks AV kv AX kx),O U g,I AB set.length kb] w (RetOp s g set w):=
 (gU s hs hf g set A SV AV AX AB kc ks kv kx kb dR w hS).mono fun e w' h=>by
  obtain⟨hb,h | ⟨h1,bw,h2,h3,_⟩⟩:=h
  . exact⟨hb,.inl h⟩
  . exact⟨hb,.inr ⟨h1,bw,h2,h3⟩⟩
theorem Jl(bw n N:Nat)(cls:Nat->List Int)(h1:1<=n)(hn:n<=100000)(hN:N<=5)(G:Nat)(hG:G<32)(B:Bb)(cb:Nat)(set:List Bool)(hb:set.length=n)(M:Nat)(hMn:M<=n)(hM:yq n (evL n cls (zB G N)) set (M+1)=yq n (evL n cls (zB G N)) set M)(hlt:∀m,m<M->yq n (evL n cls (zB G N)) set (m+1)≠yq n (evL n cls (zB G N)) set m)
  (w:Ba) (hK:KwAt w w.heap.size bw n N cls) (hB:BAt w w.heap.size B set) :
  An Al 123 #[Aj (J ⟨bw,0,Z⟩),O U (G:Int),I B n cb] w fun e w'=>∃g:Nat,e=Ak (.tuple #[I (J ⟨g,0,Z⟩) n n,O U (M:Int)])/\w.heap.size<=g/\BRow w' g (yq n (evL n cls (zB G N)) set M)/\Am w.heap.size w w':=by
 have HA:=zH (Jm bw n N cls h1 hn w hK);have eb:=zH (fun (g:Nat) (x:List Bool) (hx:x.length=n) (X:Ba) (hX:Am w.heap.size w X) (hr:BRow X g x)=>kS bw n N cls h1 hn hN G hG (J ⟨g,0,Z⟩) n x hx X ((hK.keep hX).more hX.size) (hr.at_ hr.lt));have bU:=zH (fun (g:Nat) (x:List Bool) (hx:x.length=n) (X:Ba) (hX:Am w.heap.size w X) (hr:BRow X g x)=>wP B (J ⟨g,0,Z⟩) cb n n hn set x hb hx X ((hB.keep hX).more hX.size) (hr.at_ hr.lt));have lU:As (∀m,(yq n (evL n cls (zB G N)) set m).length=n):=fun m=>qH m
 have cW:As (∀m,evL n cls (zB G N) (kV n set (yq n (evL n cls (zB G N)) set m))=yq n (evL n cls (zB G N)) set (m+1)):=fun _=>rfl
 have HM:=zH hM;have RP:=zH hlt;unfold RetB at HA eb bU;rw[LO] at HA;simp only[qS] at eb;simp only[xr] at bU;have Eo:As (yq n (evL n cls (zB G N)) set 0=List.replicate n Av):=rfl;obtain⟨F,hF⟩:=Kj (yq n (evL n cls (zB G N)) set);rw[hF] at lU cW HM RP Eo ⊢;go_enter func123,ntmps123;go_wp2_with fail;refine HA.out.mono ?_;rintro e w2 ⟨g2,rfl,fm,fi,ae⟩;have dk:As (BRow w2 g2 (F 0)):=by rw[Eo.out];exact fi
 have au:=zH ae;go_wp2_with fail
 go_loopw [8,9] (fun o i wr=>∃k g:Nat,k<=M/\i=O U (k:Int)/\o=I (J ⟨g,0,Z⟩) n n/\w.heap.size<=g/\As (BRow wr g (F k))/\As (Am w.heap.size w wr)) (fun _ i _=>M+1-(Ar i).toNat)
 case atStart=>exact⟨0,g2,by omega,rfl,rfl,fm,dk,au⟩
 obtain⟨k,g,hk,rfl,rfl,hg,hr,bz⟩:=hrel;have Cv:=bz.out.size;have HC:=zH (bU.out g (F k) (lU.out k) wr bz.out hr.out);go_wp2_with fail;refine HC.out.mono ?_;rintro e w3 ⟨g3,rfl,oR,iR,ak⟩;have lP:As (BRow w3 g (F k)):=Lb ak hr.out.lt hr.out;have aC:=zH (bz.out.trans (ak.mono Cv));have dv:=zH (eb.out g3 _ (xr _ _ _) w3 aC.out iR);simp only[cW.out] at dv;go_wp2_with fail;refine dv.out.mono ?_;rintro e w4 ⟨g4,rfl,sk,l7,aD⟩;have mL:=zH l7;have dU:As (BRow w4 g (F k)):=Lb aD lP.out.lt lP.out;have fB:=zH (Lc aC.out aD);have nG:=uR (J ⟨g4,0,Z⟩) (J ⟨g,0,Z⟩) n n (F (k+1)) (F k) w4 w4.heap.size (Ld _) (mL.out.at_ mL.out.lt) (dU.out.at_ dU.out.lt) (by rw[lU.out];omega) (by rw[lU.out];omega);rw[lU.out,lU.out] at nG;have Cf:=zH nG;have FH:w.heap.size<=g4:=by have:=aC.out.size;omega
 go_wp2_with fail;refine Cf.out.mono ?_;rintro e w5 ⟨rfl,q,rfl⟩;have aT:=zH (fB.out.trans (yy (Ll _ _) q));have tg:As (BRow (w4.drewN q) g4 (F (k+1))):=mL.out;have Bf:As (BRow (w4.drewN q) g (F k)):=dU.out;obtain⟨w5,dY⟩:=Kj (w4.drewN q);rw[dY] at aT tg Bf ⊢
 by_cases eZ:F (k+1)=F k
 · have MH : k = M := by
    refine Ng fun az=>?_
    exact RP.out k (by omega) eZ
   subst MH;have e0:decide (F (k+1)=F k)=Av:=Lw eZ;rw[e0];go_wp2_with fail
   go_ret2
   exact⟨g,rfl,hg,Bf.out,aT.out⟩
 have MH : k < M := by
  refine Ng fun az=>?_
  have:k=M:=by omega
  subst this;exact eZ HM.out
 have e0:decide (F (k+1)=F k)=Aw:=Lv eZ;rw[e0];go_wp2_with fail
 go_roundw
 case rel=>exact⟨k+1,g4,by omega,by go_num,rfl,FH,tg,aT⟩
 simp[Ar];omega
end
section
open Go.RowKit
attribute [local go_sem] Oper.semAt_some
theorem uN{S:Nat->Prop}{W:Ba}{b:Nat}{xs:List Int}{t:TypeId}(hS:S b)(h:W.heap[b]?=J (Ag ((xs.map (O U)).toArray) t (0,0))):IAtS S W (J ⟨b,0,Z⟩) xs:=fun _=>
 ⟨b,0,rfl,hS,zj h,fun i hi=>by rw[LI];exact zh h i (by simp[hi])⟩
theorem Jk{S:Nat->Prop}{W:Ba}{b:Nat}{v:List Int}{A:Bb}{c:Nat}{t:TypeId}(hS:S b)(h:W.heap[b]?=J (Ag #[I A v.length c] t (0,0)))(h2:IAtS S W A v):LAtS S W (J ⟨b,0,Z⟩) [v]:=fun _=>
 ⟨b,0,rfl,hS,zj h,fun i hi=>by
  obtain rfl:i=0:=by simpa using hi
  exact⟨A,c,zh h 0 rfl,h2⟩⟩
end
section
open Go.RowKit Go.Shelf
attribute [local go_sem] Oper.semAt_some
theorem BAt.of_own{w w':Ba}{base:Nat}{A':Bb}{n c:Nat}{bs:List Bool}(h:OwnR kBl w base (I A' n c) n (bs.map .bool))(hn:bs.length=n)(hk:∀k,base<=k->w'.heap[k]?=w.heap[k]?)(hz:w.heap.size<=w'.heap.size):BAt w' w'.heap.size A' bs:=fun h0=>by
 have hlt:=h.lt;obtain⟨A,cap,e,_,_,h3⟩:=h.form
 cases e
 obtain⟨g,rfl,ho,hg,hc⟩:=h3 (by omega);have hb:=(hlt g ho).1;exact⟨g,0,rfl,by omega,fun i hi=>by rw[LI];exact(LL (hk g hb)).trans (hc _ _ (by rw[NJ,Li hi];rfl))⟩
theorem BAt.raw{w:Ba}{A:Bb}{bs:List Bool}(h:BAt w w.heap.size A bs):Raw w A bs.length (bs.map Ah):=fun h0=>by
 obtain⟨b,off,e,hlt,hc⟩:=h h0;refine⟨b,off,e,hlt,fun j u hj=>?_⟩;rw[NJ] at hj;obtain⟨x,hx,rfl⟩:=Option.map_eq_some_iff.1 hj;obtain⟨hl,rfl⟩:=Lq.1 hx;exact hc j hl
theorem row_ne{w:Ba}{g b o:Nat}{xs:List Int}{x:Bool}(h:RowAt w g xs)(hb:w.cell? ⟨b,o,Z⟩=J (Ah x)):b≠g:=by
 rintro rfl
 by_cases ho:o<xs.length
 . rw[h.cell o ho] at hb;cases hb
 have : w.cell? ⟨b, o, Z⟩ = Z := by
  unfold RowAt at h;simp[World.cell?,h];omega
 rw[this] at hb;cases hb
def evG(s:Sy)(g:Int):List Bool->List Bool:=evL (ptn s) (ya s) (psG s g)
def RetCo(s:Sy)(g:Int)(set:List Bool)(w:Ba)(e:Ending)(w':Ba):Prop:=Am w.heap.size w w'/\((zw s g set≠0/\e=Ak (.tuple #[I Z 0 0,O U 0,O U (zw s g set)])) \/
 (zw s g set=0/\∃(M gr:Nat),e=Ak (.tuple #[I (J ⟨gr,0,Z⟩) (ptn s) (ptn s),O U (M:Int),O U 0])/\M<=ptn s/\yq (ptn s) (evG s g) set (M+1)=yq (ptn s) (evG s g) set M/\(∀m,m<M->yq (ptn s) (evG s g) set (m+1)≠yq (ptn s) (evG s g) set m)/\w.heap.size<=gr/\BRow w' gr (yq (ptn s) (evG s g) set M)))
def RetLv(s:Sy)(g:Int)(set:List Bool)(w:Ba)(e:Ending)(w':Ba):Prop:=Am w.heap.size w w'/\((zw s g set≠0/\e=Ak (.tuple #[I Z 0 0,O U (zw s g set)])) \/
 (zw s g set=0/\∃(M gr:Nat),e=Ak (.tuple #[I (J ⟨gr,0,Z⟩) (ptn s) (ptn s),O U 0])/\xv (ptn s) (evG s g) set (M+1)=xv (ptn s) (evG s g) set M/\(∀m,m<M->xv (ptn s) (evG s g) set (m+1)≠xv (ptn s) (evG s g) set m)/\w.heap.size<=gr/\RowAt w' gr (uC (ptn s) (evG s g) set M)))
theorem kN{s:Sy}{g:Int}{set:List Bool}(hf:yU s.p)(h:zw s g set=0):∃G:Nat,g=(G:Int)/\G<32/\s.n.toNat<=5/\1<=ptn s/\ptn s<=700/\set.length=ptn s/\psG s g=zB G s.n.toNat:=by
 obtain⟨h1,h2⟩:=xz h;obtain⟨hv,sn,nC⟩:=uA h1;obtain⟨_,K,N,hF⟩:=yF hf hv;obtain⟨f1,f2,_⟩:=xC hf h1;obtain⟨G,rfl⟩:=Lp sn;have hN:s.n.toNat=N:=by rw[hF.n];rfl
 have nd:=hF.n5;refine⟨G,rfl,?_,by omega,f1,f2,h2,rfl⟩;rw[hN] at nC;have:=Nt (n:=2) (show 0<2 by omega) nd;have h2':((2^N:Nat):Int)=(2:Int)^N:=by push_cast;rfl
 omega
theorem Jp(s:Sy)(hs:LowS s)(hf:yU s.p)(g:Int)(set:List Bool)(A SV AV AX AB:Bb)(kc ks kv kx kb:Nat)(dR:set.length<=1000000)(w:Ba)(hS:SyAt w w.heap.size A SV AV AX s)(bG:BAt w w.heap.size AB set) :
  An Al 74 #[.agg (s.vs_ A kc SV ks AV kv AX kx),O U g,I AB set.length kb] w (RetCo s g set w):=by
 obtain⟨w1,ab,d0,av,hB⟩:=zn w (s.vs_ A kc SV ks AV kv AX kx) 39;have HO:=zH (ub s hs hf g set A SV AV AX AB kc ks kv kx kb dR w1 (hS.up hB));have lW:As (∀X,Am w1.heap.size w1 X->BAt X X.heap.size AB set):=fun X hX=>(((bG.keep hB).more hB.size).keep hX).more hX.size
 have HC:As (zw s g set=0->∃(G M:Nat),g=(G:Int)/\M<=ptn s/\yq (ptn s) (evG s g) set (M+1)=yq (ptn s) (evG s g) set M/\(∀m,m<M->yq (ptn s) (evG s g) set (m+1)≠yq (ptn s) (evG s g) set m)/\set.length=ptn s /\
   ∀(bw:Nat) (X:Ba),Am w1.heap.size w1 X->KwAt X X.heap.size bw (ptn s) s.n.toNat (ya s)->An Al 123 #[Aj (J ⟨bw,0,Z⟩),O U (G:Int),I AB (ptn s) kb] X fun e w'=>∃g':Nat,e=Ak (.tuple #[I (J ⟨g',0,Z⟩) (ptn s) (ptn s),O U (M:Int)])/\X.heap.size<=g'/\BRow w' g' (yq (ptn s) (evG s g) set M)/\Am X.heap.size X w'):=fun h=>by
  obtain⟨G,hg,hG,hN,cZ,l8,hl,cI⟩:=kN hf h;obtain⟨M,m1,m2,m3⟩:=XY (F:=yq (ptn s) (evL (ptn s) (ya s) (psG s g)) set) qH uc;refine⟨G,M,hg,m1,m2,m3,hl,fun bw X hX hK=>?_⟩;unfold evG;rw[cI] at m2 m3 ⊢;exact Jl bw (ptn s) s.n.toNat (ya s) cZ (by omega) hN G hG AB kb set hl M m1 m2 m3 X hK (lW.out X hX)
 unfold RetOp at HO;unfold RetCo;obtain⟨E,hE⟩:=Kj (zw s g set);rw[hE] at HO HC ⊢;obtain⟨n,hn⟩:=Kj (ptn s);rw[hn] at HO HC ⊢;unfold Sy.vs_ at ab d0 HO ⊢;have ag:=zH ab;have HB:=zH hB;clear ab d0 hB hS bG hs hf hE lW hn;go_enter func74,ntmps74;go_wp2_with fail;rw[ag.out];go_wp2_with fail;refine HO.out.mono ?_;rintro e w2 ⟨ae,eo⟩;have au:=zH ae;rcases eo with ⟨h0,rfl⟩ | ⟨rfl,bw,rfl,hK⟩
 . have e0:(E != 0)=Av:=by simpa using h0
   go_wp2_with fail
   go_ret3
   exact⟨Lc HB.out au.out,.inl ⟨h0,rfl⟩⟩
 obtain⟨G,M,rfl,m1,m2,m3,hl,hc⟩:=HC.out rfl;have tt:=zH (hc bw w2 au.out hK);have HM:=zH (And.intro m1 (And.intro m2 m3));rw[hl];go_wp2_with fail;refine tt.out.mono ?_;rintro e w3 ⟨g3,rfl,oR,iR,ak⟩;have lP:=zH iR;have aC:=zH (HB.out.trans ((Lc au.out ak).mono HB.out.size));have pQ:w.heap.size<=g3:=by have:=HB.out.size;have:=au.out.size;omega
 go_wp2_with fail
 go_ret3
 exact⟨aC.out,M,g3,rfl,HM.out.1,HM.out.2.1,HM.out.2.2,pQ,lP.out⟩
end
section
open Go.RowKit
structure K5 where
 a:Int
 b:Int
 c:Int
 d:Int
 e:Int
deriving DecidableEq
def k5C(x:K5):Array Au:=#[O U x.a,O U x.b,O U x.c,O U x.d,O U x.e]
def k5E(x:K5):Au:=.agg (k5C x)
theorem k5_inj(a b:K5)(h:k5E a=k5E b):a=b:=by
 unfold k5E k5C at h;injection h with h
 obtain⟨a0,a1,a2,a3,a4⟩:=a;obtain⟨b0,b1,b2,b3,b4⟩:=b;simpa using h
open Classical in
theorem Qq:KeyOk Al 72 k5E where
 inj:=k5_inj
 check:=fun w em v=>XI w em _ v.a v.b v.c v.d v.e
 equal:=fun w a b=>by
  unfold Op.equal Op.maxDepth k5E k5C;rw[wV _ ⟨0,0,0,a.a,a.b,a.c,a.d,a.e⟩ ⟨0,0,0,b.a,b.b,b.c,b.d,b.e⟩ w]
  by_cases h:a=b
  . subst h;simp[hE]
  . have:¬(k5E a=k5E b):=fun e=>h (k5_inj a b e)
    unfold k5E k5C at this;rw[Lv this];obtain⟨a0,a1,a2,a3,a4⟩:=a;obtain⟨b0,b1,b2,b3,b4⟩:=b;simpa[hE] using h
 now:=fun d hd=>.inr fun a b=>by
  rw[PE] at hd
  cases hd
  simp[Instr.sameNow]
 stays:=fun a=>by simp[Instr.sameBits,k5E,k5C]
 kind:=⟨_,PE⟩
end
section
open Go.RowKit Go.Shelf
section
variable {κ:Type} [DecidableEq κ] {enc:κ->Au}
def nuG(l:List κ):κ->Option Au:=fun k=>if k∈l then J (O U (l.idxOf k:Int)) else Z
theorem nuG_nil:nuG ([]:List κ)=fun _=>Z:=by funext k;simp[nuG]
theorem nuG_put{l:List κ}{k:κ}(h:k∉l):xg (nuG l) k (O U (l.length:Int))=nuG (l++[k]):=by
 funext x
 unfold xg nuG
 by_cases e:x=k
 . subst e
   rw[Lj rfl,Lj (by simp),NI,Lg h];simp
 rw[Lg e]
 by_cases hx:x∈l
 . rw[Lj hx,Lj (by simp[hx]),NI,Lj hx]
 rw[Lg hx,Lg (by simp[hx,e])]
theorem nuG_count{w:Ba}{b n:Nat}{us:List κ}(inj:∀a b,enc a=enc b->a=b)(h:MapOf enc w b n (nuG us))(hu:us.Nodup):∃es bk,w.heap[b]?=J (.map es bk)/\es.size=us.length:=
 h.count inj hu (fun k=>by
  unfold nuG
  by_cases hk:k∈us
  . simp[hk]
  . simp[hk])
end
structure NkIn{κ:Type}[DecidableEq κ](enc:κ->Au)(FT MT:TypeId)(B:Nat)(S:Array Au)(F:Au)(R:Nat->Prop)(us:List κ)(ls:List Int)(w W:Ba):Prop where
 wrote:Wrote R w W
 b0:W.heap[B]?=J (Ag S 39 (0,0))
 b1:W.heap[B+1]?=J (Ag #[F] FT (0,0))
 b3:W.heap[B+1+1+1]?=J (Ag #[.map (J (B+1+1))] MT (0,0))
 b5:W.heap[B+1+1+1+1+1]?=J (Ag S 39 (0,0))
 hm:∃m,MapOf enc W (B+1+1) m (nuG us)
 box:∃P c,W.heap[B+1+1+1+1]?=J (Ag #[I P ls.length c] 50 (0,0))/\Own W (B+6) (I P ls.length c) ls
 sz:B+6<=W.heap.size
section
variable {B:Nat} {S:Array Au} {F:Au} {R:Nat->Prop} {κ:Type} [DecidableEq κ] {enc:κ->Au} {FT MT:TypeId} {us:List κ} {ls:List Int} {w W W':Ba}
theorem NkIn.turn{row:Option Nat}(h:NkIn enc FT MT B S F R us ls w W)(hw:w.heap.size<=B)(hg:W.grownBy W' row)(hr:∀r,row=J r->B+6<=r/\∃o:Obj,W.heap[r]?=J o/\o.isCells=Aw):NkIn enc FT MT B S F R us ls w W':=by
 obtain⟨P,c,hb,ho⟩:=h.box;obtain⟨m,hm⟩:=h.hm;have aP:=h.sz;have old:∀k,k<B+6->W'.heap[k]?=W.heap[k]?:=fun k hk=>hg.block k (by omega) (fun e=>by have:=(hr k e.symm).1;omega)
 refine⟨h.wrote.trans (Wrote.of_grown (R:=fun k=>w.heap.size<=k) hg (fun k e hk=>by have:=(hr k e).1;omega)) (fun k h1 h2=>by omega),(old B (by omega)).trans h.b0,(old _ (by omega)).trans h.b1,(old _ (by omega)).trans h.b3,(old _ (by omega)).trans h.b5,⟨m,hm.same (old _ (by omega))⟩,⟨P,c,(old _ (by omega)).trans hb,ho.kept hg ?_⟩,Lu aP hg.size⟩;rcases e:(I P ls.length c).ownBlock with _ | g
 . exact .inl rfl
 refine .inr fun e2=>?_
 obtain⟨o,h1,h2⟩:=(hr g e2.symm).2;have:=(vu ho g e).2 o h1;rw[this] at h2;cases h2
theorem NkIn.call(h:NkIn enc FT MT B S F R us ls w W)(hw:Wrote R W W')(hR:∀k,R k->k<B):NkIn enc FT MT B S F R us ls w W':=by
 obtain⟨P,c,hb,ho⟩:=h.box;obtain⟨m,hm⟩:=h.hm;have aP:=h.sz;have old:∀k,B<=k->k<W.heap.size->W'.heap[k]?=W.heap[k]?:=fun k hk hl=>hw.block k hl (fun e=>by have:=hR k e;omega)
 exact⟨h.wrote.trans hw (fun _ _ h=>h),(old B (by omega) (by omega)).trans h.b0,(old _ (by omega) (by omega)).trans h.b1,(old _ (by omega) (by omega)).trans h.b3,(old _ (by omega) (by omega)).trans h.b5,⟨m,hm.same (old _ (by omega) (by omega))⟩,⟨P,c,(old _ (by omega) (by omega)).trans hb,ho.same fun k hk hl=>old k (by omega) hl⟩,Lu aP hw.size⟩
theorem NkIn.put{I7:List κ}{m:Nat}(h:NkIn enc FT MT B S F R us ls w W)(hw:w.heap.size<=B)(hg:W.grownBy W' (J (B+1+1)))(hm:MapOf enc W' (B+1+1) m (nuG I7)):NkIn enc FT MT B S F R I7 ls w W':=by
 obtain⟨P,c,hb,ho⟩:=h.box;have aP:=h.sz;have old:∀k,k<W.heap.size->k≠B+1+1->W'.heap[k]?=W.heap[k]?:=fun k hk hl=>hg.block k hk (fun e=>hl (by cases e;rfl))
 exact⟨h.wrote.trans (Wrote.of_grown (R:=fun k=>w.heap.size<=k) hg (fun k e hk=>by cases e;omega)) (fun k h1 h2=>by omega),(old B (by omega) (by omega)).trans h.b0,(old _ (by omega) (by omega)).trans h.b1,(old _ (by omega) (by omega)).trans h.b3,(old _ (by omega) (by omega)).trans h.b5,⟨m,hm⟩,⟨P,c,(old _ (by omega) (by omega)).trans hb,ho.same fun k hk hl=>old k hl (by omega)⟩,Lu aP hg.size⟩
theorem NkIn.push{P P2:Bb}{c c2:Nat}{u:Int}{W1:Ba}(h:NkIn enc FT MT B S F R us ls w W)(hw:w.heap.size<=B)(hb:W.heap[B+1+1+1+1]?=J (Ag #[I P ls.length c] 50 (0,0)))(ho:Own W (B+6) (I P ls.length c) ls)
  (pL:Own W1 (B+6) (I P2 (ls.length+1) c2) (ls++[u])) (hg:W.grownBy W1 (I P ls.length c).ownBlock) :
  NkIn enc FT MT B S F R us (ls++[u]) w (W1.setCell ⟨B+1+1+1+1,0,Z⟩ (I P2 (ls.length+1) c2)):=by
 obtain⟨m,hm⟩:=h.hm;have aP:=h.sz;have iE:=ho.lt;have av:=hg.size;have tx:∀k,k<B+6->W1.heap[k]?=W.heap[k]?:=fun k hk=>hg.block k (by omega) (fun e=>by have:=(iE k e.symm).1;omega)
 have aF:=(tx _ (by omega)).trans hb;obtain⟨x1,x2,x3⟩:=qv aF (I P2 (ls.length+1) c2);have old:∀k,k<B+6->k≠B+1+1+1+1->(W1.setCell ⟨B+1+1+1+1,0,Z⟩ (I P2 (ls.length+1) c2)).heap[k]?=W.heap[k]?:=fun k hk az=>(x3 k az).trans (tx k hk)
 refine⟨?_,(old B (by omega) (by omega)).trans h.b0,(old _ (by omega) (by omega)).trans h.b1,(old _ (by omega) (by omega)).trans h.b3,(old _ (by omega) (by omega)).trans h.b5,⟨m,hm.same (old _ (by omega) (by omega))⟩,⟨P2,c2,by rw[Lr];exact x1,by rw[Lr];exact pL.same fun k hk _=>x3 k (by omega)⟩,by rw[show(W1.setCell ⟨B+1+1+1+1,0,Z⟩ (I P2 (ls.length+1) c2)).heap.size=W1.heap.size by simp[World.setCell]];omega⟩;have a1:Wrote (fun k=>w.heap.size<=k) W W1:=Wrote.of_grown hg (fun k e hk=>by have:=(iE k e).1;omega);have a2:Wrote (fun k=>w.heap.size<=k) W1 (W1.setCell ⟨B+1+1+1+1,0,Z⟩ (I P2 (ls.length+1) c2)):=Wrote.of_grown (zV W1 _ 0 _) (fun k e hk=>by cases e;omega);exact h.wrote.trans (a1.trans a2 (fun _ _ h=>h)) (fun k h1 h2=>by omega)
theorem NkIn.keeps{P:Bb}{c:Nat}{W1:Ba}(h:NkIn enc FT MT B S F R us ls w W)(hb:W.heap[B+1+1+1+1]?=J (Ag #[I P ls.length c] 50 (0,0)))(ho:Own W (B+6) (I P ls.length c) ls)
  (hg:W.grownBy W1 (I P ls.length c).ownBlock) (v:Au):KeepsFrom (B+6) W (W1.setCell ⟨B+1+1+1+1,0,Z⟩ v)/\KeepB (fun k=>k=B+1+1+1+1+1) W (W1.setCell ⟨B+1+1+1+1,0,Z⟩ v):=by
 have iE:=ho.lt;have aP:=h.sz;have av:=hg.size;have aF:=(hg.block (B+1+1+1+1) (by omega) (fun e=>by have:=(iE _ e.symm).1;omega)).trans hb;obtain⟨x1,x2,x3⟩:=qv aF v;refine⟨⟨by simp[World.setCell];omega,fun k o hk aM pL=>?_⟩,⟨by simp[World.setCell];omega,fun k hk hl=>?_⟩⟩
 . refine(x3 k (by omega)).trans ((hg.block k (zj aM) (fun e=>?_)).trans aM)
   have:=(vu ho k e.symm).2 o aM;rw[this] at pL;cases pL
 subst hk;exact(x3 _ (by omega)).trans (hg.block _ (by omega) (fun e=>by have:=(iE _ e.symm).1;omega))
end
end
section
open Go.RowKit Go.Shelf
attribute [local go_sem] Oper.semAt_some
theorem YU(s:Sy)(K M:Nat)(hK:K<=100)(hM:M<=100)(hk:s.p.k=(K:Int))(hx:s.xs.length=M)(A SV AV AX:Bb)(kc ks kv kx:Nat)(kf:Nat)(kb:Array Au)(ek:Enters Al kf)(key:Nat×Nat->K5)
  (R:Nat->Prop) (Af:Ba->Prop) (w:Ba) (hR:∀k,R k->k<w.heap.size) (eS:Af w) (hJ:∀W W',Af W->Wrote (fun k=>w.heap.size<=k) W W'->Af W')
  (tR:∀x∈zt (K+1) 0 M,∀W,Af W->w.heap.size<=W.heap.size->An Al kf (#[Ai #[O U x.1,O U x.2]]++kb) W fun e w'=>e=Ak (k5E (key x))/\Af w'/\Wrote R W w') :
  An Al 164 #[.agg (s.vs_ A kc SV ks AV kv AX kx),.func (.func kf) #[] kb] w fun e w'=>∃v,e=Ak v/\Own w' w.heap.size v (kD ((zt (K+1) 0 M).map key))/\Af w'/\Wrote R w w':=by
 have hC:PtC (s.vs_ A kc SV ks AV kv AX kx) K M AX kx:=⟨by unfold Sy.vs_;rw[<-hk];rfl,by unfold Sy.vs_;rw[<-hx];rfl⟩
 have ay:(zt (K+1) 0 M).length<=20000:=by
  rw[vt (K+1) M (by omega)];exact Lu (LU hM (show K+1<=101 by omega)) (by decide)
 have dG:=zH (fun (bs:Nat) (W:Ba) (hb:W.heap[bs]?=J (Ag (s.vs_ A kc SV ks AV kv AX kx) 39 (0,0)))=>gi (s.vs_ A kc SV ks AV kv AX kx) K M hK hM AX kx hC bs W hb);have EP:=zH (fun (W:Ba)=>Qy s A SV AV AX kc ks kv kx W);have Bl:=zH tR;have HJ:=zH hJ;have HJ0:=zH eS;have hz:∀W:Ba,(zeroValue 3).run Al W=.ok (O U 0) W:=fun W=>by kernel_rfl
 have ht:Al.underlying 249=J (.map 72 3):=underlying249;have iD:=@run_makeMap Al;obtain⟨L,hL⟩:=Kj (zt (K+1) 0 M);rw[hL] at dG Bl ay ⊢;unfold Sy.vs_ at dG EP ⊢;clear tR hJ eS hL hC hk hx;refine yg func164 rfl ?_;simp only[ntmps164,List.size_toArray,List.length_cons,List.length_nil,Nat.reduceAdd,Nat.reduceSub,Array.replicate_succ,Array.replicate_zero,List.push_toArray,List.append_toArray,List.nil_append,List.cons_append];go_wp2_with fail;refine(EP.out _).mono ?_;rintro e w2 ⟨rfl,bh⟩;obtain⟨S,hS⟩:∃S,S=#[O U s.p.t.n,O U s.p.t.ins,O U s.p.t.outs,I A s.p.t.cases.length kc,O U s.p.a.n,I SV s.p.a.sts.length ks,O U s.p.k,O U s.n,I AV s.vs.length kv,I AX s.xs.length kx]:=⟨_,rfl⟩;rw[<-hS] at bh dG
 have Az:NkIn k5E 239 249 w.heap.size S (.func (.func kf) #[] kb) R [] [] w w2/\Wrote (fun k=>w.heap.size<=k) w w2:=by
  obtain⟨a1,h1,x1,y1,z1⟩:=zn w S 39;rw[h1] at bh;obtain⟨a2,h2,x2,y2,z2⟩:=zn a1 #[.func (.func kf) #[] kb] 239;rw[h2] at bh;obtain⟨a3,h3⟩:=Kj (a2.alloc (.map #[] 0));have m3:MapOf k5E a3 a2.heap.size 0 (fun _=>Z):=by rw[<-h3];exact MapOf.made a2
  have y3:a3.heap.size=a2.heap.size+1:=by rw[<-h3];simp
  have z3:Am a2.heap.size a2 a3:=by rw[<-h3];exact zW _ _
  rw[h3] at bh;obtain⟨a4,h4,x4,y4,z4⟩:=zn a3 #[.map (J (w.heap.size+1+1))] 249;rw[h4] at bh;obtain⟨a5,h5,x5,y5,z5⟩:=zn a4 #[I Z 0 0] 50;rw[h5] at bh;obtain⟨a6,h6,x6,y6,z6⟩:=zn a5 S 39;rw[h6] at bh;subst bh;rw[y1] at x2 y2;rw[y2] at m3 y3;rw[y3] at x4 y4;rw[y4] at x5 y5;rw[y5] at x6 y6
  have w1:Wrote (fun k=>w.heap.size<=k) w a6:=by
   have b1:=(Wrote.of_below (R:=fun k=>w.heap.size<=k) z1).trans (Wrote.of_below (R:=fun k=>w.heap.size<=k) z2) (fun _ _ h=>h);have b2:=(b1.trans (Wrote.of_below (R:=fun k=>w.heap.size<=k) z3) (fun _ _ h=>h)).trans (Wrote.of_below (R:=fun k=>w.heap.size<=k) z4) (fun _ _ h=>h);exact((b2.trans (Wrote.of_below (R:=fun k=>w.heap.size<=k) z5) (fun _ _ h=>h)).trans (Wrote.of_below (R:=fun k=>w.heap.size<=k) z6) (fun _ _ h=>h))
  refine⟨⟨w1.more (fun k h1 h2=>by omega),?_,?_,?_,x6,⟨0,?_⟩,⟨Z,0,?_,Own.nil _ _⟩,by omega⟩,w1⟩
  . exact Lb z6 (by omega) (Lb z5 (by omega) (Lb z4 (by omega) (Lb z3 (by omega) (Lb z2 (by omega) x1))))
  . exact Lb z6 (by omega) (Lb z5 (by omega) (Lb z4 (by omega) (Lb z3 (by omega) x2)))
  . exact Lb z6 (by omega) (Lb z5 (by omega) x4)
  . rw[nuG_nil]
    exact m3.same (Lb z6 (by omega) (Lb z5 (by omega) (z4.block _ (by omega))))
  exact Lb z6 (by omega) x5
 have ee:w2.heap.size=w.heap.size+6:=by rw[<-bh];simp
 have IN:As (Af w2):=HJ.out w w2 HJ0.out Az.2;have GT:=zH (dG.out (w.heap.size+1+1+1+1+1) w2 Az.1.b5);have HN:=zH Az.1;go_wp2_with fail
 refine qp rfl (NA Sg (by kernel_rfl) rfl) GT.out (by rintro x rfl;omega) (fun _=>rfl)
  (fun (pre:List { x:Nat×Nat // x∈L }) (X:Ba)=>NkIn k5E 239 249 w.heap.size S (.func (.func kf) #[] kb) R (qb (pre.map fun x=>key x.1)) (kD (pre.map fun x=>key x.1)) w X/\Af X)
  (fun _ _ _=>False)
  ?hI (fun _ _ _ _ _ h _ _=>h)
  ⟨HN.out,IN.out⟩ (fun x=>#[O U x.1,O U x.2]) 178 ?a1 ?assign ?body ?done ?stop (fun _ _ h=>by have:=h.1.sz;omega)
 case hI=>
  intro pre X X' row hX hg hr;refine⟨hX.1.turn (Ld _) hg (fun r e=>⟨by have:=(hr r e).1;omega,(hr r e).2⟩),HJ.out X X' hX.2 (Wrote.of_grown hg fun k e hk=>by have:=(hr k e).1;omega)⟩
 case assign=>
  intro l pre x X K' hI hK;obtain⟨g',fO⟩:∃g',g'=X.heap.size:=⟨_,rfl⟩;have HK:=zH (hK g' fO ⟨hI.1.turn (Ld _) (row:=Z) ⟨rfl,rfl,rfl,by simp,fun k hk _=>Nj X _ k hk⟩ (fun r e=>by cases e),HJ.out X _ hI.2 (Wrote.of_below (zW X _))⟩);have HG:=zH fO;gi_wp2;rw[<-HG.out];exact HK.out
 case body=>
  intro l pre x g W3 hg dK hI hlt;obtain⟨us,lz⟩:∃us,qb (pre.map fun x=>key x.1)=us:=⟨_,rfl⟩;obtain⟨ls,Fy⟩:∃ls,kD (pre.map fun x=>key x.1)=ls:=⟨_,rfl⟩;have aJ:ls.length<=20000:=by rw[<-Fy,jY,LG];omega
  have Hv:us.Nodup:=by rw[<-lz];exact gV _
  obtain⟨kk,tQ⟩:=Kj (key x.1);have Fa:qb ((pre++[x]).map fun x=>key x.1)=kX us kk:=by rw[LF,L4,Nd,vT,lz,tQ]
  have Fw:kD ((pre++[x]).map fun x=>key x.1)=ls++[if kk∈us then (us.idxOf kk:Int) else (us.length:Int)]:=by
   rw[LF,L4,Nd,Xu,lz,Fy,tQ]
   congr 2
   by_cases h:kk∈us
   . rw[Lj h,Lj (xW.1 (lz▸h))]
   rw[Lg h,Lg (fun e=>h (lz▸xW.2 e))]
  rw[lz,Fy] at hI;have aB:=Bl.out x.1 x.2 W3 hI.2 (by have:=hI.1.sz;omega);rw[tQ] at aB;have HC:=zH aB;have Dh:=zH hI.1;have rj:=zH Fa;have mn:=zH Fw;have HUN:=zH Hv;have q1:=zh hI.1.b1 0 rfl;obtain⟨g0,g1,_⟩:=Ke dK;gi_wp2_with fail;refine⟨trivial,?_⟩;rw[ek];refine⟨fun _=>by omega,(Sr l ((Se (n:=6)).2 HC.out)).mono ?_⟩;rintro e W4 ⟨rfl,Is,fh⟩;have VO:=Dh.out.call fh hR;obtain⟨nU,sv,d8,sc,eD⟩:=zn W4 (k5C kk) 72;have iH:W4.grownBy nU Z:=by rw[<-sv];exact⟨rfl,rfl,rfl,by simp,fun k hk _=>Nj W4 _ k hk⟩
  have nX:=zH (VO.turn (Ld _) iH (fun r e=>by cases e));have Is:=HJ.out W4 nU Is (Wrote.of_below eD);have SF:=zH Is
  have fh:As (KeepsFrom w2.heap.size W3 nU/\KeepB (fun k=>k=w.heap.size+1+1+1+1+1) W3 nU):=by
   have hz4:=fh.size;refine⟨⟨by omega,fun k o hk aM _=>(eD.block k (by have:=zj aM;omega)).trans ((fh.block k (zj aM) (fun e=>by have:=hR k e;omega)).trans aM)⟩,⟨by omega,fun k hk hl=>(eD.block k (by omega)).trans (fh.block k hl (fun e=>by have:=hR k e;subst hk;omega))⟩⟩
  have im:=fh;have UP:=zH d8;have HWW:=zH sv;have hl8:=zj d8;unfold k5C at sv d8;have Ie:k5E kk=Ai #[O U kk.a,O U kk.b,O U kk.c,O U kk.d,O U kk.e]:=rfl;have pf:=zH Ie;rw[Ie];obtain⟨v0,v1,v2,v3,v4,_⟩:=Kh d8;have hz34:w.heap.size+6<=W4.heap.size:=VO.sz;have q3:=zh nX.out.b3 0 rfl;clear Ie VO sc eD iH
  gi_upto_region 6 with fail
  unfold k5C at UP;obtain⟨m,hm⟩:=nX.out.hm;have dS:=hm.look2 Qq ht (hz nU) kk;have Bj:=zH hm;clear q1 g0 g1 HC Is fh hm sv d8
  by_cases cx:kk∈us
  case pos=>
   have hf:nuG us kk=J (O U (us.idxOf kk:Int)):=Lj cx;have HNU:As ((nuG us kk).getD (O U 0)=O U (us.idxOf kk:Int)):=by rw[hf];rfl
   rw[hf,pf.out] at dS;simp only[Option.getD_some,Option.isSome_some] at dS;have Dd:As (qb ((pre++[x]).map fun x=>key x.1)=us):=rj.out.trans (Lj cx);have Dj:As (kD ((pre++[x]).map fun x=>key x.1)=ls++[(us.idxOf kk:Int)]):=mn.out.trans (by rw[Lj cx]);clear rj mn;have rj:=Dd;have mn:=Dj;clear Dd Dj hf cx Bj;obtain⟨P,c,cd,ho⟩:=nX.out.box;have bD:=zH cd;have HO:=zH ho;have HJB:=SF;have sG:=im;have Hb:=UP.out;clear cd ho;have SR:As (nU.heap[W4.heap.size]?=J (Ag #[O U kk.a,O U kk.b,O U kk.c,O U kk.d,O U kk.e] 72 (0,0))):=Hb;have LD:=zH (And.intro (zj nX.out.b3) (And.intro (zj bD.out) (zj SR.out)))
   have IL:As (∀X:Ba,(∀k,k<nU.heap.size->X.heap[k]?=nU.heap[k]?)->(Instr.lookup 249 (.map (J (w.heap.size+1+1))) (Ai #[O U kk.a,O U kk.b,O U kk.c,O U kk.d,O U kk.e]) Aw).run Al X=.ok (O U (us.idxOf kk:Int)) X):=fun X hX=>by
    obtain⟨m9,Mw⟩:=nX.out.hm;have h9:=(Mw.same (hX _ (by have:=nX.out.sz;omega))).look Qq ht (hz X) kk;rw[HNU.out,pf.out] at h9;exact h9
   have tB:=nX.out.sz;gi_wp2_with fail;refine zS [(0,Av),(1,Av),(2,Av),(3,Av),(4,Aw),(5,Aw),(6,Aw)] (fun X=>∀k,k<nU.heap.size->X.heap[k]?=nU.heap[k]?) (by kernel_rfl) (by kernel_rfl) (by kernel_rfl) (by rintro⟨_,_,h⟩;exact h) (fun _ _=>rfl) ?_
   repeat
    apply zk rfl
    . rintro K' aa X hX
      have y3:=zh ((hX _ LD.out.1).trans nX.out.b3) 0 rfl;have y4:=zh ((hX _ LD.out.2.1).trans bD.out) 0 rfl;obtain⟨y50,y51,y52,y53,y54,_⟩:=Kh ((hX _ LD.out.2.2).trans SR.out);have ylk:=IL.out X hX;clear hX;go_simp;exact aa
   refine zu rfl ?_;intro K' aa;go_simp;obtain⟨WA,hWA,dA,Vt,iK⟩:=Zy nU #[O U (us.idxOf kk:Int)] 3;rw[hWA];have WG:nU.grownBy WA Z:=⟨iK.os,iK.tape,iK.output,iK.size,fun k hk _=>iK.block k hk⟩;have oF:=zH (nX.out.turn (Ld _) WG (fun r e=>by cases e));have SE:=zH (HJ.out _ _ HJB.out (Wrote.of_below iK));have lW:=zH iK;refine aa _ _ (fun k hk=>iK.block k hk) ?_;refine yd rfl (by kernel_rfl) ?_;intro K' aa;rw[Lj (by rfl)];have ig:=Lb lW.out LD.out.2.1 bD.out;have sd:Own WA (w.heap.size+6) (I P ls.length c) ls:=HO.out.below iK (Ld _);refine qP ud (.tmp 30) (.tmp 34) (by rfl) (w.heap.size+6) (I P ls.length c) ls.length (ls.map (O U)) (by rfl) sd nU.heap.size #[O U (us.idxOf kk:Int)] (by rfl) dA rfl (by simp[Value.oneCell']) (by omega) (by omega) _ rfl ?_;intro g6 k6 W6 rD fF CV CH
   have oO:Own W6 (w.heap.size+6) (I (J ⟨g6,0,Z⟩) (ls.length+1) k6) (ls++[(us.idxOf kk:Int)]):=by
    have h:=rD;unfold Own;rw[LF,Lr];exact h
   have py:=(fF.block (w.heap.size+1+1+1+1) (zj ig) (fun e=>uB sd ig (by decide) e.symm)).trans ig;have q6:=zh py 0 rfl;have f6:=zi py 0;have l6:=zj py;have sg:=oF.out.keeps ig sd fF (I (J ⟨g6,0,Z⟩) (ls.length+1) k6);have CA:=oF.out.push (Ld _) ig sd oO fF
   have OH:Af (W6.setCell ⟨w.heap.size+1+1+1+1,0,Z⟩ (I (J ⟨g6,0,Z⟩) (ls.length+1) k6)):=by
    have a2:Wrote (fun k=>w.heap.size<=k) WA W6:=Wrote.of_grown fF (fun k e hk=>by have:=(sd.lt k e).1;omega);have a3:Wrote (fun k=>w.heap.size<=k) W6 (W6.setCell ⟨w.heap.size+1+1+1+1,0,Z⟩ (I (J ⟨g6,0,Z⟩) (ls.length+1) k6)):=Wrote.of_grown (zV W6 _ 0 _) (fun k e hk=>by cases e;omega);exact HJ.out _ _ SE.out (a2.trans a3 (fun _ _ h=>h))
   have Sv:=zH sg;have De:=zH CA;have HJ6:=zH OH;refine aa (fun _=>True) _ _ trivial ?_;clear aa K' rD fF CV CH oO py sg CA OH sd ig iK dA Vt;refine zu rfl ?_;intro K' aa;go_simp;refine aa _ _ trivial ?_;clear aa K';refine zz ?_;gi_wp2_with fail;refine⟨(sG.out.1.trans (ee▸xY lW.out)).trans (ee▸Sv.out.1),(sG.out.2.trans (KeepB.of_below lW.out (by rintro k rfl;have:=nX.out.sz;omega))).trans Sv.out.2,?_,HJ6.out⟩;rw[rj.out,mn.out];exact De.out
  have hf:nuG us kk=Z:=Lg cx;rw[hf,pf.out] at dS;simp only[Option.getD_none,Option.isSome_none] at dS;have Dd:As (qb ((pre++[x]).map fun x=>key x.1)=us++[kk]):=rj.out.trans (Lg cx);have Dj:As (kD ((pre++[x]).map fun x=>key x.1)=ls++[(us.length:Int)]):=mn.out.trans (by rw[Lg cx]);obtain⟨es,bk,TQ,CP⟩:=nuG_count k5_inj Bj.out HUN.out;obtain⟨W5,dm,pk,bY⟩:=Bj.out.put Qq ht kk (O U (us.length:Int));rw[nuG_put cx] at pk;have o9:=zH (nX.out.put (Ld _) bY pk);have io:=zH bY
  have HNU:As ((nuG (us++[kk]) kk).getD (O U 0)=O U (us.length:Int)):=by
   unfold nuG As;rw[Lj (by simp),NI,Lg cx];simp
  have HJB:=zH (HJ.out nU W5 SF.out (Wrote.of_grown bY fun k e hk=>by cases e;omega))
  have mJ:As (KeepsFrom w2.heap.size nU W5/\KeepB (fun k=>k=w.heap.size+1+1+1+1+1) nU W5):=by
   refine⟨⟨bY.size,fun k o hk aM _=>(bY.block k (zj aM) (fun e=>by cases e;omega)).trans aM⟩,⟨bY.size,fun k hk hl=>bY.block k hl (fun e=>by cases e;omega)⟩⟩
  have sG:=zH (And.intro (im.out.1.trans mJ.out.1) (im.out.2.trans mJ.out.2));obtain⟨P,c,cd,ho⟩:=o9.out.box;have bD:=zH cd;have HO:=zH ho;have q35:=zh o9.out.b3 0 rfl;have Hb:=(io.out.block _ (zj UP.out) (fun e=>by have:=NS e;omega)).trans UP.out;rw[pf.out] at dm;clear rj mn;have rj:=Dd;have mn:=Dj;clear Dd Dj hf cx Bj pk bY cd ho mJ
  have rI:(Builtin.len_ #[249] 3 #[.map (J (w.heap.size+1+1))]).run Al nU=.ok (O U (us.length:Int)) nU:=by
   rw[<-CP];exact run_len_map nU _ _ _ es bk (by kernel_rfl) TQ
  clear TQ CP;have SR:As (W5.heap[W4.heap.size]?=J (Ag #[O U kk.a,O U kk.b,O U kk.c,O U kk.d,O U kk.e] 72 (0,0))):=Hb;have LD:=zH (And.intro (zj o9.out.b3) (And.intro (zj bD.out) (zj SR.out)))
  have IL:As (∀X:Ba,(∀k,k<W5.heap.size->X.heap[k]?=W5.heap[k]?)->(Instr.lookup 249 (.map (J (w.heap.size+1+1))) (Ai #[O U kk.a,O U kk.b,O U kk.c,O U kk.d,O U kk.e]) Aw).run Al X=.ok (O U (us.length:Int)) X):=fun X hX=>by
   obtain⟨m9,Mw⟩:=o9.out.hm;have h9:=(Mw.same (hX _ (by have:=o9.out.sz;omega))).look Qq ht (hz X) kk;rw[HNU.out,pf.out] at h9;exact h9
  have tB:=o9.out.sz;gi_wp2_with fail;refine zS [(0,Av),(1,Av),(2,Av),(3,Av),(4,Aw),(5,Aw),(6,Aw)] (fun X=>∀k,k<W5.heap.size->X.heap[k]?=W5.heap[k]?) (by kernel_rfl) (by kernel_rfl) (by kernel_rfl) (by rintro⟨_,_,h⟩;exact h) (fun _ _=>rfl) ?_
  repeat
   apply zk rfl
   . rintro K' aa X hX
     have y3:=zh ((hX _ LD.out.1).trans o9.out.b3) 0 rfl;have y4:=zh ((hX _ LD.out.2.1).trans bD.out) 0 rfl;obtain⟨y50,y51,y52,y53,y54,_⟩:=Kh ((hX _ LD.out.2.2).trans SR.out);have ylk:=IL.out X hX;clear hX;go_simp;exact aa
  refine zu rfl ?_;intro K' aa;go_simp;obtain⟨WA,hWA,dA,Vt,iK⟩:=Zy W5 #[O U (us.length:Int)] 3;rw[hWA];have WG:W5.grownBy WA Z:=⟨iK.os,iK.tape,iK.output,iK.size,fun k hk _=>iK.block k hk⟩;have oF:=zH (o9.out.turn (Ld _) WG (fun r e=>by cases e));have SE:=zH (HJ.out _ _ HJB.out (Wrote.of_below iK));have lW:=zH iK;refine aa _ _ (fun k hk=>iK.block k hk) ?_;refine yd rfl (by kernel_rfl) ?_;intro K' aa;rw[Lj (by rfl)];have ig:=Lb lW.out LD.out.2.1 bD.out;have sd:Own WA (w.heap.size+6) (I P ls.length c) ls:=HO.out.below iK (Ld _);refine qP ud (.tmp 30) (.tmp 34) (by rfl) (w.heap.size+6) (I P ls.length c) ls.length (ls.map (O U)) (by rfl) sd W5.heap.size #[O U (us.length:Int)] (by rfl) dA rfl (by simp[Value.oneCell']) (by omega) (by omega) _ rfl ?_;intro g6 k6 W6 rD fF CV CH
  have oO:Own W6 (w.heap.size+6) (I (J ⟨g6,0,Z⟩) (ls.length+1) k6) (ls++[(us.length:Int)]):=by
   have h:=rD;unfold Own;rw[LF,Lr];exact h
  have py:=(fF.block (w.heap.size+1+1+1+1) (zj ig) (fun e=>uB sd ig (by decide) e.symm)).trans ig;have q6:=zh py 0 rfl;have f6:=zi py 0;have sg:=oF.out.keeps ig sd fF (I (J ⟨g6,0,Z⟩) (ls.length+1) k6);have CA:=oF.out.push (Ld _) ig sd oO fF
  have OH:Af (W6.setCell ⟨w.heap.size+1+1+1+1,0,Z⟩ (I (J ⟨g6,0,Z⟩) (ls.length+1) k6)):=by
   have a2:Wrote (fun k=>w.heap.size<=k) WA W6:=Wrote.of_grown fF (fun k e hk=>by have:=(sd.lt k e).1;omega);have a3:Wrote (fun k=>w.heap.size<=k) W6 (W6.setCell ⟨w.heap.size+1+1+1+1,0,Z⟩ (I (J ⟨g6,0,Z⟩) (ls.length+1) k6)):=Wrote.of_grown (zV W6 _ 0 _) (fun k e hk=>by cases e;omega);exact HJ.out _ _ SE.out (a2.trans a3 (fun _ _ h=>h))
  have Sv:=zH sg;have De:=zH CA;have HJ6:=zH OH;refine aa (fun _=>True) _ _ trivial ?_;clear aa K' rD fF CV CH oO py sg CA OH sd ig iK dA Vt;refine zu rfl ?_;intro K' aa;go_simp;refine aa _ _ trivial ?_;clear aa K';refine zz ?_;gi_wp2_with fail;refine⟨(sG.out.1.trans (ee▸xY lW.out)).trans (ee▸Sv.out.1),(sG.out.2.trans (KeepB.of_below lW.out (by rintro k rfl;have:=o9.out.sz;omega))).trans Sv.out.2,?_,HJ6.out⟩;rw[rj.out,mn.out];exact De.out
 case done=>
  intro D ys W hD eJ hI eq;have ny:ys.map (fun x=>key x.1)=L.map key:=by rw[show ys.map (fun x=>key x.1)=(ys.map (·.1)).map key by rw[PP];rfl,eJ]
  rw[ny] at hI;obtain⟨hN,hJW⟩:=hI;obtain⟨P,c,cd,ho⟩:=hN.box;have q4:=zh cd 0 rfl;have HN9:=zH hN;have HO:=zH ho;have HJ9:=zH hJW;have Cg:=zH eq;go_wp2_with fail;refine yo (B:=w2.heap.size) (w:=W) (show Marks w2.heap.size _ W from⟨[D],rfl,by simp,fun r hr=>by rw[LQ] at hr;subst hr;exact⟨hD,Cg.out⟩⟩) (v:=.slice P (kD (L.map key)).length c) (fun W=>by kernel_rfl) ?_;intro X hS;have hb:Am w2.heap.size W X:=hS.below;refine⟨_,rfl,(HO.out.shut hS).low (by omega),HJ.out W X HJ9.out ⟨hb.os,hb.tape,hb.output,hb.size,fun k hk hn=>hb.block k (by omega)⟩,HN9.out.wrote.trans (R':=fun k=>w2.heap.size<=k) ⟨hb.os,hb.tape,hb.output,hb.size,fun k hk hn=>hb.block k (by omega)⟩ (fun k h1 h2=>by omega)⟩
 intro D c pre W _ _ h;exact h.elim
theorem JA(s:Sy)(hs:LowS s)(hf:yU s.p)(g:Int)(A SV AV AX:Bb)(kc ks kv kx:Nat)(w:Ba)(hS:SyAt w w.heap.size A SV AV AX s) :
  An Al 163 #[.agg (s.vs_ A kc SV ks AV kv AX kx),O U g] w fun e w'=>e=Ak (O U (zQ s g))/\Am w.heap.size w w':=by
 obtain⟨w1,ab,d0,av,hB⟩:=zn w (s.vs_ A kc SV ks AV kv AX kx) 39;have HV:=zH (vi s hs hf A SV AV AX kc ks kv kx w1 (hS.up hB));have be:As (yc s≠0->zQ s g=yc s):=fun h=>Lj h
 have ai:As (yc s=0->zQ s g=if yY s.n g=0 then 0 else 2):=fun h=>by
  obtain⟨_,K,N,hF⟩:=yF hf h;have hn:=hF.n;have cZ:=hF.n1;have nd:=hF.n5;have h2:((2^N:Nat):Int)=(2:Int)^N:=by push_cast;rfl
  have h3:¬(s.n<1\/5<s.n):=by omega
  have e2:zQ s g=if g<0\/(2:Int)^N<=g then 2 else 0:=by unfold zQ;rw[Lg (by simpa using h),hn,Lm]
  have e3:yY s.n g=if g<0\/(2:Int)^N<=g then 2 else 0:=by unfold yY;rw[Lg h3,hn,Lm,h2]
  rw[e2,e3]
  by_cases hg:g<0\/(2:Int)^N<=g
  . simp only[if_pos hg];rfl
  . simp only[if_neg hg];rfl
 obtain⟨r,hr⟩:=Kj (yc s);rw[hr] at HV be ai;obtain⟨R,de⟩:=Kj (zQ s g);rw[de] at be ai ⊢;unfold Sy.vs_ at ab d0 HV ⊢;have ag:=zH ab;have HB:=zH hB;have HD:=zH d0;clear ab d0 hB hS hr de hs hf;go_enter func163,ntmps163;go_wp2_with fail;rw[ag.out];go_wp2_with fail;refine HV.out.mono ?_;rintro e w2 ⟨rfl,ae⟩;have au:=zH (HB.out.trans (ae.mono (by omega)));have d0:=Lb ae (by omega:w.heap.size<w1.heap.size) HD.out
 by_cases h0:r=0
 case neg=>
  have hR:As (R=r):=be.out h0;have e0:(r != 0)=Av:=by simpa using h0
  clear be ai d0;go_wp2_with fail;go_ret;rw[hR.out];exact⟨rfl,au.out⟩
 case pos=>
 subst h0;have p7:=zh d0 7 rfl;have HC:=zH (XJ s.n g w2);have hR:=zH (ai.out rfl);obtain⟨q,hq⟩:=Kj (yY s.n g);rw[hq] at HC hR;clear be ai d0 hq;go_wp2_with fail;refine HC.out.mono ?_;rintro e w3 ⟨rfl,rfl⟩
 by_cases h1:q=0
 . subst h1
   have fd:As (R=0):=hR.out;go_wp2_with fail;go_ret;rw[fd.out];exact⟨rfl,au.out⟩
 have fd:As (R=2):=by rw[As,hR.out,Lg h1]
 have e1:(q != 0)=Av:=by simpa using h1
 go_wp2_with fail;go_ret;rw[fd.out];exact⟨rfl,au.out⟩
theorem Y5{H:Nat}{w w':Ba}(h:Wrote (fun k=>k=H) w w')(hH:H<=w.heap.size):Am H w w':=⟨h.os,h.tape,h.output,h.size,fun k hk=>h.block k (by omega) (by omega)⟩
def kq(G:Nat)(f:Nat->Int)(j i:Nat):Int:=if i<j/\G.testBit i=Av then f i+1 else 0
def kz(G:Nat)(f:Nat->Int)(j:Nat):K5:=⟨kq G f j 0,kq G f j 1,kq G f j 2,kq G f j 3,kq G f j 4⟩
theorem kz_zero(G:Nat)(f:Nat->Int):k5C (kz G f 0)=#[O U 0,O U 0,O U 0,O U 0,O U 0]:=by simp[k5C,kz,kq]
theorem kq_not{G:Nat}{f:Nat->Int}{j:Nat}(h:G.testBit j=Aw)(i:Nat):kq G f (j+1) i=kq G f j i:=by
 unfold kq
 by_cases e:i=j
 . subst e;simp[h]
 have:(i<j+1)=(i<j):=by apply propext;omega
 simp only[this]
theorem kz_not{G:Nat}{f:Nat->Int}{j:Nat}(h:G.testBit j=Aw):kz G f (j+1)=kz G f j:=by
 unfold kz;simp only[kq_not h]
theorem kq_hit{G:Nat}{f:Nat->Int}{j:Nat}(h:G.testBit j=Av)(i:Nat):kq G f (j+1) i=if i=j then f j+1 else kq G f j i:=by
 unfold kq
 by_cases e:i=j
 . subst e;simp[h]
 have:(i<j+1)=(i<j):=by apply propext;omega
 simp only[this,if_neg e]
theorem kz_hit{G:Nat}{f:Nat->Int}{j:Nat}(h:G.testBit j=Av)(hj:j<5):k5C (kz G f (j+1))=(k5C (kz G f j)).set! j (O U (f j+1)):=by
 unfold kz k5C;simp only[kq_hit h];rcases j with _ | _ | _ | _ | _ | j
 . simp
 . simp
 . simp
 . simp
 . simp
 omega
theorem k5_cell{w:Ba}{b:Nat}{x:K5}(h:w.heap[b]?=J (Ag (k5C x) 72 (0,0)))(j:Nat)(hj:j<5):∃u,w.cell? ⟨b,j,Z⟩=J u/\∃m,u=O U m:=by
 rcases j with _ | _ | _ | _ | _ | j
 . exact⟨_,zh h 0 rfl,_,rfl⟩
 . exact⟨_,zh h 1 rfl,_,rfl⟩
 . exact⟨_,zh h 2 rfl,_,rfl⟩
 . exact⟨_,zh h 3 rfl,_,rfl⟩
 . exact⟨_,zh h 4 rfl,_,rfl⟩
 omega
theorem gd{h j:Nat}(hh:h<32)(hj:j<5):(bits BinOp.and U ((h:Int) / 2^j) 1==1)=h.testBit j:=by
 match j,hj with
 | 0,_=>exact LA (kr (p:=fun h=>decide ((bits BinOp.and U ((h:Int) / 2^0) 1==1)=h.testBit 0)) (by decide +kernel) hh)
 | 1,_=>exact LA (kr (p:=fun h=>decide ((bits BinOp.and U ((h:Int) / 2^1) 1==1)=h.testBit 1)) (by decide +kernel) hh)
 | 2,_=>exact LA (kr (p:=fun h=>decide ((bits BinOp.and U ((h:Int) / 2^2) 1==1)=h.testBit 2)) (by decide +kernel) hh)
 | 3,_=>exact LA (kr (p:=fun h=>decide ((bits BinOp.and U ((h:Int) / 2^3) 1==1)=h.testBit 3)) (by decide +kernel) hh)
 | 4,_=>exact LA (kr (p:=fun h=>decide ((bits BinOp.and U ((h:Int) / 2^4) 1==1)=h.testBit 4)) (by decide +kernel) hh)
theorem jw{w:Ba}{g:Nat}{cs:Array Au}{t:TypeId}(h:w.heap[g]?=J (Ag cs t (0,0)))(i:Nat)(v:Au) :
  (w.setCell ⟨g,i,Z⟩ v).heap[g]?=J (Ag (cs.set! i v) t (0,0))/\∀k,k≠g->(w.setCell ⟨g,i,Z⟩ v).heap[k]?=w.heap[k]?:=by
 refine⟨?_,fun k hk=>Le w ⟨g,i,Z⟩ v k hk⟩;rw[World.setCell,PT,Lj rfl,h]
 rfl
theorem tog1_any(s:Sy)(K N:Nat)(hF:Fine s K N)(G:Nat)(AG:G<32)(e k:Nat)(he:e<s.xs.length)(hk:k<=K)(A SV AV AX:Bb)(kc ks kv kx bs bg:Nat)(w:Ba)(hX:XAt w w.heap.size AX s.xs)
  (hb:w.heap[bs]?=J (Ag (s.vs_ A kc SV ks AV kv AX kx) 39 (0,0))) (hg:w.heap[bg]?=J (Ag #[O U (G:Int)] 3 (0,0))) :
  An Al 165 #[Ai #[O U (e:Int),O U (k:Int)],Aj (J ⟨bs,0,Z⟩),Aj (J ⟨bg,0,Z⟩)] w fun r w'=>r=Ak (k5E (kz G (fun q=>xw s.xs[e] k q) N))/\Am w.heap.size w w':=by
 obtain⟨w1,ab,d0,av,hB⟩:=zn w #[O U (e:Int),O U (k:Int)] 178;obtain⟨w2,bh,d1,cM,bE⟩:=zn w1 #[O U 0,O U 0,O U 0,O U 0,O U 0] 72;obtain⟨w3,bL,d2,cz,aG⟩:=zn w2 #[O U 0,O U 0,O U 0,O U 0,O U 0] 72;have C8:Am w.heap.size w w3:=hB.trans ((bE.mono (by omega)).trans (aG.mono (by omega)));have lY:=Lh he;obtain⟨dr,ah⟩:=hF.views _ lY;obtain⟨bx,ox,A1,c1,A2,c2,eX,cd,x0,x1,x2,iY,sx⟩:=(hX.keep C8).row e he;subst eX;obtain⟨x,hx⟩:∃x,x=s.xs[e]:=⟨_,rfl⟩;rw[<-hx] at dr ah x2 sx ⊢;obtain⟨bl,ol,A3,c3,eL,aY,y1,hI⟩:=sx.at_ k (by omega);subst eL;obtain⟨hl,mq⟩:=ah _ (Lh (by omega:k<x.views.length));have DD:∀row,x.views[k]'(by omega)=row->∀q,xw x k q=row.getD q 0:=fun row hr q=>by unfold xw;rw[zA (by omega:k<x.views.length),hr]
 obtain⟨row,pI⟩:=Kj (x.views[k]'(by omega));have hXW:=DD row pI;rw[pI] at y1 hI hl mq;obtain⟨V,hV⟩:∃V:Nat->Int,(fun q=>xw x k q)=V:=⟨_,rfl⟩;have HV:As (∀q,V q=row.getD q 0):=fun q=>by rw[<-hV];exact hXW q
 rw[hV];obtain⟨nv,DQ⟩:=Kj x.views.length;rw[DQ] at x2 dr;rw[hl] at y1;have cX:=zH hl;have HPO:=zH mq;have HIR:=zH hI;have EE:=zH hF.lv;have o9:=zH hF.n5;have ag:=zH ab;have oY:=zH bh;have fy:=zH bL;have HB:=zH C8;have lbs:=zj hb;have lbg:=zj hg;have HBG:=zH (Lb C8 lbg hg);have cy:=zH (Lb aG (by omega:w1.heap.size<w2.heap.size) d1);have nH:=Lb aG (by omega:w.heap.size<w2.heap.size) (Lb bE (by omega) d0);have ff:=zH d2;obtain⟨g0,g1,_⟩:=Ke nH;have p9:w3.cell? ⟨bs,9,Z⟩=J (I (J ⟨bx,ox,Z⟩) s.xs.length kx):=zh (Lb C8 lbs hb) 9 rfl;have h1:(0:Int)<=(e:Int):=by omega
 have h2:(e:Int)<(s.xs.length:Int):=by omega
 have h3:(0:Int)<=(k:Int):=by omega
 have h4:(k:Int)<(nv:Int):=by omega
 clear ab bh bL d0 d1 d2 nH hB bE aG C8 hX hb hg hF hV hXW DQ hx iY sx hI mq ah lY DD pI x0 x1 hl dr;go_enter func165,ntmps165;go_wp2_with fail;rw[ag.out];rw[oY.out,fy.out];refine zr [(0,Av),(1,Av),(2,Av),(3,Av),(4,Av),(5,Av),(6,Av),(7,Av),(8,Av),(9,Av),(10,Av),(11,Av),(12,Av)] (fun X=>X=w3.drew) (by kernel_rfl) (by kernel_rfl) rfl ?_
 repeat
  apply zk rfl
  . rintro K' aa X rfl
    go_simp;exact aa
 refine zz ?_;obtain⟨W5,dQ⟩:=Kj w3.drew;have HH:As (W5.heap=w3.heap):=by rw[<-dQ];exact rfl
 have aT:As (Am w.heap.size w W5):=by rw[<-dQ];exact HB.out.drew
 rw[dQ];rw[show w3.heap=W5.heap from HH.out.symm] at HBG cy ff;have lp:As (∀z,z<w.heap.size->W5.heap[z]?=w3.heap[z]?):=fun z _=>by rw[HH.out]
 have e2:w2.heap.size=w.heap.size+1+1:=by rw[cM,av]
 rw[e2] at ff;rw[av] at cy;have hK0:As (W5.heap[w.heap.size+1+1]?=J (Ag (k5C (kz G V 0)) 72 (0,0))):=by rw[kz_zero];exact ff.out
 have hWl:w.heap.size+3<=W5.heap.size:=by rw[HH.out,cz,cM,av];omega
 go_wp2_with fail
 go_loopw [20] (fun i wr=>∃j:Nat,j<=N/\i=O U (j:Int)/\As (wr.heap[w.heap.size+1+1]?=J (Ag (k5C (kz G V j)) 72 (0,0)))/\As (Wrote (fun z=>z=w.heap.size+1+1) W5 wr)) (fun i _=>N-(Ar i).toNat)
 case atStart=>exact⟨0,by omega,rfl,hK0,Wrote.refl _ _⟩
 obtain⟨j,hj,rfl,BR,me⟩:=hrel
 by_cases cc:j<N
 . have TM:j<5:=by have:=o9.out;omega
   have aF:=gd AG TM
   have C6:IAt wr w.heap.size A3 row:=HIR.out.sameB fun z hz=>by
    have:=me.out.block z (by omega) (by show ¬z=w.heap.size+1+1;omega);rw[this];exact lp.out z hz
   obtain⟨b6,o6,rfl,cB,z0⟩:=C6.at_ j (by rw[cX.out];exact cc);have Hw:=HV.out j;rw[ye (by rw[cX.out];exact cc)] at Hw;have hur:=HPO.out _ (Lh (by rw[cX.out];exact cc:j<row.length));obtain⟨u,hu⟩:=Kj (row[j]'(by rw[cX.out];exact cc));rw[hu] at z0 Hw hur;have HU0:=zH Hw;have q0:=zh ((me.out.block bg (by omega) (by show ¬bg=w.heap.size+1+1;omega)).trans HBG.out) 0 rfl;have hwv:IntKind.i64.wrap (u+1)=u+1:=by have:=EE.out;rw[Lo];omega
   obtain⟨old,hold,m5,rfl⟩:=k5_cell BR.out j TM;have hfr:=zi BR.out j;have DW:(0:Int)<=(j:Int):=by omega
   have BK:(j:Int)<(N:Int):=by omega
   have hj6:(j:Int)<5:=by omega
   have DT:min j 64=j:=by omega
   by_cases eQ:G.testBit j=Av
   case neg=>
    have tZ:G.testBit j=Aw:=by simpa using eQ
    rw[tZ] at aF;have hKn:As (wr.heap[w.heap.size+1+1]?=J (Ag (k5C (kz G V (j+1))) 72 (0,0))):=by rw[kz_not tZ];exact BR.out
    go_wp2_with fail
    go_roundw
    case rel=>exact⟨j+1,by omega,by go_num,hKn,me⟩
    simp[Ar];omega
   rw[eQ] at aF;have HK:=zH (kz_hit (f:=V) eQ TM);have h9:=jw BR.out j (O U (u+1));have hKn:As ((wr.setCell ⟨w.heap.size+1+1,j,Z⟩ (O U (u+1))).heap[w.heap.size+1+1]?=J (Ag (k5C (kz G V (j+1))) 72 (0,0))):=by rw[HK.out,HU0.out];exact h9.1
   have Im:As (Wrote (fun z=>z=w.heap.size+1+1) W5 (wr.setCell ⟨w.heap.size+1+1,j,Z⟩ (O U (u+1)))):=me.out.trans (Wrote.of_grown (zV wr (w.heap.size+1+1) j _) (fun z e _=>by cases e;rfl)) (fun _ _ h=>h);go_wp2_with fail
   go_roundw
   case rel=>exact⟨j+1,by omega,by go_num,hKn,Im⟩
   simp[Ar];omega
 obtain rfl:N=j:=by omega
 obtain⟨Ae,hZ⟩:=Kj (kz G V N);rw[hZ] at BR;obtain⟨za,zb,zc,zd,ze⟩:=Ae;have HZ:=zH hZ;have c0:wr.cell? ⟨w.heap.size+1+1,0,Z⟩=J (O U za):=zh BR.out 0 rfl;have c1:wr.cell? ⟨w.heap.size+1+1,1,Z⟩=J (O U zb):=zh BR.out 1 rfl;have c2:wr.cell? ⟨w.heap.size+1+1,2,Z⟩=J (O U zc):=zh BR.out 2 rfl;have c3:wr.cell? ⟨w.heap.size+1+1,3,Z⟩=J (O U zd):=zh BR.out 3 rfl;have c4:wr.cell? ⟨w.heap.size+1+1,4,Z⟩=J (O U ze):=zh BR.out 4 rfl;have iA:=(me.out.block (w.heap.size+1) (by omega) (by show ¬w.heap.size+1=w.heap.size+1+1;omega)).trans cy.out;have r0:wr.cell? ⟨w.heap.size+1,0,Z⟩=J (O U 0):=zh iA 0 rfl;have r1:wr.cell? ⟨w.heap.size+1,1,Z⟩=J (O U 0):=zh iA 1 rfl;have r2:wr.cell? ⟨w.heap.size+1,2,Z⟩=J (O U 0):=zh iA 2 rfl;have r3:wr.cell? ⟨w.heap.size+1,3,Z⟩=J (O U 0):=zh iA 3 rfl;have r4:wr.cell? ⟨w.heap.size+1,4,Z⟩=J (O U 0):=zh iA 4 rfl;have f0:=zi iA 0;have f1:=zi iA 1;have f2:=zi iA 2;have f3:=zi iA 3;have f4:=zi iA 4;have HWr:As (Am w.heap.size w wr):=aT.out.trans ((Y5 (H:=w.heap.size+1+1) me.out (by omega)).mono (by omega));have HR1:=zH iA;go_wp2_with fail
 have dU:As ((((((wr.setCell ⟨w.heap.size+1,0,Z⟩ (O U za)).setCell ⟨w.heap.size+1,1,Z⟩ (O U zb)).setCell ⟨w.heap.size+1,2,Z⟩ (O U zc)).setCell ⟨w.heap.size+1,3,Z⟩ (O U zd)).setCell ⟨w.heap.size+1,4,Z⟩ (O U ze)).heap[w.heap.size+1]?=J (Ag (k5C ⟨za,zb,zc,zd,ze⟩) 72 (0,0))):=(jw (jw (jw (jw (jw HR1.out 0 _).1 1 _).1 2 _).1 3 _).1 4 _).1.trans (by simp[k5C])
 (try simp only[Exit.inBlock,Exit.then])
 refine LP (Sj (P:=Al) rfl _ _ (w.heap.size+1) 72 _ (0,0) _ rfl dU.out PE rfl (by kernel_rfl)) rfl ?_;have cG:w.heap.size<=w.heap.size+1:=Nat.le_succ _;exact⟨by rw[HZ.out];rfl,(((((HWr.out.setCell cG _).setCell cG _).setCell cG _).setCell cG _).setCell cG _)⟩
def togK(s:Sy)(G:Nat)(x:Nat×Nat):K5:=kz G (fun q=>xw (s.xs.getD x.1 default) x.2 q) s.n.toNat
def kI(s:Sy)(g:Int):List Int:=kD ((zt (s.p.k.toNat+1) 0 s.xs.length).map (togK s g.toNat))
def togE(s:Sy)(g:Int):List Int×Int:=if zQ s g≠0 then ([],zQ s g) else (kI s g,0)
theorem togL_len(s:Sy)(g:Int):(kI s g).length=s.xs.length*(s.p.k.toNat+1):=by unfold kI;rw[jY,LG,vt _ _ (by omega)]
theorem XV(s:Sy)(hs:LowS s)(hf:yU s.p)(g:Int)(A SV AV AX:Bb)(kc ks kv kx:Nat)(w:Ba)(hS:SyAt w w.heap.size A SV AV AX s) :
  An Al 146 #[.agg (s.vs_ A kc SV ks AV kv AX kx),O U g] w (RetOE (togE s g).1 (togE s g).2 w):=by
 obtain⟨w1,ab,d0,d1,av,hB⟩:=yI w (s.vs_ A kc SV ks AV kv AX kx) #[O U g] 39 3;have HG:=zH (JA s hs hf g A SV AV AX kc ks kv kx w1 (hS.up hB));have be:As (zQ s g≠0->togE s g=([],zQ s g)):=fun h=>Lj h
 have ai:As (zQ s g=0->togE s g=(kI s g,0)):=fun h=>Lg (by simpa using h)
 have lO:=zH (fun h=>yF hf (uA (s:=s) (g:=g) h).1);have GH:=zH (fun h=>(uA (s:=s) (g:=g) h).2);have nh:=zH (hS.up hB)
 have lT:=zH (fun (K N G:Nat) (hF:Fine s K N) (hG:G<32) (X:Ba) (hX:SyAt X X.heap.size A SV AV AX s) (bs bp:Nat) (hb:X.heap[bs]?=J (Ag (s.vs_ A kc SV ks AV kv AX kx) 39 (0,0))) (hp:X.heap[bp]?=J (Ag #[O U (G:Int)] 3 (0,0)))=>
  YU s K s.xs.length (by have:=hF.k6;omega) (by have:=hF.lx;omega) hF.k rfl A SV AV AX kc ks kv kx 165 #[Aj (J ⟨bs,0,Z⟩),Aj (J ⟨bp,0,Z⟩)]
   (NA func165 (by kernel_rfl) rfl) (togK s G) (fun _=>False)
   (fun W=>XAt W X.heap.size AX s.xs/\W.heap[bs]?=J (Ag (s.vs_ A kc SV ks AV kv AX kx) 39 (0,0))/\W.heap[bp]?=J (Ag #[O U (G:Int)] 3 (0,0))/\X.heap.size<=W.heap.size) X (fun _ h=>h.elim)
   ⟨hX.fx,hb,hp,Ld _⟩
   (fun W W' h hw=>by
    have aY:Am X.heap.size W W':=⟨hw.os,hw.tape,hw.output,hw.size,fun k hk=>hw.block k (by have:=h.2.2.2;omega) (fun h2=>by omega)⟩
    exact⟨h.1.keep aY,Lb aY (zj hb) h.2.1,Lb aY (zj hp) h.2.2.1,Lu h.2.2.2 hw.size⟩)
   (fun x hx W hJ hW=>by
    obtain⟨_,h1,h2⟩:=xX _ _ x hx;have he:x.1<s.xs.length:=by omega
    have:=tog1_any s K N hF G hG x.1 x.2 he (by omega) A SV AV AX kc ks kv kx bs bp W (hJ.1.more hJ.2.2.2) hJ.2.1 hJ.2.2.1;refine this.mono ?_;rintro r w' ⟨rfl,cN⟩;unfold togK;rw[zA he,hF.n,Lm]
    refine⟨rfl,⟨hJ.1.keep (cN.mono hJ.2.2.2),La cN hJ.2.1,La cN hJ.2.2.1,Lu hJ.2.2.2 cN.size⟩,Wrote.of_below cN⟩))
 have fT:=zH (fun (K G:Nat) (h:s.p.k=(K:Int))=>(by unfold kI;rw[h];rfl:kI s (G:Int)=kD ((zt (K+1) 0 s.xs.length).map (togK s G))));obtain⟨r,hr⟩:=Kj (zQ s g);rw[hr] at HG be ai lO GH;obtain⟨R,de⟩:=Kj (togE s g);rw[de] at be ai ⊢;unfold Sy.vs_ at ab d0 HG lT ⊢;have ag:=zH ab;have HB:=zH hB;have HD:=zH d0;have cy:=zH d1;have p9:=zh (d0) 9 rfl;clear ab d0 d1 hB hS hr de hs hf;go_enter func146,ntmps146;go_wp2_with fail;rw[ag.out];go_wp2_with fail;refine HG.out.mono ?_;rintro e w2 ⟨rfl,ae⟩;have au:=zH (HB.out.trans (ae.mono (by omega)));have HD:=zH (La ae HD.out);have cy:=zH (La ae cy.out);have fX:=zH (nh.out.up ae);clear p9 ae HG ag nh
 by_cases h0:r=0
 case neg=>
  have hR:As (R=([],r)):=be.out h0;have e0:(r != 0)=Av:=by simpa using h0
  clear be ai HD cy lO GH lT fT;go_wp2_with fail
  go_ret2
  rw[hR.out];exact⟨Z,0,rfl,Own.nil _ _,au.out⟩
 case pos=>
 subst h0;obtain⟨mX,K,N,hF⟩:=lO.out rfl;clear mX;have hR:=zH (ai.out rfl);obtain⟨sn,nC⟩:=GH.out rfl;obtain⟨G,rfl⟩:=Lp sn
 have AG:G<32:=by
  have nd:=hF.n5;rw[hF.n,Lm] at nC;have:=Nt (n:=2) (show 0<2 by omega) nd;have h2:((2^N:Nat):Int)=(2:Int)^N:=by push_cast;rfl
  omega
 have HC:=zH (lT.out K N G hF AG w2 fX.out w.heap.size (w.heap.size+1) HD.out cy.out);have cJ:=fT.out K G hF.k;rw[<-cJ] at HC;obtain⟨p0,p1,p2,p3,p4,p5,p6,p7,p8,p9⟩:=zM HD.out;clear be ai HD cy lO GH lT fT fX hF cJ sn nC;go_wp2_with fail
 all_goals first | (exfalso;omega) | skip
 refine HC.out.mono ?_;rintro e w3 ⟨v,rfl,ho,_,bL⟩;have HO:=zH ho;have ak:=gu bL;have aC:=zH (Lc au.out ak);obtain⟨A6,k6,rfl,_,_,_⟩:=HO.out.form;go_wp2_with fail
 go_ret2
 rw[hR.out];exact⟨A6,k6,rfl,HO.out.low au.out.size,aC.out⟩
end
section
theorem hear_row{r:Rd}(h:yN r=0)(p:Nat)(hp:p<5):xE r.n p (r.h p)=0:=by
 unfold yN at h
 split at h
 . cases h
 have key : ∀ k, k <= 5 -> yJ r (5 - k) k = 0 -> ∀ q, k <= q -> q < 5 -> xE r.n q (r.h q) = 0 := by
  intro k hk
  induction hm:5-k generalizing k with
  | zero=>intro _ q h1 h2;omega
  | succ m ih=>
   intro hz q h1 h2;unfold yJ at hz
   split at hz
   . rename_i az;exact absurd hz az
   . rename_i az
     by_cases e:q=k
     . subst e;simpa using az
     . exact ih (k+1) (by omega) (by omega) hz q (by omega) h2
 exact key 0 (by omega) h p (by omega) hp
theorem Xx{r:Rd}{N:Nat}(h:yu r=0)(hn:r.n=(N:Int))(h5:N<=5){q:Nat}(hq:q<N):∃m:Nat,r.h q=(m:Int)/\m<2^N/\m.testBit q=Av:=by
 have h1:=hear_row (kh h).2.2.1 q (by omega);unfold xE at h1;rw[Lg (by omega)] at h1
 split at h1
 . cases h1
 rename_i hb
 split at h1
 . rename_i ht
   rw[hn,Lm] at hb;obtain⟨m,hm⟩:=Lp (show 0<=r.h q by omega);rw[hm] at hb ht ⊢;have hp:=Nat.two_pow_pos N;exact⟨m,rfl,by omega,by simpa using ht⟩
 cases h1
section
variable {s:Sy} {K N:Nat}
theorem Fine.row(hF:Fine s K N){x:Exn}(hx:x∈s.xs){k:Nat}(hk:k<=K):(x.views.getD k []).length=N/\∀i∈x.views.getD k [],0<=i/\i<s.vs.length:=by
 obtain⟨hl,h⟩:=hF.views x hx;have fU:k<x.views.length:=by omega
 rw[Lf,Li fU];exact h _ (Lh fU)
theorem Fine.round(hF:Fine s K N){x:Exn}(hx:x∈s.xs){k:Nat}(hk:k<K):yu (x.word.getD k default)=0/\(x.word.getD k default).n=(N:Int):=by
 obtain⟨hl,h⟩:=hF.word x hx;have fU:k<x.word.length:=by omega
 rw[Lf,Li fU];exact h _ (Lh fU)
end
end
section
open Go.RowKit
def jH(n:Nat)(a:List Bool):List Bool:=(List.range n).map fun i=>!(a.getD i Aw)
theorem ku(n:Nat)(a:List Bool):(jH n a).length=n:=by simp[jH]
theorem notL_at{n:Nat}{a:List Bool}{i:Nat}(h:i<n):(jH n a).getD i Aw=!(a.getD i Aw):=by
 rw[zA (by rw[ku];exact h)];simp[jH]
end
section
open Go.RowKit Go.Shelf
attribute [local go_sem] Oper.semAt_some
def evyE(s:Sy)(g:Int)(set:List Bool):List Bool×Int:=if zw s g set≠0 then ([],zw s g set) else (evG s g set,0)
def dstE(s:Sy)(g:Int)(set:List Bool):List Bool×Int:=if zw s g set≠0 then ([],zw s g set) else (xR (ptn s) (kI s g) set,0)
def knwE(s:Sy)(q:Int)(set:List Bool):List Bool×Int:=if yc s≠0 then ([],yc s) else if q<0\/s.n<=q then ([],2) else if set.length≠ptn s then ([],15) else (xR (ptn s) (ya s q.toNat) set,0)
theorem own_iat7{w:Ba}{base:Nat}{A:Bb}{n c:Nat}{xs:List Int}(h:Own w base (I A n c) xs):IAt w w.heap.size A xs:=wC h (fun _ _ _=>rfl)
theorem map_cell{w:Ba}{mb m o:Nat}{F:Int->Option Au}(h:MapOf (O U) w mb m F)(v:Au):w.cell? ⟨mb,o,Z⟩≠J v:=by
 obtain⟨es,bk,hb,_⟩:=h;intro e;unfold World.cell? at e;rw[hb] at e;simp at e
section
variable {w w':Ba} {mb m:Nat} {F:Int->Option Au}
theorem jS(h:MapOf (O U) w mb m F)(hg:w.grownBy w' (J mb)){b o:Nat}{v:Au}(hc:w.cell? ⟨b,o,Z⟩=J v):w'.cell? ⟨b,o,Z⟩=J v:=by
 have az:b≠mb:=fun e=>map_cell h v (by rw[<-e];exact hc)
 have hlt:=N4 w _ hc;exact(LL (a:=⟨b,o,Z⟩) (hg.block b hlt (fun e=>az (by cases e;rfl)))).trans hc
theorem IAt.put{B:Nat}{A:Bb}{xs:List Int}(hx:IAt w B A xs)(h:MapOf (O U) w mb m F)(hg:w.grownBy w' (J mb)):IAt w' B A xs:=fun h0=>by
 obtain⟨b,off,e,hlt,hc⟩:=hx h0;exact⟨b,off,e,hlt,fun i hi=>jS h hg (hc i hi)⟩
theorem BAt.put{B:Nat}{A:Bb}{xs:List Bool}(hx:BAt w B A xs)(h:MapOf (O U) w mb m F)(hg:w.grownBy w' (J mb)):BAt w' B A xs:=fun h0=>by
 obtain⟨b,off,e,hlt,hc⟩:=hx h0;exact⟨b,off,e,hlt,fun i hi=>jS h hg (hc i hi)⟩
theorem KwAt.put{B bw n N:Nat}{cls:Nat->List Int}(hk:KwAt w B bw n N cls)(h:MapOf (O U) w mb m F)(hg:w.grownBy w' (J mb)):KwAt w' B bw n N cls:=by
 obtain⟨b,off,cC,h1,h2,h3⟩:=hk.rows;refine⟨hk.lt,jS h hg hk.size,⟨b,off,cC,jS h hg h1,h2,fun q hq=>?_⟩,hk.len⟩;obtain⟨A,c,h4,h5⟩:=h3 q hq;exact⟨A,c,jS h hg h4,h5.put h hg⟩
end
structure KwD(s:Sy)(A SV AV AX:Bb)(kc ks kv kx B:Nat)(w:Ba)(bw mb m:Nat)(F:Int->Option Au):Prop where
 kw:KwAt w w.heap.size bw (ptn s) s.n.toNat (ya s)
 blk:∃AQ cQ,w.heap[bw]?=J (Ag #[O U s.p.t.n,O U s.p.t.ins,O U s.p.t.outs,I A s.p.t.cases.length kc,O U s.p.a.n,I SV s.p.a.sts.length ks,O U s.p.k,O U s.n,I AV s.vs.length kv,I AX s.xs.length kx,O U (ptn s:Int),I AQ s.n.toNat cQ,.map (J mb)] 95 (0,0))
 map:MapOf (O U) w mb m F
 vals:∀g v,F g=J v->∃A c,v=I A (ptn s) c/\IAt w w.heap.size A (kI s g)
 sys:SyAt w B A SV AV AX s
 lowB:B<=w.heap.size
 low:B<=mb
section
variable {s:Sy} {A SV AV AX:Bb} {kc ks kv kx B:Nat} {w w':Ba} {bw mb m:Nat} {F:Int->Option Au}
theorem KwD.call(h:KwD s A SV AV AX kc ks kv kx B w bw mb m F)(hb:Am w.heap.size w w'):KwD s A SV AV AX kc ks kv kx B w' bw mb m F:=by
 obtain⟨AQ,cQ,h1⟩:=h.blk;refine⟨(h.kw.keep hb).more hb.size,⟨AQ,cQ,La hb h1⟩,h.map.same (hb.block _ h.map.lt),fun g v hv=>?_,h.sys.keep (hb.mono h.lowB),Lu h.lowB hb.size,h.low⟩;obtain⟨A',c',e,hI⟩:=h.vals g v hv;exact⟨A',c',e,(hI.keep hb).more hb.size⟩
theorem KwD.put(h:KwD s A SV AV AX kc ks kv kx B w bw mb m F)(hg:w.grownBy w' (J mb)){g:Int}{A':Bb}{c':Nat}(hI:IAt w w.heap.size A' (kI s g))(hm:MapOf (O U) w' mb (m+1) (xg F g (I A' (ptn s) c'))) :
  KwD s A SV AV AX kc ks kv kx B w' bw mb (m+1) (xg F g (I A' (ptn s) c')):=by
 obtain⟨AQ,cQ,h1⟩:=h.blk;have hs:w.heap.size<=w'.heap.size:=hg.size
 have az:bw≠mb:=fun e=>by
  obtain⟨es,bk,hb,_⟩:=h.map;rw[<-e,h1] at hb;cases hb
 have hB:Am B w w':=(Ll B w).grown hg h.lowB (fun k e=>by cases e;exact h.low);refine⟨(h.kw.put h.map hg).more hs,⟨AQ,cQ,(hg.block _ (zj h1) (fun e=>az (by cases e;rfl))).trans h1⟩,hm,fun g' v hv=>?_,h.sys.keep hB,Lu h.lowB hs,h.low⟩;unfold xg at hv
 by_cases e:g'=g
 . subst e
   rw[Lj rfl] at hv
   cases hv
   exact⟨A',c',rfl,(hI.put h.map hg).more hs⟩
 rw[Lg e] at hv;obtain⟨A2,c2,e2,pY⟩:=h.vals g' v hv;exact⟨A2,c2,e2,(pY.put h.map hg).more hs⟩
end
theorem kdist_any(s:Sy)(hs:LowS s)(hf:yU s.p)(A SV AV AX:Bb)(kc ks kv kx B:Nat)(g:Int)(sn:zQ s g=0)(hp:ptn s<=100000)(AB:Bb)(kb:Nat)(set:List Bool)(dR:set.length=ptn s)(bw mb m:Nat)(F:Int->Option Au)(w:Ba)(hK:KwD s A SV AV AX kc ks kv kx B w bw mb m F)(bG:BAt w w.heap.size AB set) :
  An Al 122 #[Aj (J ⟨bw,0,Z⟩),O U g,I AB (ptn s) kb] w fun e w'=>∃g' m' F',e=Ak (I (J ⟨g',0,Z⟩) (ptn s) (ptn s))/\w.heap.size<=g'/\BRow w' g' (xR (ptn s) (kI s g) set)/\KwD s A SV AV AX kc ks kv kx B w' bw mb m' F'/\Wrote (fun z=>z=mb) w w':=by
 obtain⟨AQ,cQ,h1⟩:=hK.blk;have hT:togE s g=(kI s g,0):=Lg (by simpa using sn);have hTL:(kI s g).length=ptn s:=togL_len s g;have HC:=zH (fun (X:Ba) (hX:SyAt X X.heap.size A SV AV AX s)=>XV s hs hf g A SV AV AX kc ks kv kx X hX);rw[hT] at HC;unfold RetOE at HC;simp only[hTL] at HC;have mP:=zH (fun (A:Bb) (c:Nat) (X:Ba) (hI:IAt X X.heap.size A (kI s g)) (hB:BAt X X.heap.size AB set)=>Zb A AB c kb (ptn s) hp (kI s g) set hTL dR X hI hB);unfold RetB at mP;simp only[xb] at mP;have HK:=zH hK;have ir:=zH bG;have hz:∀W:Ba,(zeroValue 50).run Al W=.ok (I Z 0 0) W:=fun W=>by kernel_rfl
 have ht:Al.underlying 93=J (.map 3 50):=Rk;have dS:=hK.map.look2 yC ht (hz w) g;have HZ:=zH hz;have HT:=zH ht;have z12:w.cell? ⟨bw,12,Z⟩=J (.map (J mb)):=zh h1 12 rfl;have lbw:=zj h1;unfold Sy.vs_ at HC;obtain⟨n,hn⟩:=Kj (ptn s);have dM:=zH hn;rw[hn] at h1 HC mP ⊢;have H1:=zH h1;go_enter func122,ntmps122
 cases Iu:F g with
 | some v=>
  obtain⟨A4,c4,rfl,T9⟩:=HK.out.vals g v Iu;rw[dM.out] at Iu;rw[Iu] at dS;simp only[Option.getD_some,Option.isSome_some] at dS;have nz:=HK.out.map.look yC HT.out (HZ.out w) g;rw[Iu] at nz;simp only[Option.getD_some] at nz;have dv:=zH (mP.out A4 c4 w T9 ir.out);go_wp2_with fail;refine dv.out.mono ?_;rintro e w2 ⟨g2,rfl,fm,fi,ae⟩;have dk:=zH fi;have au:=zH ae;go_wp2_with fail;go_ret;exact⟨g2,m,F,rfl,fm,dk.out,HK.out.call au.out,Wrote.of_below au.out⟩
 | none=>
  rw[Iu] at dS;simp only[Option.getD_none,Option.isSome_none] at dS;have hKP:∀X,Am w.heap.size w X->X.heap[bw]?=J (Ag #[O U s.p.t.n,O U s.p.t.ins,O U s.p.t.outs,I A s.p.t.cases.length kc,O U s.p.a.n,I SV s.p.a.sts.length ks,O U s.p.k,O U s.n,I AV s.vs.length kv,I AX s.xs.length kx,O U (n:Int),I AQ s.n.toNat cQ,.map (J mb)] 95 (0,0)):=fun X hX=>Lb hX lbw H1.out
  have aS:=zH hKP;clear Iu;go_upto_region 3 with fail
  refine zr [(0,Av),(1,Av),(2,Av),(3,Av),(4,Av),(5,Av),(6,Av),(7,Av),(8,Av),(9,Av),(10,Aw),(11,Av),(12,Av),(13,Av),(14,Aw)] (fun X=>X.heap[bw]?=J (Ag #[O U s.p.t.n,O U s.p.t.ins,O U s.p.t.outs,I A s.p.t.cases.length kc,O U s.p.a.n,I SV s.p.a.sts.length ks,O U s.p.k,O U s.n,I AV s.vs.length kv,I AX s.xs.length kx,O U (n:Int),I AQ s.n.toNat cQ,.map (J mb)] 95 (0,0))) (by kernel_rfl) (by kernel_rfl) (aS.out _ (Ll _ w).drew) ?_
  repeat
   apply zk rfl
   . rintro K' aa X u
     have q0:=zh (u) 0 rfl;have q1:=zh (u) 1 rfl;have q2:=zh (u) 2 rfl;have q3:=zh (u) 3 rfl;have q4:=zh (u) 4 rfl;have q5:=zh (u) 5 rfl;have q6:=zh (u) 6 rfl;have q7:=zh (u) 7 rfl;have q8:=zh (u) 8 rfl;have q9:=zh (u) 9 rfl;have q10:=zh (u) 10 rfl;have q11:=zh (u) 11 rfl;have q12:=zh (u) 12 rfl;clear u;go_simp;exact aa
  refine zu rfl ?_;intro K' aa;go_simp;refine(HC.out w.drew ((HK.out.sys.keep ((Ll _ w).drew.mono HK.out.lowB)).more HK.out.lowB)).mono ?_;rintro e w5 ⟨A5,c5,rfl,na,am⟩;have G5:As (Am w.heap.size w w5):=(Ll _ w).drew.trans am;have K5:=zH (HK.out.call G5.out);have mh:=zH (own_iat7 na);obtain⟨W6,dm,Mx,fF⟩:=K5.out.map.put yC HT.out g (I A5 n c5);have HM6:=zH Mx;have nm:=zH fF;have pO:=zj (aS.out w5 G5.out)
  have az:bw≠mb:=fun e=>by
   obtain⟨es,bk,hb,_⟩:=K5.out.map;rw[<-e,aS.out w5 G5.out] at hb;cases hb
  have Bm:As (W6.heap[bw]?=J (Ag #[O U s.p.t.n,O U s.p.t.ins,O U s.p.t.outs,I A s.p.t.cases.length kc,O U s.p.a.n,I SV s.p.a.sts.length ks,O U s.p.k,O U s.n,I AV s.vs.length kv,I AX s.xs.length kx,O U (n:Int),I AQ s.n.toNat cQ,.map (J mb)] 95 (0,0))):=(fF.block _ pO (fun e=>az (by cases e;rfl))).trans (aS.out w5 G5.out);refine aa _ _ (aS.out w5 G5.out) ?_
  repeat
   apply zk rfl
   . rintro K' aa X u
     go_simp;exact aa
  refine zu rfl ?_;intro K' aa;go_simp;refine aa _ _ Bm.out ?_;refine zz ?_;have hK7:KwD s A SV AV AX kc ks kv kx B W6 bw mb (m+1) (xg F g (I A5 (ptn s) c5)):=K5.out.put nm.out mh.out (by rw[dM.out];exact HM6.out);have GS:=zH hK7;have nz:=hK7.map.look yC HT.out (HZ.out W6) g;rw[show xg F g (I A5 (ptn s) c5) g=J (I A5 (ptn s) c5) from Lj rfl,dM.out] at nz;simp only[Option.getD_some] at nz;have z12:W6.cell? ⟨bw,12,Z⟩=J (.map (J mb)):=zh Bm.out 12 rfl;have dw:As (BAt W6 W6.heap.size AB set):=(((ir.out.keep G5.out).more G5.out.size).put K5.out.map nm.out).more nm.out.size;have dv:=zH (mP.out A5 c5 W6 ((mh.out.put K5.out.map nm.out).more nm.out.size) dw.out);have oJ:As (Wrote (fun z=>z=mb) w W6):=(Wrote.of_below G5.out).trans (Wrote.of_grown nm.out (fun z e _=>by cases e;rfl)) (fun _ _ h=>h);have fD:w.heap.size<=W6.heap.size:=Lu G5.out.size nm.out.size;go_wp2_with fail;refine dv.out.mono ?_;rintro e w8 ⟨g8,rfl,WI,Fj,eD⟩;have HR8:=zH Fj;have HB8:=zH eD;have WH:w.heap.size<=g8:=by omega
  go_wp2_with fail;go_ret;exact⟨g8,m+1,_,rfl,WH,HR8.out,GS.out.call HB8.out,oJ.out.trans (Wrote.of_below HB8.out) (fun _ _ h=>h)⟩
end
section
open Go.RowKit Go.Shelf
attribute [local go_sem] Oper.semAt_some
section
theorem bf{x y:Bool}(h:x=Av->y=Av)(hy:y=Aw):x=Aw:=by cases x with | false=>rfl | true=>rw[h rfl] at hy;cases hy
end
end
end Go.Proofs.YtkmbdfdaffmhjaaGreat
