/- Parts KnwB CmnW KnwC KnwQ EqS KnwD Ex39 Scene KnwE TogP FinP KnlP KnwG Dag KnwJ FmlA FmlB FmlC. -/
import Derived.Test.YtjmckgoegfipeaaGreatDoorProg
import Derived.Test.YtjmckgoegfipeaaGreatDoorPg
import Derived.Test.YtjmckgoegfipeaaGreatDoorPf
import Derived.Deep.LoopGhost
import Derived.Test.YtjmckgoegfipeaaGreatDoorPb
import Derived.Test.YtjmckgoegfipeaaGreatDoorPa
import Derived.Test.YtjmckgoegfipeaaGreatDoorPe
import Derived.Test.YtjmckgoegfipeaaGreatDoorPc
import Derived.Laws.EntriesVeiled
import Derived.Carry
import Derived.WalkKit
import Derived.Orders
import Derived.Below
import Derived.Laws.OwnMore
import Derived.Deep.QuietTactic
import Derived.BigQuiet
import Derived.Deep.Cut
import Derived.Deep.RegionHeld3
import Derived.Deep.CutBlock

namespace Go.Proofs.YtjmckgoegfipeaaGreatDoor
abbrev NQ:=@Classical.byContradiction
abbrev Su:=@List.getElem?_map
abbrev RU:=@List.getElem_replicate
abbrev RO:=@List.filter_cons
abbrev PE:=@List.length_eq_zero_iff
abbrev SK:=@Array.getD_eq_getD_getElem?
abbrev Pk:=@Go.Proofs.Tryz.func175
abbrev Pd:=@Go.Proofs.Tryz.ntmps175
set_option maxRecDepth 100000
set_option maxHeartbeats 4000000
section
open Go.RowKit Go.Shelf
attribute [local go_sem] Oper.semAt_some
structure KwAt(w:Ba)(B bw n N:Nat)(cls:Nat->List Int):Prop where
 lt:bw<B
 size:w.cell? ⟨bw,10,none⟩=some (.int .i64 (n:Int))
 rows:∃b off cC,w.cell? ⟨bw,11,none⟩=some (.slice (some ⟨b,off,none⟩) N cC)/\b<B/\∀q,q<N->∃A c,w.cell? ⟨b,off+q,none⟩=some (.slice A n c)/\IAt w B A (cls q)
 len:∀q,(cls q).length=n
theorem KwAt.keep{w w':Ba}{B bw n N:Nat}{cls:Nat->List Int}(h:KwAt w B bw n N cls)(hb:Below B w w'):KwAt w' B bw n N cls:=by
 obtain⟨b,off,cC,h1,h2,h3⟩:=h.rows;refine⟨h.lt,(hb.cell (p:=⟨bw,10,none⟩) h.lt).trans h.size,⟨b,off,cC,(hb.cell (p:=⟨bw,11,none⟩) h.lt).trans h1,h2,fun q hq=>?_⟩,h.len⟩;obtain⟨A,c,h4,h5⟩:=h3 q hq;exact⟨A,c,(hb.cell (p:=⟨b,off+q,none⟩) h2).trans h4,h5.keep hb⟩
theorem KwAt.more{w:Ba}{B B' bw n N:Nat}{cls:Nat->List Int}(h:KwAt w B bw n N cls)(hB:B<=B'):KwAt w B' bw n N cls:=by
 obtain⟨b,off,cC,h1,h2,h3⟩:=h.rows;refine⟨by have:=h.lt;omega,h.size,⟨b,off,cC,h1,by omega,fun q hq=>?_⟩,h.len⟩;obtain⟨A,c,h4,h5⟩:=h3 q hq;exact⟨A,c,h4,h5.more hB⟩
theorem kall_any(bw n N:Nat)(cls:Nat->List Int)(h1:1<=n)(hn:n<=100000)(w:Ba)(hK:KwAt w w.heap.size bw n N cls) :
  Calls Tryz.prog 84 #[.pointer (some ⟨bw,0,none⟩)] w (RetB (List.replicate n true) w):=by
 obtain⟨w1,hw1,d1,hs1,hB⟩:=zm w #[.bool true] 4;have HC:=zH (J9 n w.heap.size h1 hn true w1 d1);have z0:=hK.size;have z1:=(hK.keep hB).size;have hl:=hK.lt;have HW1:=zH hw1;have HB:=zH hB;unfold RetB;rw[LH];clear hw1 d1 hB hK;go_enter Tryz.func84,Tryz.ntmps84;go_wp2_with fail;rw[HW1.out];refine HC.out.mono ?_;rintro e w2 ⟨g,rfl,hg,hr,hb2⟩;have HR:=zH hr;have HB2:=zH (HB.out.trans (hb2.mono (by omega)));clear hr hb2 HC HW1 HB z0 z1;go_wp2_with fail;go_ret;exact⟨g,rfl,by omega,HR.out,HB2.out⟩
theorem uN(bw n N:Nat)(cls:Nat->List Int)(hn:n<=100000)(q:Nat)(hq:q<N)(B:Bb)(cb:Nat)(set:List Bool)(hb:set.length=n)(w:Ba)(hK:KwAt w w.heap.size bw n N cls)(hB:BAt w w.heap.size B set) :
  Calls Tryz.prog 40 #[.pointer (some ⟨bw,0,none⟩),.int .i64 (q:Int),.slice B n cb] w (RetB (yn n (cls q) set) w):=by
 obtain⟨b,off,cC,z1,hb2,hr⟩:=hK.rows;obtain⟨A,c,z2,hI⟩:=hr q hq;have HC:=zH (ZG A B c cb n hn (cls q) set (hK.len q) hb w hI hB);have hl:=hK.lt;have hq0:(0:Int)<=(q:Int):=by omega
 have hq1:(q:Int)<(N:Int):=by omega
 unfold RetB at HC ⊢;rw[zT] at HC ⊢;clear hr hI hK hB hb;go_enter Tryz.func40,Tryz.ntmps40;go_wp2_with fail;refine HC.out.mono ?_;rintro e w2 ⟨g,rfl,hg,hr2,hb3⟩;have HR:=zH hr2;have HB2:=zH hb3;clear hr2 hb3 HC z1 z2;go_wp2_with fail;go_ret;exact⟨g,rfl,hg,HR.out,HB2.out⟩
theorem kn(bw n N:Nat)(cls:Nat->List Int)(h1:1<=n)(hn:n<=100000)(hN:N<=5)(G:Nat)(hG:G<32)(B:Bb)(cb:Nat)(set:List Bool)(hb:set.length=n)(w:Ba)(hK:KwAt w w.heap.size bw n N cls)(hB:BAt w w.heap.size B set) :
  Calls Tryz.prog 45 #[.pointer (some ⟨bw,0,none⟩),.int .i64 (G:Int),.slice B n cb] w (RetB (evL n cls (zr G N) set) w):=by
 have HA:=zH (kall_any bw n N cls h1 hn w hK);have HKN:=zH (fun (q:Nat) (hq:q<N) (X:Ba) (hX:Below w.heap.size w X)=>uN bw n N cls hn q hq B cb set hb X ((hK.keep hX).more hX.size) ((hB.keep hX).more hX.size));have HBO:=zH (fun (g g':Nat) (a b:List Bool) (ha:a.length=n) (hb:b.length=n) (X:Ba) (r1:BRow X g a) (r2:BRow X g' b)=>gY (some ⟨g,0,none⟩) (some ⟨g',0,none⟩) n n n hn a b ha hb X (r1.at_ r1.lt) (r2.at_ r2.lt));have HK:=zH hK;unfold RetB at HA HKN HBO ⊢;rw[LH] at HA;simp only[zT] at HKN;simp only[yi] at HBO;rw[yH];clear hK hB hb;go_enter Tryz.func45,Tryz.ntmps45;go_wp2_with fail;refine HA.out.mono ?_;rintro e w2 ⟨g2,rfl,hg2,hr2,hb2⟩;have HR2:=zH hr2;have HB2:=zH hb2;obtain⟨b,off,cC,z1,hbb,_⟩:=(HK.out.keep hb2).rows;have hl:=HK.out.lt;clear hr2 hb2 HA;go_wp2_with fail
 go_loopw [7,16] (fun o i wr=>∃k g:Nat,k<=N/\i=.int .i64 (k:Int)/\o=.slice (some ⟨g,0,none⟩) n n/\w.heap.size<=g/\Hid (BRow wr g (evL n cls (zr G k) set))/\Hid (Below w.heap.size w wr)) (fun _ i _=>N-(intOf i).toNat)
 case atStart=>exact⟨0,g2,by omega,rfl,rfl,hg2,HR2,HB2⟩
 case round=>
  obtain⟨k,g,hk,rfl,rfl,hg,hr,hbw⟩:=hrel;clear HR2 z1
  by_cases hlt:k<N
  . have hb1:=bit_test hG (show k<5 by omega)
    have hk0:(0:Int)<=(k:Int):=by omega
    have hk1:(k:Int)<(N:Int):=by omega
    have hG00:(0:Int)<=(G:Int):=by omega
    have hmn:min k 64=k:=by omega
    by_cases hbit:G.testBit k=true
    case neg=>
     have hbf:G.testBit k=false:=by simpa using hbit
     rw[hbf] at hb1;have hE:zr G (k+1)=zr G k:=by rw[xM,Lf hbit]
     have hr2:Hid (BRow wr g (evL n cls (zr G (k+1)) set)):=by rw[hE];exact hr
     clear hr hE hbit hbf;go_wp2_with fail
     go_roundw
     case rel=>exact⟨k+1,g,by omega,by go_num,rfl,hg,hr2,hbw⟩
     case measure=>simp[intOf];omega
    case pos=>
    rw[hbit] at hb1;have HE:Hid (evL n cls (zr G (k+1)) set=xC n (evL n cls (zr G k) set) (yn n (cls k) set)):=by rw[Hid,xM,Lh hbit,wZ]
    have HC:=zH (HKN.out k hlt wr hbw.out);clear hbit;go_wp2_with fail;refine HC.out.mono ?_;rintro e w3 ⟨g3,rfl,hg3,hr3,hb3⟩;have hs3:=hbw.out.size;have hrw:BRow w3 g (evL n cls (zr G k) set):=Lb hb3 hr.out.lt hr.out;have HC2:=zH (HBO.out g g3 _ _ (yH n cls set (zr G k)) (zT n (cls k) set) w3 hrw hr3);rw[<-HE.out] at HC2;have HB3:=zH (hbw.out.trans (hb3.mono hs3));clear hr hbw hr3 hrw hb3 HC;go_wp2_with fail;refine HC2.out.mono ?_;rintro e w4 ⟨g4,rfl,hg4,hr4,hb4⟩;have HR4:=zH hr4;have HB4:=zH (Lc HB3.out hb4);have hg4':w.heap.size<=g4:=by have:=HB3.out.size;omega
    clear hr4 hb4 HC2 HB3;go_wp2_with fail
    go_roundw
    case rel=>exact⟨k+1,g4,by omega,by go_num,rfl,hg4',HR4,HB4⟩
    case measure=>simp[intOf];omega
  . obtain rfl:N=k:=by omega
    go_wp2_with fail;go_ret;exact⟨g,rfl,hg,hr.out,hbw.out⟩
end
section
open Go.RowKit Go.Shelf
attribute [local go_sem] Oper.semAt_some
section
variable {B D pt:Nat} {wD w W W':Ba}
theorem ownR_same{K:Kd}{base:Nat}{v:Value}{n:Nat}{cs:List Value}(h:OwnR K W base v n cs)(hs:∀k,v.ownBlock=some k->W'.heap[k]?=W.heap[k]?):OwnR K W' base v n cs:=by
 refine⟨h.1,?_⟩;rcases h.2 with hn | ⟨g,cap,cur,rfl,hb,hg,rest⟩
 . exact .inl hn
 . exact .inr ⟨g,cap,cur,rfl,hb,(hs g rfl).trans hg,rest⟩
end
end
section
open Go.RowKit Go.Shelf
attribute [local go_sem] Oper.semAt_some
theorem own_ne{w:Ba}{base base' n:Nat}{v V:Value}{xs:List Int}{cs:List Value}(h:Own w base v xs)(g:OwnR kIs w base' V n cs):v.ownBlock=none\/v.ownBlock≠V.ownBlock:=by
 rcases h.2 with ⟨rfl,_⟩ | ⟨b,cap,cur,rfl,_,hb,_⟩
 . exact .inl rfl
 . refine .inr fun e=>?_
   rcases g.2 with ⟨rfl,_⟩ | ⟨b',cap',cur',rfl,_,hb',_⟩
   . cases e
   . have:b=b':=by simpa[Value.ownBlock] using e
     subst this;rw[hb] at hb'
     cases hb'
structure NwIn(B bw n:Nat)(S SW:Array Value)(cls:Nat->List Int)(w W:Ba)(A:Bb)(k c:Nat)(cs:List Value):Prop where
 below:Below B w W
 b0:W.heap[B]?=some (.cells S 35 (0,0))
 bx:W.heap[bw]?=some (.cells SW 88 (0,0))
 own:OwnR kIs W (bw+1) (.slice A k c) k cs
 rows:∀q,q<k->∃A' c',cs[q]?=some (.slice A' n c')/\Own W (bw+1) (.slice A' n c') (cls q)
 len:cs.length=k
 lo:B<bw
theorem NwIn.on{B bw n k c:Nat}{S SW:Array Value}{cls:Nat->List Int}{w W W':Ba}{A:Bb}{cs:List Value}(h:NwIn B bw n S SW cls w W A k c cs)(hb:Below W.heap.size W W'):NwIn B bw n S SW cls w W' A k c cs:=by
 have l1:=zj h.bx;have l0:=zj h.b0;refine⟨h.below.trans (hb.mono (by omega)),Lb hb l0 h.b0,Lb hb l1 h.bx,h.own.below hb (Le _),fun q hq=>?_,h.len,h.lo⟩;obtain⟨A',c',e1,e2⟩:=h.rows q hq;exact⟨A',c',e1,e2.below hb (Le _)⟩
theorem NwIn.push{B bw n k c c2:Nat}{S SW SW':Array Value}{cls:Nat->List Int}{w W W1 W2:Ba}{A A2 A3:Bb}{c3:Nat}{cs:List Value}(h:NwIn B bw n S SW cls w W A k c cs)(hrow:Own W (bw+1) (.slice A3 n c3) (cls k))
  (ho:OwnR kIs W1 (bw+1) (.slice A2 (k+1) c2) (k+1) (cs++[.slice A3 n c3])) (hg:W.grownBy W1 (Value.slice A k c).ownBlock) (hs:∀z,z≠bw->W2.heap[z]?=W1.heap[z]?) (hb:Below B W1 W2) (hx:W2.heap[bw]?=some (.cells SW' 88 (0,0))) :
  NwIn B bw n S SW' cls w W2 A2 (k+1) c2 (cs++[.slice A3 n c3]):=by
 have l1:=zj h.bx;have l0:=zj h.b0;have lo:=h.lo;have hne:∀z,z<=bw->(Value.slice A k c).ownBlock≠some z:=fun z hz e=>by have:=(h.own.lt z e).1;omega
 have keep:∀(v:Value) (xs:List Int),Own W (bw+1) v xs->Own W2 (bw+1) v xs:=fun v xs hv=>by
  have h1:=hv.kept hg (own_ne hv h.own);exact h1.same fun z hz _=>hs z (by omega)
 refine⟨h.below.trans (((Lm _ _).grown hg (by omega) (fun r e=>by have:=(h.own.lt r e).1;omega)).trans hb),(hs B (by omega)).trans ((hg.block B l0 (fun e=>hne B (by omega) e.symm)).trans h.b0),hx,ownR_same ho (fun z e=>hs z (by have:=(ho.lt z e).1;omega)),fun q hq=>?_,by simp[h.len],lo⟩
 by_cases e:q=k
 . subst e
   exact⟨A3,c3,by rw[LT (by rw[h.len];exact Le _),h.len,N3];rfl,keep _ _ hrow⟩
 . obtain⟨A',c',e1,e2⟩:=h.rows q (by omega)
   exact⟨A',c',by rw[LW (by rw[h.len];omega)];exact e1,keep _ _ e2⟩
def RetKw(s:Sy)(w:Ba)(e:Ending)(w':Ba):Prop:=Below w.heap.size w w'/\((zZ s≠0/\e=.returned (.tuple #[.pointer none,.int .i64 (zZ s)])) \/
 (zZ s=0/\∃bw,e=.returned (.tuple #[.pointer (some ⟨bw,0,none⟩),.int .i64 0])/\KwAt w' w'.heap.size bw (ptn s) s.n.toNat (zX s)))
def JH(s:Sy)(A SV AV AX:Bb)(kc ks kv kx:Nat)(w:Ba)(e:Ending)(w':Ba):Prop:=Below w.heap.size w w'/\((zZ s≠0/\e=.returned (.tuple #[.pointer none,.int .i64 (zZ s)])) \/
 (zZ s=0/\∃bw,e=.returned (.tuple #[.pointer (some ⟨bw,0,none⟩),.int .i64 0])/\KwAt w' w'.heap.size bw (ptn s) s.n.toNat (zX s) /\
  ∃mb,w.heap.size<=mb/\MapOf (Value.int .i64) w' mb 0 (fun _=>none)/\∃AQ cQ,w'.heap[bw]?=some (.cells #[.int .i64 s.p.t.n,.int .i64 s.p.t.ins,.int .i64 s.p.t.outs,.slice A s.p.t.cases.length kc,.int .i64 s.p.a.n,.slice SV s.p.a.sts.length ks,.int .i64 s.p.k,.int .i64 s.n,.slice AV s.vs.length kv,.slice AX s.xs.length kx,.int .i64 (ptn s:Int),.slice AQ s.n.toNat cQ,.map (some mb)] 88 (0,0))))
theorem jx(s:Sy)(hs:LowS s)(hf:yM s.p)(A SV AV AX:Bb)(kc ks kv kx:Nat)(w:Ba)(hS:SyAt w w.heap.size A SV AV AX s) :
  Calls Tryz.prog 39 #[.agg (s.vs_ A kc SV ks AV kv AX kx)] w (JH s A SV AV AX kc ks kv kx w):=by
 obtain⟨w1,hw1,d0,hs1,hB⟩:=zm w (s.vs_ A kc SV ks AV kv AX kx) 35;have HCN:=zH (pCount_any s hs hf A SV AV AX kc ks kv kx w1 (hS.up hB));have HCL:=zH (fun (q:Nat) (X:Ba) (hX:Below w.heap.size w X)=>classes_any s hs hf (q:Int) A SV AV AX kc ks kv kx X ((hS.keep hX).more hX.size));have HE0:Hid (zZ s≠0->uk s=(0,zZ s)):=fun h=>Lh h
 have HE1:Hid (zZ s=0->uk s=((ptn s:Int),0)/\1<=ptn s/\(∃N:Nat,s.n=(N:Int)/\1<=N/\N<=5)/\∀q:Nat,(q:Int)<s.n->clsE s (q:Int)=(zX s q,0)):=fun h=>by
  obtain⟨_,K,N,hF⟩:=yv hf h;have hx:=xs_pos hf h;have:=LM hx (show 1<=s.p.k.toNat+1 by omega);refine⟨Lf (by simpa using h),by unfold ptn;omega,⟨N,hF.n,hF.n1,hF.n5⟩,fun q hq=>?_⟩;unfold clsE;rw[Lf (by simpa using h),Lf (by omega),Lo]
 have HKL:Hid (∀q,(zX s q).length=ptn s):=fun q=>xG s q
 unfold JH;obtain⟨r,hr⟩:=Ki (zZ s);rw[hr] at HE0 HE1 ⊢;obtain⟨R,hRR⟩:=Ki (uk s);rw[hRR] at HCN HE0 HE1;obtain⟨CLS,hCLS⟩:=Ki (zX s);rw[hCLS] at HE1 HKL ⊢;obtain⟨n,hn⟩:=Ki (ptn s);rw[hn] at HE1 HKL ⊢;unfold Sy.vs_ at hw1 d0 HCN HCL ⊢;have HW1:=zH hw1;have HB:=zH hB;have HD:=zH d0;obtain⟨p0,p1,p2,p3,p4,p5,p6,p7,p8,p9⟩:=zw (d0);clear hw1 d0 hB hS hr hRR hs hf hn hCLS;go_enter Tryz.func39,Tryz.ntmps39;go_wp2_with fail;rw[HW1.out];go_wp2_with fail;refine HCN.out.mono ?_;rintro e w2 ⟨rfl,hb2⟩;have HB2:=zH (HB.out.trans (hb2.mono (by omega)));have HD:=zH (La hb2 HD.out);clear p0 p1 p2 p3 p4 p5 p6 p7 p8 p9 hb2 HCN HW1 HB
 by_cases h0:r=0
 case neg=>
  have hR:Hid (R=(0,r)):=HE0.out h0;have e0:(r != 0)=true:=by simpa using h0
  clear HE0 HE1 HD HCL HKL;rw[hR.out];go_wp2_with fail
  go_ret2
  exact⟨HB2.out,.inl ⟨h0,rfl⟩⟩
 case pos=>
 subst h0;obtain⟨e1,hn1,⟨N,hN,hN1,hN5⟩,hcl⟩:=HE1.out rfl;rw[e1];have HNN:=zH hN;have HCE:=zH hcl;have HN1:=zH (And.intro hn1 (And.intro hN1 hN5));have hmm:=@run_makeMap Tryz.prog;obtain⟨p0,p1,p2,p3,p4,p5,p6,p7,p8,p9⟩:=zw (HD.out);clear HE0 HE1 e1 hn1 hN1 hN5 hN hcl;go_upto_region 5 with fail
 obtain⟨a3,h3⟩:=Ki (w2.alloc (.map #[] 0));have y3:a3.heap.size=w2.heap.size+1:=by rw[<-h3];simp
 have z3:Below w2.heap.size w2 a3:=by rw[<-h3];exact yg _ _
 have m3:MapOf (Value.int .i64) a3 w2.heap.size 0 (fun _=>none):=by rw[<-h3];exact MapOf.made w2
 rw[h3];obtain⟨a4,h4,x4,y4,z4⟩:=zm a3 #[.int .i64 s.p.t.n,.int .i64 s.p.t.ins,.int .i64 s.p.t.outs,.slice A s.p.t.cases.length kc,.int .i64 s.p.a.n,.slice SV s.p.a.sts.length ks,.int .i64 s.p.k,.int .i64 s.n,.slice AV s.vs.length kv,.slice AX s.xs.length kx,.int .i64 (n:Int),.slice none 0 0,.map (some w2.heap.size)] 88;rw[h4];rw[y3] at x4 y4;have hwl:=zj HD.out
 have hIN:NwIn w.heap.size (w2.heap.size+1) n #[.int .i64 s.p.t.n,.int .i64 s.p.t.ins,.int .i64 s.p.t.outs,.slice A s.p.t.cases.length kc,.int .i64 s.p.a.n,.slice SV s.p.a.sts.length ks,.int .i64 s.p.k,.int .i64 s.n,.slice AV s.vs.length kv,.slice AX s.xs.length kx] #[.int .i64 s.p.t.n,.int .i64 s.p.t.ins,.int .i64 s.p.t.outs,.slice A s.p.t.cases.length kc,.int .i64 s.p.a.n,.slice SV s.p.a.sts.length ks,.int .i64 s.p.k,.int .i64 s.n,.slice AV s.vs.length kv,.slice AX s.xs.length kx,.int .i64 (n:Int),.slice none 0 0,.map (some w2.heap.size)] CLS w a4 none 0 0 []:=
  ⟨HB2.out.trans ((z3.trans (z4.mono (by omega))).mono (by omega)),Lb z4 (by omega) (Lb z3 hwl HD.out),x4,OwnR.nil _ _ _,fun q hq=>by omega,rfl,by omega⟩
 have HIN:=zH hIN;have HM4:Hid (MapOf (Value.int .i64) a4 w2.heap.size 0 (fun _=>none)):=m3.same (z4.block _ (by omega));have hmw:Hid (w.heap.size<=w2.heap.size):=HB2.out.size;have q7:a4.cell? ⟨w.heap.size,7,none⟩=some (.int .i64 (N:Int)):=by rw[<-HNN.out];exact zh hIN.b0 7 rfl
 obtain⟨bw,hbw⟩:=Ki (w2.heap.size+1);have HBW:Hid (w2.heap.size<bw):=by rw[Hid];omega
 rw[hbw] at HIN ⊢;clear h3 y3 z3 m3 h4 x4 y4 z4 hwl hIN HD hbw hmm p0 p1 p2 p3 p4 p5 p6 p7 p8 p9;go_wp2_with fail
 go_loopw [26] (fun i wr=>∃k:Nat,k<=N/\i=.int .i64 (k:Int)/\∃AQ cQ cs,Hid (NwIn w.heap.size bw n #[.int .i64 s.p.t.n,.int .i64 s.p.t.ins,.int .i64 s.p.t.outs,.slice A s.p.t.cases.length kc,.int .i64 s.p.a.n,.slice SV s.p.a.sts.length ks,.int .i64 s.p.k,.int .i64 s.n,.slice AV s.vs.length kv,.slice AX s.xs.length kx] #[.int .i64 s.p.t.n,.int .i64 s.p.t.ins,.int .i64 s.p.t.outs,.slice A s.p.t.cases.length kc,.int .i64 s.p.a.n,.slice SV s.p.a.sts.length ks,.int .i64 s.p.k,.int .i64 s.n,.slice AV s.vs.length kv,.slice AX s.xs.length kx,.int .i64 (n:Int),.slice AQ k cQ,.map (some w2.heap.size)] CLS w wr AQ k cQ cs)/\Hid (MapOf (Value.int .i64) wr w2.heap.size 0 (fun _=>none))) (fun i _=>N-(intOf i).toNat)
 case atStart=>exact⟨0,by omega,rfl,none,0,[],HIN,HM4⟩
 case round=>
  obtain⟨k,hk,rfl,AQ,cQ,cs,hI,HM⟩:=hrel;clear HIN q7 HM4
  by_cases hlt:k<N
  . have hc:=HCL.out k wr hI.out.below
    rw[HCE.out k (by rw[HNN.out];omega)] at hc;have HC:=zH hc;have hk0:(0:Int)<=(k:Int):=by omega
    have hk1:(k:Int)<(N:Int):=by omega
    have hkl:=HKL.out k;have hk5:k<=5:=by have:=HN1.out;omega
    obtain⟨p0,p1,p2,p3,p4,p5,p6,p7,p8,p9⟩:=zw (hI.out.b0);clear hc;go_wp2_with fail;refine HC.out.mono ?_;rintro e w3 ⟨A3,c3,rfl,ho3,hb3⟩;have hI3:=hI.out.on hb3;have hlo:=hI.out.lo;have hlx:=zj hI.out.bx;have hmb:=HBW.out;have HM:=zH (HM.out.same (hb3.block _ (by omega)));have ho3':Own w3 (bw+1) (.slice A3 n c3) (CLS k):=by rw[<-hkl];exact ho3.low (by omega)
    dsimp only;rw[hkl];have HI3:=zH hI3;have HO3:=zH ho3';have b11:=zh hI3.bx 11 rfl;have hlx3:=zj hI3.bx;clear p0 p1 p2 p3 p4 p5 p6 p7 p8 p9 hb3 ho3 ho3' hI3 hI HC hkl;go_upto_region 11 with fail
    obtain⟨W4,hW4,d4,hs4,hb4⟩:=zm w3 #[.slice A3 n c3] 50;have HI4:=zH (HI3.out.on hb4);have HM:=zH (HM.out.same (hb4.block _ (by omega)));have HO4:=zH (HO3.out.below hb4 (Le _));have b11':=zh HI4.out.bx 11 rfl;have HR4:=zH HI4.out.own;have HLE:=zH HI4.out.len;have hb4s:bw+1<=W4.heap.size:=by omega
    have HW4:=zH hW4;clear HI3 HO3 hW4 hb4
    go_wp2_with (at_builtin; go_must (rw [HW4.out]; refine xW Jr rfl _ _ (by rfl) (bw + 1) (.slice AQ k cQ) k cs (by rfl) HR4.out w3.heap.size #[.slice A3 n c3] (by rfl) d4 rfl (by simp [Value.oneCell']) (by omega) hb4s _ rfl ?_); intro g' cap' w5 hr5 hg5 hat5 hlt5
                 have hx5:=(hg5.block bw (zj HI4.out.bx) (fun e=>by have:=(HR4.out.lt bw e.symm).1;omega)).trans HI4.out.bx;have u11:=zh hx5 11 rfl;have f11:=zi hx5 11;have l11:=zj hx5;have HX5:=zH hx5;have HM:=zH (HM.out.same (hg5.block _ (by have:=zj HI4.out.bx;omega) (fun e=>by have:=(HR4.out.lt _ e.symm).1;omega)));have HR5:=zH hr5;have HG5:=zH hg5
                 clear hx5 hr5 hg5 hat5 hlt5)
    have hnew:=Ln w5 bw 11 _ _ (.slice (some ⟨g',0,none⟩) (k+1) cap') HX5.out;have hI6:=HI4.out.push HO4.out HR5.out HG5.out (W2:=w5.setCell ⟨bw,11,none⟩ (.slice (some ⟨g',0,none⟩) (k+1) cap')) (fun z hz=>Lg w5 ⟨bw,11,none⟩ _ z hz) ((Lm _ _).setCell (by show w.heap.size<=bw;omega) _) hnew;have HI6:=zH hI6;have HM:=zH (HM.out.same (Lg w5 ⟨bw,11,none⟩ (.slice (some ⟨g',0,none⟩) (k+1) cap') w2.heap.size (by show ¬w2.heap.size=bw;omega)));clear hnew hI6 HI4 HO4 HR4 HR5 HG5 HX5 b11 b11' HW4
    go_roundw
    case rel=>exact⟨k+1,by omega,by go_num,_,_,_,HI6,HM⟩
    case measure=>simp[intOf];omega
  . obtain rfl:N=k:=by omega
    have hend:Hid (KwAt wr wr.heap.size bw n N CLS):=by
     have hl:=zj hI.out.bx;obtain⟨A0,c0,e0,_,_,hf⟩:=hI.out.own.form
     cases e0
     obtain⟨g,rfl,_,hg,hcs⟩:=hf (by have:=HN1.out;omega);refine⟨hl,zh hI.out.bx 10 rfl,⟨g,0,cQ,zh hI.out.bx 11 rfl,hg,fun q hq=>?_⟩,HKL.out⟩;obtain⟨A',c',e1,e2⟩:=hI.out.rows q hq;exact⟨A',c',by rw[LL];exact hcs q _ e1,own_on e2 (fun _ _ _=>rfl)⟩
    have HBE:=zH hI.out.below;have HBX:=zH hI.out.bx;clear hI;go_wp2_with fail
    go_ret2
    refine⟨HBE.out,bw,rfl,?_,w2.heap.size,hmw.out,HM.out,AQ,cQ,?_⟩
    . rw[HNN.out,Lo]
      exact hend.out
    . have h9:=HBX.out
      rw[HNN.out] at h9 ⊢;rw[Lo];exact h9
theorem Jj(s:Sy)(hs:LowS s)(hf:yM s.p)(A SV AV AX:Bb)(kc ks kv kx:Nat)(w:Ba)(hS:SyAt w w.heap.size A SV AV AX s) :
  Calls Tryz.prog 39 #[.agg (s.vs_ A kc SV ks AV kv AX kx)] w (RetKw s w):=
 (jx s hs hf A SV AV AX kc ks kv kx w hS).mono fun e w' h=>by
  obtain⟨hb,h | ⟨h1,bw,h2,h3,_⟩⟩:=h
  . exact⟨hb,.inl h⟩
  . exact⟨hb,.inr ⟨h1,bw,h2,h3⟩⟩
end
section
theorem Qq:∀(a b:List Bool),a.length=b.length->(∀i,a.getD i false=true->b.getD i false=true)->a.count true<=b.count true/\(a≠b->a.count true<b.count true)
 | [],[],_,_=>⟨Le _,fun h=>absurd rfl h⟩
 | x::a,y::b,hl,h=>by
  obtain⟨h1,h2⟩:=Qq a b (by simpa using hl) (fun i hi=>h (i+1) hi);have h0:=h 0;simp only[List.getD_cons_zero] at h0;simp only[List.count_cons]
  cases x with
  | false=>
   cases y with
   | false=>exact⟨by simpa using h1,fun hne=>by simpa using h2 (fun e=>hne (by rw[e]))⟩
   | true=>simp;omega
  | true=>
   rw[h0 rfl];exact⟨by simpa using h1,fun hne=>by have:=h2 (fun e=>hne (by rw[e]));simpa using this⟩
theorem qE{n:Nat}{a b:List Bool}(ha:a.length=n)(hb:b.length=n)(h:∀i,i<n->(a.getD i false=true↔b.getD i false=true)):a=b:=by
 refine NP (by omega) fun i h1 h2=>?_
 have:=h i (by omega);rw[zn h1,zn h2] at this;exact Nl.2 this
theorem jr{n:Nat}{F:Nat->List Bool}(hl:∀m,(F m).length=n)(hd:∀m i,(F (m+1)).getD i false=true->(F m).getD i false=true):∃M,M<=n/\F (M+1)=F M/\∀m,m<M->F (m+1)≠F m:=by
 have key:∀k,(∀m,m<k->F (m+1)≠F m)->(F k).count true+k<=n:=by
  intro k
  induction k with
  | zero=>intro _;have:=List.count_le_length (a:=true) (l:=F 0);rw[hl] at this;omega
  | succ k ih=>
   intro h;have h1:=ih fun m hm=>h m (by omega)
   have h2:=(Qq (F (k+1)) (F k) (by rw[hl,hl]) (hd k)).2 (h k (by omega));omega
 have hex:∃m,F (m+1)=F m:=by
  refine NQ fun hn=>?_
  have:=key (n+1) fun m _ e=>hn ⟨m,e⟩
  omega
 obtain⟨m,hm⟩:=hex;obtain⟨M,_,h2,h3⟩:=wV (p:=fun m=>F (m+1)=F m) m hm;exact⟨M,by have:=key M h3;omega,h2,h3⟩
def zD(n:Nat)(ev:List Bool->List Bool)(set:List Bool):Nat->List Bool
 | 0=>List.replicate n true
 | m+1=>ev (xC n set (zD n ev set m))
def zS(n:Nat)(ev:List Bool->List Bool)(set:List Bool):Nat->List Bool
 | 0=>set
 | m+1=>xC n (zS n ev set m) (ev (zS n ev set m))
def yw(n:Nat)(ev:List Bool->List Bool)(set:List Bool):Nat->List Int
 | 0=>List.replicate n (-1)
 | m+1=>(List.range n).map fun i=>if (zS n ev set m).getD i false then (m:Int) else (yw n ev set m).getD i 0
theorem wC(n:Nat)(ev:List Bool->List Bool)(set:List Bool):∀m,(yw n ev set m).length=n
 | 0=>by simp[yw]
 | m+1=>by simp[yw]
def xV(n:Nat)(ev:List Bool->List Bool)(set:List Bool)(M:Nat):List Int:=(List.range n).map fun i=>if (zS n ev set M).getD i false then (n:Int) else (yw n ev set M).getD i 0
theorem yl{n:Nat}{a b:List Bool}{i:Nat}(h:i<n):(xC n a b).getD i false=(a.getD i false&&b.getD i false):=by rw[zn (by rw[yi];exact h),gt h]
section
variable {n:Nat} {cls:Nat->List Int} {ps:List Nat} {set:List Bool}
theorem yP:∀m,(zD n (evL n cls ps) set m).length=n
 | 0=>by simp[zD]
 | m+1=>yH _ _ _ _
theorem kA(hs:set.length=n):∀m,(zS n (evL n cls ps) set m).length=n
 | 0=>hs
 | _+1=>yi _ _ _
theorem Y8{l:List Bool}{i:Nat}(h:l.length<=i):l.getD i false=false:=by rw[Lj,List.getElem?_eq_none h];rfl
theorem Xf{a b:List Bool}(h:∀i,i<n->a.getD i false=true->b.getD i false=true){i:Nat}(hi:i<n)(ha:(evL n cls ps a).getD i false=true):(evL n cls ps b).getD i false=true:=
 (qM hi ps).2 fun p hp j hj e=>h j hj ((qM hi ps).1 ha p hp j hj e)
theorem kZ:∀m i,(zD n (evL n cls ps) set (m+1)).getD i false=true->(zD n (evL n cls ps) set m).getD i false=true
 | 0,i,h=>by
  by_cases hi:i<n
  . simp[zD,List.getD_eq_getElem?_getD,hi]
  . rw[Y8 (by rw[yP];omega)] at h;cases h
 | m+1,i,h=>by
  by_cases hi:i<n
  . refine Xf (fun j hj hh=>?_) hi h
    rw[yl hj,Lx] at hh ⊢;exact⟨hh.1,kZ m j hh.2⟩
  . rw[Y8 (by rw[yP];omega)] at h;cases h
theorem jb(hs:set.length=n)(m i:Nat)(h:(zS n (evL n cls ps) set (m+1)).getD i false=true):(zS n (evL n cls ps) set m).getD i false=true:=by
 by_cases hi:i<n
 . rw[zS,yl hi,Lx] at h;exact h.1
 . rw[Y8 (by rw[kA hs];omega)] at h;cases h
variable {f:List Int}
end
end
section
open Go.RowKit
attribute [local go_sem] Oper.semAt_some
theorem ju(A A':Bb)(cap cap':Nat)(vs us:List Bool)(w:Ba)(B:Nat)(hB:B<=w.heap.size)(hA:BAt w B A vs)(hA':BAt w B A' us)(hl:vs.length<=1000000)(hl':us.length<=1000000) :
  Calls Tryz.prog 15 #[.slice A vs.length cap,.slice A' us.length cap'] w fun e w'=>e=.returned (.bool (decide (vs=us)))/\∃n,w'=w.drewN n:=by
 by_cases hll:vs.length=us.length
 . have HL:=zH hll
   have hl1:((vs.length:Int) != (us.length:Int))=false:=by simp[hll]
   clear hll;go_enter Tryz.func15,Tryz.ntmps15;go_wp2_with fail
   go_loopw [13] (fun i wr=>∃k m:Nat,k<=vs.length/\i=.int .i64 k/\wr=w.drewN m/\Hid (vs.take k=us.take k)) (fun i _=>vs.length-(intOf i).toNat)
   case atStart=>exact⟨0,0,by omega,rfl,rfl,by show vs.take 0=us.take 0;simp⟩
   case round=>
    obtain⟨k,m,hk,rfl,rfl,hall⟩:=hrel;have hle:k<=us.length:=by have:=HL.out;omega
    by_cases hlt:k<vs.length
    . have hlt':k<us.length:=by have:=HL.out;omega
      obtain⟨b,off,rfl,hb1,c0⟩:=hA.at_ k hlt;have hb2:b<w.heap.size:=by omega
      obtain⟨b',off',rfl,hb1',d0⟩:=hA'.at_ k hlt';have hb2':b'<w.heap.size:=by omega
      clear hA hA'
      by_cases hv:vs[k]=us[k]
      . have hz:Hid (vs.take (k+1)=us.take (k+1)):=vR hlt hlt' hall.out hv
        obtain⟨x,hx⟩:=Ki (vs[k]);obtain⟨y,hy⟩:=Ki (us[k]);rw[hx] at c0 hv;rw[hy] at d0 hv;subst hv;clear hx hy;have q1:(x != x)=false:=by simp
        have q2:(x==x)=true:=by simp
        go_wp2_with fail;go_quiet (fail);go_wp2_with fail
        go_roundw
        case rel=>exact⟨k+1,_,by omega,by go_num,rfl,hz⟩
        case measure=>simp[intOf];omega
      . have hz:Hid (decide (vs=us)=false):=Li (qX hlt hlt' hv)
        obtain⟨x,hx⟩:=Ki (vs[k]);obtain⟨y,hy⟩:=Ki (us[k]);rw[hx] at c0 hv;rw[hy] at d0 hv;have q1:(x != y)=true:=by simpa using hv
        have q2:(x==y)=false:=by simpa using hv
        clear hx hy hv;go_wp2_with fail;go_quiet (fail);go_wp2_with fail;go_ret;exact⟨zt hz.out.symm,_,jj _ _ _⟩
    . obtain rfl:k=vs.length:=by omega
      have hz:Hid (decide (vs=us)=true):=Lk (kg HL.out hall.out);go_wp2_with fail;go_ret;exact⟨zt hz.out.symm,_,rfl⟩
 . have hz:Hid (decide (vs=us)=false):=Li (by rintro rfl;exact hll rfl)
   have hl1:((vs.length:Int) != (us.length:Int))=true:=by simp;omega
   clear hll;go_enter Tryz.func15,Tryz.ntmps15;go_wp2_with fail;go_ret;exact⟨zt hz.out.symm,0,rfl⟩
end
section
open Go.RowKit Go.Shelf
attribute [local go_sem] Oper.semAt_some
def RetOp(s:Sy)(g:Int)(set:List Bool)(w:Ba)(e:Ending)(w':Ba):Prop:=Below w.heap.size w w'/\((zJ s g set≠0/\e=.returned (.tuple #[.pointer none,.int .i64 (zJ s g set)])) \/
 (zJ s g set=0/\∃bw,e=.returned (.tuple #[.pointer (some ⟨bw,0,none⟩),.int .i64 0])/\KwAt w' w'.heap.size bw (ptn s) s.n.toNat (zX s)))
def RetOpG(s:Sy)(g:Int)(set:List Bool)(A SV AV AX:Bb)(kc ks kv kx:Nat)(w:Ba)(e:Ending)(w':Ba):Prop:=Below w.heap.size w w'/\((zJ s g set≠0/\e=.returned (.tuple #[.pointer none,.int .i64 (zJ s g set)])) \/
 (zJ s g set=0/\∃bw,e=.returned (.tuple #[.pointer (some ⟨bw,0,none⟩),.int .i64 0])/\KwAt w' w'.heap.size bw (ptn s) s.n.toNat (zX s) /\
  ∃mb,w.heap.size<=mb/\MapOf (Value.int .i64) w' mb 0 (fun _=>none)/\∃AQ cQ,w'.heap[bw]?=some (.cells #[.int .i64 s.p.t.n,.int .i64 s.p.t.ins,.int .i64 s.p.t.outs,.slice A s.p.t.cases.length kc,.int .i64 s.p.a.n,.slice SV s.p.a.sts.length ks,.int .i64 s.p.k,.int .i64 s.n,.slice AV s.vs.length kv,.slice AX s.xs.length kx,.int .i64 (ptn s:Int),.slice AQ s.n.toNat cQ,.map (some mb)] 88 (0,0))))
theorem Zy(s:Sy)(hs:LowS s)(hf:yM s.p)(g:Int)(set:List Bool)(A SV AV AX AB:Bb)(kc ks kv kx kb:Nat)(_hsl:set.length<=1000000)(w:Ba)(hS:SyAt w w.heap.size A SV AV AX s) :
  Calls Tryz.prog 44 #[.agg (s.vs_ A kc SV ks AV kv AX kx),.int .i64 g,.slice AB set.length kb] w (RetOpG s g set A SV AV AX kc ks kv kx w):=by
 obtain⟨w1,hw1,d0,hs1,hB⟩:=zm w (s.vs_ A kc SV ks AV kv AX kx) 35;have HNW:=zH (jx s hs hf A SV AV AX kc ks kv kx w1 (hS.up hB))
 have HE0:Hid (zZ s≠0->zJ s g set=zZ s):=fun h=>by
  have:zQ s g=zZ s:=Lh h;unfold zJ;rw[this,Lh h]
 have HE1:Hid (zZ s=0->(∃N:Nat,s.n=(N:Int)/\1<=N/\N<=5/\((g<0\/(2:Int)^N<=g)->zJ s g set=2)/\(¬(g<0\/(2:Int)^N<=g)->zJ s g set=if set.length≠ptn s then 15 else 0))/\ptn s<=700):=fun h=>by
  obtain⟨_,K,N,hF⟩:=yv hf h;have hr:zQ s g=if g<0\/(2:Int)^N<=g then 2 else 0:=by unfold zQ;rw[Lf (by simpa using h),hF.n,Lo]
  have hpn:ptn s<=700:=by
   have hk:=hF.k;have hk6:=hF.k6;have:=LM hF.lx (show K+1<=7 by omega);unfold ptn;rw[hk,Lo];omega
  refine⟨⟨N,hF.n,hF.n1,hF.n5,fun h2=>?_,fun h2=>?_⟩,hpn⟩
  . unfold zJ;rw[hr,Lh h2];rfl
  . unfold zJ;rw[hr,Lf h2,Lf (by simp)]
 unfold JH at HNW;unfold RetOpG;obtain⟨r,hr⟩:=Ki (zZ s);rw[hr] at HNW HE0 HE1;obtain⟨E,hE⟩:=Ki (zJ s g set);rw[hE] at HE0 HE1 ⊢;obtain⟨n,hn⟩:=Ki (ptn s);rw[hn] at HNW HE1 ⊢;unfold Sy.vs_ at hw1 d0 HNW ⊢;have HW1:=zH hw1;have HB:=zH hB;have HD:=zH d0;obtain⟨p0,p1,p2,p3,p4,p5,p6,p7,p8,p9⟩:=zw (d0);clear hw1 d0 hB hS hr hs hf hn hE;go_enter Tryz.func44,Tryz.ntmps44;go_wp2_with fail;rw[HW1.out];go_wp2_with fail;refine HNW.out.mono ?_;rintro e w2 ⟨hb2,hcase⟩;have HB2:=zH (HB.out.trans (hb2.mono (by omega)));have HD:=zH (La hb2 HD.out);clear p0 p1 p2 p3 p4 p5 p6 p7 p8 p9 hb2 HNW HW1 HB;rcases hcase with ⟨h0,rfl⟩ | ⟨rfl,bw,rfl,hK,mb,hmb,hmm,AQ,cQ,hbx⟩
 . have hR:Hid (E=r):=HE0.out h0
   have e0:(r != 0)=true:=by simpa using h0
   clear HE0 HE1 HD;go_wp2_with fail
   go_ret2
   rw[hR.out];exact⟨HB2.out,.inl ⟨h0,rfl⟩⟩
 have HXX:=zH (And.intro (show w.heap.size<=mb by omega) (And.intro hmm hbx));clear hmb hmm hbx;obtain⟨⟨N,hN,hN1,hN5,hbad,hok⟩,hpn⟩:=HE1.out rfl;have HBAD:=zH hbad;have HOK:=zH hok;have HNN:=zH hN;have HK:=zH hK;have z10:=hK.size
 have h2b:(1:Int)<=(2:Int)^N/\(2:Int)^N<=32:=by
  obtain rfl | rfl | rfl | rfl | rfl:N=1\/N=2\/N=3\/N=4\/N=5:=by omega
  all_goals decide
 have hwT:IntKind.i64.wrap ((2:Int)^N)=(2:Int)^N:=by rw[Ll];omega
 have hmn:min N 64=N:=by omega
 have q7:w2.cell? ⟨w.heap.size,7,none⟩=some (.int .i64 (N:Int)):=by rw[<-HNN.out];exact zh HD.out 7 rfl
 have hlK:=HK.out.lt;clear HE0 HE1 hbad hok hN hK h2b
 by_cases hneg:g<0
 . have hR:Hid (E=2):=HBAD.out (.inl hneg)
   have e0:decide (g<0)=true:=Lk hneg;clear HBAD HOK HD z10;go_wp2_with fail
   go_ret2
   rw[hR.out];exact⟨HB2.out,.inl ⟨by decide,rfl⟩⟩
 have e0:decide (g<0)=false:=Li hneg
 by_cases hbig:(2:Int)^N<=g
 . have hR:Hid (E=2):=HBAD.out (.inr hbig)
   have e1:decide (g>=(2:Int)^N)=true:=Lk hbig;have e2:decide ((2:Int)^N<=g)=true:=Lk hbig;clear HBAD HOK HD z10;go_wp2_with fail
   go_ret2
   rw[hR.out];exact⟨HB2.out,.inl ⟨by decide,rfl⟩⟩
 have e1:decide (g>=(2:Int)^N)=false:=Li hbig;have e2:decide ((2:Int)^N<=g)=false:=Li hbig;have hR0:=HOK.out (by omega)
 by_cases hlen:set.length=n
 . have hR:Hid (E=0):=by rw[Hid,hR0,Lf (by simpa using hlen)]
   have HLN:=zH hlen;obtain⟨ln,hln⟩:=Ki set.length;rw[hln] at hlen;subst hlen;rw[hln] at *;clear HBAD HOK HD hR0 hln;go_wp2_with fail
   go_ret2
   rw[hR.out];exact⟨HB2.out,.inr ⟨rfl,bw,rfl,HK.out,mb,HXX.out.1,HXX.out.2.1,AQ,cQ,HXX.out.2.2⟩⟩
 . have hR:Hid (E=15):=by rw[Hid,hR0,Lh hlen]
   have e3:((set.length:Int) != (n:Int))=true:=by simp;omega
   have i3:¬(set.length:Int)=(n:Int):=by omega
   clear HBAD HOK HD hR0;go_wp2_with fail
   go_ret2
   rw[hR.out];exact⟨HB2.out,.inl ⟨by decide,rfl⟩⟩
theorem uL(s:Sy)(hs:LowS s)(hf:yM s.p)(g:Int)(set:List Bool)(A SV AV AX AB:Bb)(kc ks kv kx kb:Nat)(hsl:set.length<=1000000)(w:Ba)(hS:SyAt w w.heap.size A SV AV AX s) :
  Calls Tryz.prog 44 #[.agg (s.vs_ A kc SV ks AV kv AX kx),.int .i64 g,.slice AB set.length kb] w (RetOp s g set w):=
 (Zy s hs hf g set A SV AV AX AB kc ks kv kx kb hsl w hS).mono fun e w' h=>by
  obtain⟨hb,h | ⟨h1,bw,h2,h3,_⟩⟩:=h
  . exact⟨hb,.inl h⟩
  . exact⟨hb,.inr ⟨h1,bw,h2,h3⟩⟩
theorem ZH(bw n N:Nat)(cls:Nat->List Int)(h1:1<=n)(hn:n<=100000)(hN:N<=5)(G:Nat)(hG:G<32)(B:Bb)(cb:Nat)(set:List Bool)(hb:set.length=n)(M:Nat)(hMn:M<=n)(hM:zD n (evL n cls (zr G N)) set (M+1)=zD n (evL n cls (zr G N)) set M)(hlt:∀m,m<M->zD n (evL n cls (zr G N)) set (m+1)≠zD n (evL n cls (zr G N)) set m)
  (w:Ba) (hK:KwAt w w.heap.size bw n N cls) (hB:BAt w w.heap.size B set) :
  Calls Tryz.prog 49 #[.pointer (some ⟨bw,0,none⟩),.int .i64 (G:Int),.slice B n cb] w fun e w'=>∃g:Nat,e=.returned (.tuple #[.slice (some ⟨g,0,none⟩) n n,.int .i64 (M:Int)])/\w.heap.size<=g/\BRow w' g (zD n (evL n cls (zr G N)) set M)/\Below w.heap.size w w':=by
 have HA:=zH (kall_any bw n N cls h1 hn w hK);have HEV:=zH (fun (g:Nat) (x:List Bool) (hx:x.length=n) (X:Ba) (hX:Below w.heap.size w X) (hr:BRow X g x)=>kn bw n N cls h1 hn hN G hG (some ⟨g,0,none⟩) n x hx X ((hK.keep hX).more hX.size) (hr.at_ hr.lt));have HBO:=zH (fun (g:Nat) (x:List Bool) (hx:x.length=n) (X:Ba) (hX:Below w.heap.size w X) (hr:BRow X g x)=>gY B (some ⟨g,0,none⟩) cb n n hn set x hb hx X ((hB.keep hX).more hX.size) (hr.at_ hr.lt));have HLN:Hid (∀m,(zD n (evL n cls (zr G N)) set m).length=n):=fun m=>yP m
 have HST:Hid (∀m,evL n cls (zr G N) (xC n set (zD n (evL n cls (zr G N)) set m))=zD n (evL n cls (zr G N)) set (m+1)):=fun _=>rfl
 have HM:=zH hM;have HLT:=zH hlt;unfold RetB at HA HEV HBO;rw[LH] at HA;simp only[yH] at HEV;simp only[yi] at HBO;have h00:Hid (zD n (evL n cls (zr G N)) set 0=List.replicate n true):=rfl;obtain⟨F,hF⟩:=Ki (zD n (evL n cls (zr G N)) set);rw[hF] at HLN HST HM HLT h00 ⊢;clear hK hB hb hM hlt hF;go_enter Tryz.func49,Tryz.ntmps49;go_wp2_with fail;refine HA.out.mono ?_;rintro e w2 ⟨g2,rfl,hg2,hr2,hb2⟩;have HR2:Hid (BRow w2 g2 (F 0)):=by rw[h00.out];exact hr2
 have HB2:=zH hb2;clear hr2 hb2 HA h00;go_wp2_with fail
 go_loopw [8,9] (fun o i wr=>∃k g:Nat,k<=M/\i=.int .i64 (k:Int)/\o=.slice (some ⟨g,0,none⟩) n n/\w.heap.size<=g/\Hid (BRow wr g (F k))/\Hid (Below w.heap.size w wr)) (fun _ i _=>M+1-(intOf i).toNat)
 case atStart=>exact⟨0,g2,by omega,rfl,rfl,hg2,HR2,HB2⟩
 case round=>
  obtain⟨k,g,hk,rfl,rfl,hg,hr,hbw⟩:=hrel;clear HR2;have hsw:=hbw.out.size;have HC:=zH (HBO.out g (F k) (HLN.out k) wr hbw.out hr.out);go_wp2_with fail;refine HC.out.mono ?_;rintro e w3 ⟨g3,rfl,hg3,hr3,hb3⟩;have HR3:Hid (BRow w3 g (F k)):=Lb hb3 hr.out.lt hr.out;have HB3:=zH (hbw.out.trans (hb3.mono hsw));have HC2:=zH (HEV.out g3 _ (yi _ _ _) w3 HB3.out hr3);simp only[HST.out] at HC2;clear hr3 hb3 HC hr hbw;go_wp2_with fail;refine HC2.out.mono ?_;rintro e w4 ⟨g4,rfl,hg4,hr4,hb4⟩;have HR4:=zH hr4;have HR5:Hid (BRow w4 g (F k)):=Lb hb4 HR3.out.lt HR3.out;have HB4:=zH (Lc HB3.out hb4);have heq:=ju (some ⟨g4,0,none⟩) (some ⟨g,0,none⟩) n n (F (k+1)) (F k) w4 w4.heap.size (Le _) (HR4.out.at_ HR4.out.lt) (HR5.out.at_ HR5.out.lt) (by rw[HLN.out];omega) (by rw[HLN.out];omega);rw[HLN.out,HLN.out] at heq;have HEQ:=zH heq;have hs4:=HB4.out.size;have hg4':w.heap.size<=g4:=by have:=HB3.out.size;omega
  clear hr4 hb4 HC2 HB3 HR3 heq;go_wp2_with fail;refine HEQ.out.mono ?_;rintro e w5 ⟨rfl,q,rfl⟩;have HB5:=zH (HB4.out.trans (zY (Lm _ _) q));have HR6:Hid (BRow (w4.drewN q) g4 (F (k+1))):=HR4.out;have HR7:Hid (BRow (w4.drewN q) g (F k)):=HR5.out;obtain⟨w5,hw5⟩:=Ki (w4.drewN q);rw[hw5] at HB5 HR6 HR7 ⊢;clear hw5 HEQ HR4 HR5 HB4
  by_cases hst:F (k+1)=F k
  · have hkM : k = M := by
     refine NQ fun hne=>?_
     exact HLT.out k (by omega) hst
    subst hkM;have e0:decide (F (k+1)=F k)=true:=Lk hst;rw[e0];clear hst e0;go_wp2_with fail
    go_ret2
    exact⟨g,rfl,hg,HR7.out,HB5.out⟩
  · have hkM : k < M := by
     refine NQ fun hne=>?_
     have:k=M:=by omega
     subst this;exact hst HM.out
    have e0:decide (F (k+1)=F k)=false:=Li hst;rw[e0];clear hst e0;go_wp2_with fail
    go_roundw
    case rel=>exact⟨k+1,g4,by omega,by go_num,rfl,hg4',HR6,HB5⟩
    case measure=>simp[intOf];omega
end
section
open Go.RowKit
attribute [local go_sem] Oper.semAt_some
theorem wW{S:Nat->Prop}{W:Ba}{b:Nat}{xs:List Int}{t:TypeId}(hS:S b)(h:W.heap[b]?=some (.cells ((xs.map (Value.int .i64)).toArray) t (0,0))):IAtS S W (some ⟨b,0,none⟩) xs:=fun _=>
 ⟨b,0,rfl,hS,zj h,fun i hi=>by rw[LL];exact zh h i (by simp[hi])⟩
theorem lats_one{S:Nat->Prop}{W:Ba}{b:Nat}{v:List Int}{A:Bb}{c:Nat}{t:TypeId}(hS:S b)(h:W.heap[b]?=some (.cells #[.slice A v.length c] t (0,0)))(h2:IAtS S W A v):LAtS S W (some ⟨b,0,none⟩) [v]:=fun _=>
 ⟨b,0,rfl,hS,zj h,fun i hi=>by
  obtain rfl:i=0:=by simpa using hi
  exact⟨A,c,zh h 0 rfl,h2⟩⟩
theorem set10{w:Ba}{g:Nat}{a0 a1 a2 a3 a4 a5 a6 a7 a8 a9:Value}{t:TypeId}(h:w.heap[g]?=some (.cells #[a0,a1,a2,a3,a4,a5,a6,a7,a8,a9] t (0,0)))(v0 v1 v2 v3 v4 v5 v6 v7 v8 v9:Value) :
  ∃W,((((((((((w.setCell ⟨g,0,none⟩ v0).setCell ⟨g,1,none⟩ v1).setCell ⟨g,2,none⟩ v2).setCell ⟨g,3,none⟩ v3).setCell ⟨g,4,none⟩ v4).setCell ⟨g,5,none⟩ v5).setCell ⟨g,6,none⟩ v6).setCell ⟨g,7,none⟩ v7).setCell ⟨g,8,none⟩ v8).setCell ⟨g,9,none⟩ v9)=W/\W.heap[g]?=some (.cells #[v0,v1,v2,v3,v4,v5,v6,v7,v8,v9] t (0,0))/\(∀k,k≠g->W.heap[k]?=w.heap[k]?)/\(∀B,B<=g->Below B w W)/\W.heap.size=w.heap.size:=by
 refine⟨_,rfl,?_,fun k hk=>?_,fun B hB=>?_,by simp[World.setCell]⟩
 . have k0:(w.setCell ⟨g,0,none⟩ v0).heap[g]?=some (.cells #[v0,a1,a2,a3,a4,a5,a6,a7,a8,a9] t (0,0)):=Ln _ g 0 _ _ v0 h
   have k1:((w.setCell ⟨g,0,none⟩ v0).setCell ⟨g,1,none⟩ v1).heap[g]?=some (.cells #[v0,v1,a2,a3,a4,a5,a6,a7,a8,a9] t (0,0)):=Ln _ g 1 _ _ v1 k0;have k2:(((w.setCell ⟨g,0,none⟩ v0).setCell ⟨g,1,none⟩ v1).setCell ⟨g,2,none⟩ v2).heap[g]?=some (.cells #[v0,v1,v2,a3,a4,a5,a6,a7,a8,a9] t (0,0)):=Ln _ g 2 _ _ v2 k1;have k3:((((w.setCell ⟨g,0,none⟩ v0).setCell ⟨g,1,none⟩ v1).setCell ⟨g,2,none⟩ v2).setCell ⟨g,3,none⟩ v3).heap[g]?=some (.cells #[v0,v1,v2,v3,a4,a5,a6,a7,a8,a9] t (0,0)):=Ln _ g 3 _ _ v3 k2;have k4:(((((w.setCell ⟨g,0,none⟩ v0).setCell ⟨g,1,none⟩ v1).setCell ⟨g,2,none⟩ v2).setCell ⟨g,3,none⟩ v3).setCell ⟨g,4,none⟩ v4).heap[g]?=some (.cells #[v0,v1,v2,v3,v4,a5,a6,a7,a8,a9] t (0,0)):=Ln _ g 4 _ _ v4 k3;have k5:((((((w.setCell ⟨g,0,none⟩ v0).setCell ⟨g,1,none⟩ v1).setCell ⟨g,2,none⟩ v2).setCell ⟨g,3,none⟩ v3).setCell ⟨g,4,none⟩ v4).setCell ⟨g,5,none⟩ v5).heap[g]?=some (.cells #[v0,v1,v2,v3,v4,v5,a6,a7,a8,a9] t (0,0)):=Ln _ g 5 _ _ v5 k4;have k6:(((((((w.setCell ⟨g,0,none⟩ v0).setCell ⟨g,1,none⟩ v1).setCell ⟨g,2,none⟩ v2).setCell ⟨g,3,none⟩ v3).setCell ⟨g,4,none⟩ v4).setCell ⟨g,5,none⟩ v5).setCell ⟨g,6,none⟩ v6).heap[g]?=some (.cells #[v0,v1,v2,v3,v4,v5,v6,a7,a8,a9] t (0,0)):=Ln _ g 6 _ _ v6 k5
   have k7:((((((((w.setCell ⟨g,0,none⟩ v0).setCell ⟨g,1,none⟩ v1).setCell ⟨g,2,none⟩ v2).setCell ⟨g,3,none⟩ v3).setCell ⟨g,4,none⟩ v4).setCell ⟨g,5,none⟩ v5).setCell ⟨g,6,none⟩ v6).setCell ⟨g,7,none⟩ v7).heap[g]?=some (.cells #[v0,v1,v2,v3,v4,v5,v6,v7,a8,a9] t (0,0)):=Ln _ g 7 _ _ v7 k6;have k8:(((((((((w.setCell ⟨g,0,none⟩ v0).setCell ⟨g,1,none⟩ v1).setCell ⟨g,2,none⟩ v2).setCell ⟨g,3,none⟩ v3).setCell ⟨g,4,none⟩ v4).setCell ⟨g,5,none⟩ v5).setCell ⟨g,6,none⟩ v6).setCell ⟨g,7,none⟩ v7).setCell ⟨g,8,none⟩ v8).heap[g]?=some (.cells #[v0,v1,v2,v3,v4,v5,v6,v7,v8,a9] t (0,0)):=Ln _ g 8 _ _ v8 k7;have k9:((((((((((w.setCell ⟨g,0,none⟩ v0).setCell ⟨g,1,none⟩ v1).setCell ⟨g,2,none⟩ v2).setCell ⟨g,3,none⟩ v3).setCell ⟨g,4,none⟩ v4).setCell ⟨g,5,none⟩ v5).setCell ⟨g,6,none⟩ v6).setCell ⟨g,7,none⟩ v7).setCell ⟨g,8,none⟩ v8).setCell ⟨g,9,none⟩ v9).heap[g]?=some (.cells #[v0,v1,v2,v3,v4,v5,v6,v7,v8,v9] t (0,0)):=Ln _ g 9 _ _ v9 k8;exact k9
 . exact(Lg _ ⟨g,9,none⟩ v9 k hk).trans ((Lg _ ⟨g,8,none⟩ v8 k hk).trans ((Lg _ ⟨g,7,none⟩ v7 k hk).trans ((Lg _ ⟨g,6,none⟩ v6 k hk).trans ((Lg _ ⟨g,5,none⟩ v5 k hk).trans ((Lg _ ⟨g,4,none⟩ v4 k hk).trans ((Lg _ ⟨g,3,none⟩ v3 k hk).trans ((Lg _ ⟨g,2,none⟩ v2 k hk).trans ((Lg _ ⟨g,1,none⟩ v1 k hk).trans (Lg _ ⟨g,0,none⟩ v0 k hk)))))))))
 . refine Ly (p:=⟨g,9,none⟩) ?_ hB _
   refine Ly (p:=⟨g,8,none⟩) ?_ hB _;refine Ly (p:=⟨g,7,none⟩) ?_ hB _;refine Ly (p:=⟨g,6,none⟩) ?_ hB _;refine Ly (p:=⟨g,5,none⟩) ?_ hB _;refine Ly (p:=⟨g,4,none⟩) ?_ hB _;refine Ly (p:=⟨g,3,none⟩) ?_ hB _;refine Ly (p:=⟨g,2,none⟩) ?_ hB _;refine Ly (p:=⟨g,1,none⟩) ?_ hB _;refine Ly (p:=⟨g,0,none⟩) ?_ hB _;exact Lm B w
end
section
open Go.RowKit Go.Shelf
attribute [local go_sem] Oper.semAt_some
def vd(bs:List Bool)(n:Nat):List Bool:=(List.range n).map fun i=>bs.getD (i % bs.length) false
theorem kX(bs:List Bool)(n:Nat):(vd bs n).length=n:=by simp[vd]
theorem BAt.of_own{w w':Ba}{base:Nat}{A':Bb}{n c:Nat}{bs:List Bool}(h:OwnR kBl w base (.slice A' n c) n (bs.map .bool))(hn:bs.length=n)(hk:∀k,base<=k->w'.heap[k]?=w.heap[k]?)(hz:w.heap.size<=w'.heap.size):BAt w' w'.heap.size A' bs:=fun h0=>by
 have hlt:=h.lt;obtain⟨A,cap,e,_,_,h3⟩:=h.form
 cases e
 obtain⟨g,rfl,ho,hg,hc⟩:=h3 (by omega);have hb:=(hlt g ho).1;exact⟨g,0,rfl,by omega,fun i hi=>by rw[LL];exact(LE (hk g hb)).trans (hc _ _ (by rw[Su,Lq hi];rfl))⟩
theorem BAt.raw{w:Ba}{A:Bb}{bs:List Bool}(h:BAt w w.heap.size A bs):Raw w A bs.length (bs.map Value.bool):=fun h0=>by
 obtain⟨b,off,e,hlt,hc⟩:=h h0;refine⟨b,off,e,hlt,fun j u hj=>?_⟩;rw[Su] at hj;obtain⟨x,hx,rfl⟩:=Option.map_eq_some_iff.1 hj;obtain⟨hl,rfl⟩:=Ls.1 hx;exact hc j hl
theorem row_ne{w:Ba}{g b o:Nat}{xs:List Int}{x:Bool}(h:RowAt w g xs)(hb:w.cell? ⟨b,o,none⟩=some (.bool x)):b≠g:=by
 rintro rfl
 by_cases ho:o<xs.length
 . rw[h.cell o ho] at hb;cases hb
 · have : w.cell? ⟨b, o, none⟩ = none := by
    unfold RowAt at h;simp[World.cell?,h];omega
   rw[this] at hb;cases hb
def evG(s:Sy)(g:Int):List Bool->List Bool:=evL (ptn s) (zX s) (psG s g)
def QQ(s:Sy)(g:Int)(set:List Bool)(w:Ba)(e:Ending)(w':Ba):Prop:=Below w.heap.size w w'/\((zJ s g set≠0/\e=.returned (.tuple #[.slice none 0 0,.int .i64 0,.int .i64 (zJ s g set)])) \/
 (zJ s g set=0/\∃(M gr:Nat),e=.returned (.tuple #[.slice (some ⟨gr,0,none⟩) (ptn s) (ptn s),.int .i64 (M:Int),.int .i64 0])/\M<=ptn s/\zD (ptn s) (evG s g) set (M+1)=zD (ptn s) (evG s g) set M/\(∀m,m<M->zD (ptn s) (evG s g) set (m+1)≠zD (ptn s) (evG s g) set m)/\w.heap.size<=gr/\BRow w' gr (zD (ptn s) (evG s g) set M)))
def QO(s:Sy)(g:Int)(set:List Bool)(w:Ba)(e:Ending)(w':Ba):Prop:=Below w.heap.size w w'/\((zJ s g set≠0/\e=.returned (.tuple #[.slice none 0 0,.int .i64 (zJ s g set)])) \/
 (zJ s g set=0/\∃(M gr:Nat),e=.returned (.tuple #[.slice (some ⟨gr,0,none⟩) (ptn s) (ptn s),.int .i64 0])/\zS (ptn s) (evG s g) set (M+1)=zS (ptn s) (evG s g) set M/\(∀m,m<M->zS (ptn s) (evG s g) set (m+1)≠zS (ptn s) (evG s g) set m)/\w.heap.size<=gr/\RowAt w' gr (xV (ptn s) (evG s g) set M)))
theorem xv{s:Sy}{g:Int}{set:List Bool}(hf:yM s.p)(h:zJ s g set=0):∃G:Nat,g=(G:Int)/\G<32/\s.n.toNat<=5/\1<=ptn s/\ptn s<=700/\set.length=ptn s/\psG s g=zr G s.n.toNat:=by
 obtain⟨h1,h2⟩:=uQ h;obtain⟨hv,hg0,hg1⟩:=kV h1;obtain⟨_,K,N,hF⟩:=yv hf hv;obtain⟨f1,f2,_⟩:=XZ hf h1;obtain⟨G,rfl⟩:=Lr hg0;have hN:s.n.toNat=N:=by rw[hF.n];rfl
 have hn5:=hF.n5;refine⟨G,rfl,?_,by omega,f1,f2,h2,rfl⟩;rw[hN] at hg1;have:=Nb (n:=2) (show 0<2 by omega) hn5;have h2':((2^N:Nat):Int)=(2:Int)^N:=by push_cast;rfl
 omega
theorem vB(s:Sy)(hs:LowS s)(hf:yM s.p)(g:Int)(set:List Bool)(A SV AV AX AB:Bb)(kc ks kv kx kb:Nat)(hsl:set.length<=1000000)(w:Ba)(hS:SyAt w w.heap.size A SV AV AX s)(hB0:BAt w w.heap.size AB set) :
  Calls Tryz.prog 20 #[.agg (s.vs_ A kc SV ks AV kv AX kx),.int .i64 g,.slice AB set.length kb] w (QQ s g set w):=by
 obtain⟨w1,hw1,d0,hs1,hB⟩:=zm w (s.vs_ A kc SV ks AV kv AX kx) 35;have HO:=zH (uL s hs hf g set A SV AV AX AB kc ks kv kx kb hsl w1 (hS.up hB));have HBA:Hid (∀X,Below w1.heap.size w1 X->BAt X X.heap.size AB set):=fun X hX=>(((hB0.keep hB).more hB.size).keep hX).more hX.size
 have HC:Hid (zJ s g set=0->∃(G M:Nat),g=(G:Int)/\M<=ptn s/\zD (ptn s) (evG s g) set (M+1)=zD (ptn s) (evG s g) set M/\(∀m,m<M->zD (ptn s) (evG s g) set (m+1)≠zD (ptn s) (evG s g) set m)/\set.length=ptn s /\
   ∀(bw:Nat) (X:Ba),Below w1.heap.size w1 X->KwAt X X.heap.size bw (ptn s) s.n.toNat (zX s)->Calls Tryz.prog 49 #[.pointer (some ⟨bw,0,none⟩),.int .i64 (G:Int),.slice AB (ptn s) kb] X fun e w'=>∃g':Nat,e=.returned (.tuple #[.slice (some ⟨g',0,none⟩) (ptn s) (ptn s),.int .i64 (M:Int)])/\X.heap.size<=g'/\BRow w' g' (zD (ptn s) (evG s g) set M)/\Below X.heap.size X w'):=fun h=>by
  obtain⟨G,hg,hG,hN,hn1,hn7,hl,hps⟩:=xv hf h;obtain⟨M,m1,m2,m3⟩:=jr (F:=zD (ptn s) (evL (ptn s) (zX s) (psG s g)) set) yP kZ;refine⟨G,M,hg,m1,m2,m3,hl,fun bw X hX hK=>?_⟩;unfold evG;rw[hps] at m2 m3 ⊢;exact ZH bw (ptn s) s.n.toNat (zX s) hn1 (by omega) hN G hG AB kb set hl M m1 m2 m3 X hK (HBA.out X hX)
 unfold RetOp at HO;unfold QQ;obtain⟨E,hE⟩:=Ki (zJ s g set);rw[hE] at HO HC ⊢;obtain⟨n,hn⟩:=Ki (ptn s);rw[hn] at HO HC ⊢;unfold Sy.vs_ at hw1 d0 HO ⊢;have HW1:=zH hw1;have HB:=zH hB;obtain⟨p0,p1,p2,p3,p4,p5,p6,p7,p8,p9⟩:=zw (d0);clear hw1 d0 hB hS hB0 hs hf hE HBA hn;go_enter Tryz.func20,Tryz.ntmps20;go_wp2_with fail;rw[HW1.out];go_wp2_with fail;refine HO.out.mono ?_;rintro e w2 ⟨hb2,hcase⟩;have HB2:=zH hb2;clear p0 p1 p2 p3 p4 p5 p6 p7 p8 p9 hb2 HO HW1;rcases hcase with ⟨h0,rfl⟩ | ⟨rfl,bw,rfl,hK⟩
 . have e0:(E != 0)=true:=by simpa using h0
   clear HC;go_wp2_with fail
   go_ret3
   exact⟨Lc HB.out HB2.out,.inl ⟨h0,rfl⟩⟩
 obtain⟨G,M,rfl,m1,m2,m3,hl,hc⟩:=HC.out rfl;have HCC:=zH (hc bw w2 HB2.out hK);have HM:=zH (And.intro m1 (And.intro m2 m3));rw[hl];clear HC hc m1 m2 m3 hK hl;go_wp2_with fail;refine HCC.out.mono ?_;rintro e w3 ⟨g3,rfl,hg3,hr3,hb3⟩;have HR3:=zH hr3;have HB3:=zH (HB.out.trans ((Lc HB2.out hb3).mono HB.out.size));have hgw:w.heap.size<=g3:=by have:=HB.out.size;have:=HB2.out.size;omega
 clear hr3 hb3 HCC;go_wp2_with fail
 go_ret3
 exact⟨HB3.out,M,g3,rfl,HM.out.1,HM.out.2.1,HM.out.2.2,hgw,HR3.out⟩
end
section
open Go.RowKit
structure K2 where
 a:Int
 b:Int
deriving DecidableEq
theorem lab_zero{α:Type}[DecidableEq α](c:α):∀n,yt (List.replicate n c)=List.replicate n (0:Int)
 | 0=>rfl
 | n+1=>by
  have ih:=lab_zero c n;rw[List.replicate_succ',qY,ih,List.replicate_succ']
  congr 2
  by_cases hn:0<n
  . rw[Lh (by rw[List.mem_replicate];exact⟨by omega,rfl⟩)]
    have h:=j5 (List.replicate n c) 0 (by simpa using hn);simp only[ih,List.getElem_replicate] at h;exact h.symm
  . obtain rfl:n=0:=by omega
    rfl
theorem kz_same{G:Nat}{f g:Nat->Int}{p:Nat}(h:G.testBit p=true)(hp:p<5):kz G f (p+1)=kz G g (p+1)↔kz G f p=kz G g p/\f p=g p:=by
 have z:∀f:Nat->Int,kq G f p p=0:=fun f=>by unfold kq;rw[Lf (by omega)]
 have zf:=z f;have zg:=z g;unfold kz;simp only[kq_hit h,K5.mk.injEq];obtain rfl | rfl | rfl | rfl | rfl:p=0\/p=1\/p=2\/p=3\/p=4:=by omega
 all_goals
  simp[zf,zg]
  try omega
def tgK(s:Sy)(G p:Nat)(x:Nat×Nat):K5:=kz G (fun q=>xw (s.xs.getD x.1 default) x.2 q) p
def tgP(s:Sy)(G p:Nat):List Int:=yt ((zu (s.p.k.toNat+1) 0 s.xs.length).map (tgK s G p))
theorem vQ(s:Sy)(G p:Nat):(tgP s G p).length=ptn s:=by unfold tgP;rw[yj,LF,xU _ _ (by omega)];rfl
theorem tgP_zero(s:Sy)(G:Nat):tgP s G 0=List.replicate (ptn s) 0:=by
 have e:(zu (s.p.k.toNat+1) 0 s.xs.length).map (tgK s G 0)=List.replicate (ptn s) (⟨0,0,0,0,0⟩:K5):=by
  rw[List.eq_replicate_iff];refine⟨by rw[LF,xU _ _ (by omega)];rfl,fun b hb=>?_⟩;obtain⟨x,_,rfl⟩:=LY.1 hb;simp[tgK,kz,kq]
 unfold tgP;rw[e,lab_zero]
theorem tgP_not{s:Sy}{G p:Nat}(h:G.testBit p=false):tgP s G (p+1)=tgP s G p:=by
 unfold tgP
 congr 1
 exact Pj fun x _=>Jp h
theorem tgP_hit{s:Sy}{G p:Nat}(h:G.testBit p=true)(hp:p<5):yt (List.zipWith K2.mk (tgP s G p) (zX s p))=tgP s G (p+1):=by
 obtain⟨L,hL⟩:=Ki (zu (s.p.k.toNat+1) 0 s.xs.length);have hLl:L.length=ptn s:=by rw[<-hL,xU _ _ (by omega)];rfl
 have hz:(List.zipWith K2.mk (tgP s G p) (zX s p)).length=ptn s:=by rw[List.length_zipWith,vQ,xG,Nat.min_self]
 have e:tgP s G (p+1)=yt (L.map (tgK s G (p+1))):=by unfold tgP;rw[hL]
 rw[e];refine YZ (by rw[hz,LF,hLl]) fun i j h1 h2=>?_
 rw[hz] at h1 h2;rw[List.getElem_zipWith,List.getElem_zipWith,K2.mk.injEq,LC,LC]
 have a1:(tgP s G p)[i]'(by rw[vQ];exact h1)=(tgP s G p)[j]'(by rw[vQ];exact h2)↔tgK s G p (L[i]'(by omega))=tgK s G p (L[j]'(by omega)):=by
  have e2:tgP s G p=yt (L.map (tgK s G p)):=by unfold tgP;rw[hL]
  simp only[e2];rw[kQ _ (by rw[LF];omega) (by rw[LF];omega),LC,LC]
 have a2:(zX s p)[i]'(by rw[xG];exact h1)=(zX s p)[j]'(by rw[xG];exact h2)↔xw (s.xs.getD (L[i]'(by omega)).1 default) (L[i]'(by omega)).2 p=xw (s.xs.getD (L[j]'(by omega)).1 default) (L[j]'(by omega)).2 p:=by
  have e2:zX s p=yt (L.map fun x=>xw (s.xs.getD x.1 default) x.2 p):=by unfold zX qF;rw[hL]
  simp only[e2];rw[kQ _ (by rw[LF];omega) (by rw[LF];omega),LC,LC]
 rw[a1,a2];exact(kz_same h hp).symm
theorem JQ{s:Sy}{N:Nat}(hN:s.n=(N:Int))(G:Nat):xJ s (G:Int)=tgP s G N:=by
 unfold xJ tgP
 congr 1
 refine Pj fun x _=>?_
 unfold togK tgK;rw[hN,Lo,Lo]
end
section
open Go.RowKit
theorem kz_iff{G:Nat}{f g:Nat->Int}:∀n,n<=5->(kz G f n=kz G g n↔∀q,q<n->G.testBit q=true->f q=g q)
 | 0,_=>⟨fun _ q hq=>absurd hq (by omega),fun _=>by simp[kz,kq]⟩
 | n+1,hn=>by
  have ih:=kz_iff (G:=G) (f:=f) (g:=g) n (by omega)
  cases hb:G.testBit n with
  | false=>
   rw[Jp hb,Jp hb,ih];constructor
   . intro h q hq hqb
     by_cases e:q=n
     . subst e;rw[hb] at hqb;cases hqb
     . exact h q (by omega) hqb
   . exact fun h q hq=>h q (by omega)
  | true=>
   rw[kz_same hb (by omega),ih];constructor
   . rintro⟨h1,h2⟩ q hq hqb
     by_cases e:q=n
     . subst e;exact h2
     . exact h1 q (by omega) hqb
   . exact fun h=>⟨fun q hq=>h q (by omega),h n (by omega) hb⟩
section
variable {s:Sy} {K N:Nat}
theorem cls_same(q:Nat){i j:Nat}(hi:i<ptn s)(hj:j<ptn s):(zX s q).getD i 0=(zX s q).getD j 0↔(qF s q).getD i 0=(qF s q).getD j 0:=by
 have hl:(qF s q).length=ptn s:=vW s q;rw[zn (by rw[xG];exact hi),zn (by rw[xG];exact hj),zn (by omega),zn (by omega)];unfold zX;exact kQ _ (by omega) (by omega)
theorem tog_same(hF:Fine s K N)(G:Nat){i j:Nat}(hi:i<ptn s)(hj:j<ptn s):(xJ s (G:Int)).getD i 0=(xJ s (G:Int)).getD j 0↔∀q,q<N->G.testBit q=true->(zX s q).getD i 0=(zX s q).getD j 0:=by
 have hl:∀q,(qF s q).length=ptn s:=fun q=>vW s q
 rw[JQ hF.n];obtain⟨L,hL⟩:=Ki (zu (s.p.k.toNat+1) 0 s.xs.length);have hLl:L.length=ptn s:=by rw[<-hL,xU _ _ (by omega)];rfl
 have e:tgP s G N=yt (L.map (tgK s G N)):=by unfold tgP;rw[hL]
 rw[zn (by rw[vQ];exact hi),zn (by rw[vQ];exact hj)];simp only[e];rw[kQ _ (by rw[LF];omega) (by rw[LF];omega),LC,LC];refine(kz_iff N hF.n5).trans ?_
 have hk:∀q {t:Nat} (ht:t<ptn s),(qF s q).getD t 0=xw (s.xs.getD (L[t]'(by omega)).1 default) (L[t]'(by omega)).2 q:=fun q t ht=>by
  rw[zn (by rw[hl];exact ht)];have e2:qF s q=L.map fun x=>xw (s.xs.getD x.1 default) x.2 q:=by unfold qF;rw[hL]
  simp only[e2,List.getElem_map]
 constructor
 . intro h q hq hb
   rw[cls_same q hi hj,hk q hi,hk q hj];exact h q hq hb
 . intro h q hq hb
   have:=h q hq hb;rw[cls_same q hi hj,hk q hi,hk q hj] at this;exact this
end
end
section
open Go.RowKit
def jH(n:Nat)(a:List Bool):List Bool:=(List.range n).map fun i=>!(a.getD i false)
theorem qc(n:Nat)(a:List Bool):(jH n a).length=n:=by simp[jH]
theorem wH{n:Nat}{a:List Bool}{i:Nat}(h:i<n):(jH n a).getD i false=!(a.getD i false):=by
 rw[zn (by rw[qc];exact h)];simp[jH]
theorem qd{n:Nat}{ls:List Int}{set:List Bool}{i:Nat}(h:i<n):(yn n ls set).getD i false=true↔∀j,j<n->ls.getD j 0=ls.getD i 0->set.getD j false=true:=by
 rw[zn (by rw[zT];exact h),Yc h,Ng]
theorem Yb{n:Nat}{ls:List Int}{set:List Bool}{i:Nat}(h:i<n)(e:(yn n ls set).getD i false=true):set.getD i false=true:=(qd h).1 e i h rfl
theorem ins_twice(n:Nat)(ls:List Int)(set:List Bool):yn n ls (yn n ls set)=yn n ls set:=by
 refine qE (zT ..) (zT ..) fun i hi=>⟨fun h=>Yb hi h,fun h=>?_⟩
 rw[qd hi] at h ⊢;intro j hj e;rw[qd hj];intro k hk e2;exact h k hk (e2.trans e)
theorem ins_not(n:Nat)(ls:List Int)(set:List Bool):yn n ls (jH n (yn n ls set))=jH n (yn n ls set):=by
 refine qE (zT ..) (qc ..) fun i hi=>⟨fun h=>Yb hi h,fun h=>?_⟩
 rw[qd hi];intro j hj e;rw[wH hj];rw[wH hi] at h
 cases hb:(yn n ls set).getD j false with
 | false=>rfl
 | true=>
  have:(yn n ls set).getD i false=true:=by
   rw[qd hj] at hb;rw[qd hi];intro k hk e2;exact hb k hk (e2.trans e.symm)
  rw[this] at h;cases h
theorem ins_and(n:Nat)(ls:List Int)(a b:List Bool):yn n ls (xC n a b)=xC n (yn n ls a) (yn n ls b):=by
 refine qE (zT ..) (yi ..) fun i hi=>?_
 rw[qd hi,yl hi,Lx,qd hi,qd hi];constructor
 . intro h
   refine⟨fun j hj e=>?_,fun j hj e=>?_⟩
   . have:=h j hj e;rw[yl hj,Lx] at this;exact this.1
   . have:=h j hj e;rw[yl hj,Lx] at this;exact this.2
 . rintro⟨h1,h2⟩ j hj e
   rw[yl hj,Lx];exact⟨h1 j hj e,h2 j hj e⟩
section
variable {n:Nat} {cls:Nat->List Int} {ps:List Nat}
theorem ev_and(a b:List Bool):evL n cls ps (xC n a b)=xC n (evL n cls ps a) (evL n cls ps b):=by
 refine qE (yH ..) (yi ..) fun i hi=>?_
 rw[qM hi,yl hi,Lx,qM hi,qM hi];constructor
 . intro h
   refine⟨fun p hp j hj e=>?_,fun p hp j hj e=>?_⟩
   . have:=h p hp j hj e;rw[yl hj,Lx] at this;exact this.1
   . have:=h p hp j hj e;rw[yl hj,Lx] at this;exact this.2
 . rintro⟨h1,h2⟩ p hp j hj e
   rw[yl hj,Lx];exact⟨h1 p hp j hj e,h2 p hp j hj e⟩
theorem ev_sub(hps:ps≠[]){x:List Bool}{i:Nat}(hi:i<n)(h:(evL n cls ps x).getD i false=true):x.getD i false=true:=by
 obtain⟨p,l,rfl⟩:∃p l,ps=p::l:=by
  cases ps with
  | nil=>exact absurd rfl hps
  | cons p l=>exact⟨p,l,rfl⟩
 exact(qM hi _).1 h p (by simp) i hi rfl
theorem now_fix{set:List Bool}{M:Nat}(hM:zD n (evL n cls ps) set (M+1)=zD n (evL n cls ps) set M):evL n cls ps (xC n set (zD n (evL n cls ps) set M))=zD n (evL n cls ps) set M:=hM
theorem now_in(hps:ps≠[]){set:List Bool}{M:Nat}(hM:zD n (evL n cls ps) set (M+1)=zD n (evL n cls ps) set M){i:Nat}(hi:i<n)(h:(zD n (evL n cls ps) set M).getD i false=true):set.getD i false=true:=by
 rw[<-hM] at h;have:=ev_sub hps hi h;rw[yl hi,Lx] at this;exact this.1
theorem now_ev{set:List Bool}{M:Nat}(hM:zD n (evL n cls ps) set (M+1)=zD n (evL n cls ps) set M):evL n cls ps (zD n (evL n cls ps) set M)=zD n (evL n cls ps) set M:=by
 by_cases hps:ps=[]
 . subst hps
   have:zD n (evL n cls []) set M=List.replicate n true:=by rw[<-hM];rfl
   rw[this];rfl
 have e:xC n set (zD n (evL n cls ps) set M)=zD n (evL n cls ps) set M:=by
  refine qE (yi ..) (yP _) fun i hi=>?_
  rw[yl hi,Lx];exact⟨fun h=>h.2,fun h=>⟨now_in hps hM hi h,h⟩⟩
 have:=now_fix hM;rwa[e] at this
theorem now_same{c:List Bool}(hl:c.length=n)(hc:evL n cls ps c=c):∀m,zD n (evL n cls ps) c (m+1)=c
 | 0=>by
  rw[zD]
  have:xC n c (zD n (evL n cls ps) c 0)=c:=by
   refine qE (yi ..) hl fun i hi=>?_
   rw[yl hi,Lx,zD];exact⟨fun h=>h.1,fun h=>⟨h,by simp[List.getD_eq_getElem?_getD,hi]⟩⟩
  rw[this];exact hc
 | m+1=>by
  rw[zD,now_same hl hc m];have:xC n c c=c:=qE (yi ..) hl fun i hi=>by rw[yl hi,Bool.and_self]
  rw[this];exact hc
theorem now_twice{c:List Bool}(hl:c.length=n)(hc:evL n cls ps c=c){M:Nat}(hM:zD n (evL n cls ps) c (M+1)=zD n (evL n cls ps) c M):zD n (evL n cls ps) c M=c:=by rw[<-hM];exact now_same hl hc M
theorem now_whole(hps:ps≠[]){set:List Bool}{M:Nat}(hM:zD n (evL n cls ps) set (M+1)=zD n (evL n cls ps) set M){i:Nat}(hi:i<n) :
  (zD n (evL n cls ps) set M).getD i false=true↔∀k,k<n->Conn n (xO ps cls) i k->set.getD k false=true:=by
 constructor
 . intro h k hk hc
   have:(zD n (evL n cls ps) set M).getD k false=true:=by
    clear hk
    induction hc with
    | refl=>exact h
    | step _ hj hk hadj ih=>
     obtain⟨p,hp,e⟩:=hadj;rw[<-now_ev hM] at ih;exact(qM hj ps).1 ih p hp _ hk e.symm
   exact now_in hps hM hk this
 . intro h
   have key:∀m i,i<n->(∀k,k<n->Conn n (xO ps cls) i k->set.getD k false=true)->(zD n (evL n cls ps) set m).getD i false=true:=by
    intro m
    induction m with
    | zero=>intro i hi _;simp[zD,List.getD_eq_getElem?_getD,hi]
    | succ m ih=>
     intro i hi hw;rw[zD,qM hi];intro p hp j hj e;have hij:Conn n (xO ps cls) i j:=.one hi hj ⟨p,hp,e.symm⟩;rw[yl hj,Lx];exact⟨hw j hj hij,ih j hj fun k hk hc=>hw k hk (hij.trans hc)⟩
   exact key M i hi h
theorem vz{set:List Bool}(hs:set.length=n){i:Nat}:∀ {m m':Nat},m<=m'->(zS n (evL n cls ps) set m').getD i false=true->(zS n (evL n cls ps) set m).getD i false=true:=by
 intro m m' h
 induction m' with
 | zero => intro e; have : m = 0 := by omega
           subst this;exact e
 | succ k ih=>
  intro e
  by_cases hk:m=k+1
  . subst hk;exact e
  . exact ih (by omega) (jb hs k i e)
theorem gV{set:List Bool}{M:Nat}(hM:zS n (evL n cls ps) set (M+1)=zS n (evL n cls ps) set M):∀m,zS n (evL n cls ps) set (M+m)=zS n (evL n cls ps) set M
 | 0=>rfl
 | m+1=>by
  show zS n (evL n cls ps) set (M+m+1)=_;rw[zS,gV hM m];exact hM
theorem lev_up{set:List Bool}{M m:Nat}(hM:zS n (evL n cls ps) set (M+1)=zS n (evL n cls ps) set M)(h:M<=m):zS n (evL n cls ps) set m=zS n (evL n cls ps) set M:=by
 have:=gV hM (m-M);rwa[show M+(m-M)=m by omega] at this
theorem out_ge{set:List Bool}(hs:set.length=n){i:Nat}(hi:i<n):∀(M m:Nat),(m:Int)<=(yw n (evL n cls ps) set M).getD i 0↔m<M/\(zS n (evL n cls ps) set m).getD i false=true
 | 0,m=>by
  rw[yw,Lj,NG,Lh hi];simp only[Option.getD_some];exact⟨fun h=>by omega,fun h=>by omega⟩
 | M+1,m=>by
  have ih:=out_ge hs hi M m;rw[yw,zn (by simpa using hi),LC,L9]
  cases hl:(zS n (evL n cls ps) set M).getD i false with
  | true=>
   rw[Lh rfl];constructor
   . intro h;exact⟨by omega,vz hs (by omega) hl⟩
   . intro h;omega
  | false=>
   rw[Lf (by simp),ih];constructor
   . rintro⟨h1,h2⟩;exact⟨by omega,h2⟩
   . rintro⟨h1,h2⟩
     refine⟨?_,h2⟩
     by_cases e:m=M
     . subst e;rw[hl] at h2;cases h2
     . omega
theorem Jf{set:List Bool}{i:Nat}(hi:i<n):∀(M:Nat),-1<=(yw n (evL n cls ps) set M).getD i 0/\(yw n (evL n cls ps) set M).getD i 0<=(M:Int)-1
 | 0=>by
  rw[yw,Lj,NG,Lh hi];simp only[Option.getD_some];omega
 | M+1=>by
  have ih:=Jf (set:=set) hi M;rw[yw,zn (by simpa using hi),LC,L9]
  split<;>omega
theorem lev_stop{set:List Bool}(hs:set.length=n){M:Nat}(_hM:zS n (evL n cls ps) set (M+1)=zS n (evL n cls ps) set M)(hlt:∀m,m<M->zS n (evL n cls ps) set (m+1)≠zS n (evL n cls ps) set m):M<=n:=by
 obtain⟨M',h1,h2,h3⟩:=jr (n:=n) (F:=zS n (evL n cls ps) set) (kA hs) (jb hs)
 by_cases h:M<=M'
 . omega
 . exact absurd h2 (hlt M' (by omega))
theorem out_facts{set:List Bool}(hs:set.length=n){M:Nat}(hM:zS n (evL n cls ps) set (M+1)=zS n (evL n cls ps) set M)(hMn:M<=n){i:Nat}(hi:i<n) :
  -1<=(xV n (evL n cls ps) set M).getD i 0/\(xV n (evL n cls ps) set M).getD i 0<=(n:Int)/\(∀m:Nat,(m:Int)<=(xV n (evL n cls ps) set M).getD i 0\/(xV n (evL n cls ps) set M).getD i 0=(n:Int)↔(zS n (evL n cls ps) set m).getD i false=true) /\
   ((xV n (evL n cls ps) set M).getD i 0=(n:Int)↔(zS n (evL n cls ps) set M).getD i false=true):=by
 have e:(xV n (evL n cls ps) set M).getD i 0=if (zS n (evL n cls ps) set M).getD i false then (n:Int) else (yw n (evL n cls ps) set M).getD i 0:=by
  unfold xV;rw[zn (by simpa using hi),LC,L9]
 obtain⟨b1,b2⟩:=Jf (cls:=cls) (ps:=ps) (set:=set) hi M;rw[e]
 cases hl:(zS n (evL n cls ps) set M).getD i false with
 | true=>
  rw[Lh rfl];refine⟨by omega,by omega,fun m=>⟨fun _=>?_,fun _=>.inr rfl⟩,by simp⟩
  by_cases h:m<=M
  . exact vz hs h hl
  . rw[lev_up hM (by omega)];exact hl
 | false=>
  rw[Lf (by simp)];refine⟨by omega,by omega,fun m=>?_,⟨fun h=>by omega,fun h=>by cases h⟩⟩;rw[out_ge hs hi M m];constructor
  . rintro(h | h)
    . exact h.2
    . omega
  . intro h
    refine .inl ⟨?_,h⟩
    by_cases hm:m<M
    . exact hm
    . rw[lev_up hM (by omega),hl] at h;cases h
theorem lev_now{set:List Bool}(hs:set.length=n){M M':Nat}(hM:zS n (evL n cls ps) set (M+1)=zS n (evL n cls ps) set M)(hM':zD n (evL n cls ps) set (M'+1)=zD n (evL n cls ps) set M'){i:Nat}(hi:i<n) :
  (zS n (evL n cls ps) set M).getD i false=true↔set.getD i false=true/\(zD n (evL n cls ps) set M').getD i false=true:=by
 constructor
 . intro h
   refine⟨vz hs (Nj M) h,?_⟩
   have key:∀m i,i<n->(zS n (evL n cls ps) set M).getD i false=true->(zD n (evL n cls ps) set m).getD i false=true:=by
    intro m
    induction m with
    | zero=>intro i hi _;simp[zD,List.getD_eq_getElem?_getD,hi]
    | succ m ih=>
     intro i hi h;rw[<-hM,zS,yl hi,Lx] at h;rw[zD];refine Xf (a:=zS n (evL n cls ps) set M) (fun j hj hl=>?_) hi h.2;rw[yl hj,Lx];exact⟨vz hs (Nj M) hl,ih j hj hl⟩
   exact key M' i hi h
 . rintro⟨h1,h2⟩
   have key:∀m i,i<n->set.getD i false=true->(zD n (evL n cls ps) set M').getD i false=true->(zS n (evL n cls ps) set m).getD i false=true:=by
    intro m
    induction m with
    | zero=>intro i hi h1 _;exact h1
    | succ m ih=>
     intro i hi h1 h2;rw[zS,yl hi,Lx];refine⟨ih i hi h1 h2,?_⟩;rw[<-hM'] at h2;rw[zD] at h2;refine Xf (a:=xC n set (zD n (evL n cls ps) set M')) (fun j hj hl=>?_) hi h2;rw[yl hj,Lx] at hl;exact ih j hj hl.1 hl.2
   exact key M i hi h1 h2
end
section
variable {s:Sy} {K N:Nat}
theorem ins_tog(hF:Fine s K N){G q:Nat}(hq:q<N)(hb:G.testBit q=true)(x:List Bool){i:Nat}(hi:i<ptn s)(h:(yn (ptn s) (zX s q) x).getD i false=true):(yn (ptn s) (xJ s (G:Int)) x).getD i false=true:=by
 rw[qd hi] at h ⊢;exact fun j hj e=>h j hj ((tog_same hF G hj hi).1 e q hq hb)
end
end
section
open Go.RowKit Go.Shelf
attribute [local go_sem] Oper.semAt_some
def jl(R:List Bool×Int)(w:Ba)(e:Ending)(w':Ba):Prop:=∃A c,e=.returned (.tuple #[.slice A R.1.length c,.int .i64 R.2])/\BAt w' w'.heap.size A R.1/\Below w.heap.size w w'
def vf(s:Sy)(g:Int)(set:List Bool):List Bool×Int:=if zJ s g set≠0 then ([],zJ s g set) else (evG s g set,0)
def gc(s:Sy)(g:Int)(set:List Bool):List Bool×Int:=if zJ s g set≠0 then ([],zJ s g set) else (yn (ptn s) (xJ s g) set,0)
def ui(s:Sy)(q:Int)(set:List Bool):List Bool×Int:=if zZ s≠0 then ([],zZ s) else if q<0\/s.n<=q then ([],2) else if set.length≠ptn s then ([],15) else (yn (ptn s) (zX s q.toNat) set,0)
theorem wz{w:Ba}{base:Nat}{A:Bb}{n c:Nat}{xs:List Int}(h:Own w base (.slice A n c) xs):IAt w w.heap.size A xs:=own_on h (fun _ _ _=>rfl)
theorem map_cell{w:Ba}{mb m o:Nat}{F:Int->Option Value}(h:MapOf (Value.int .i64) w mb m F)(v:Value):w.cell? ⟨mb,o,none⟩≠some v:=by
 obtain⟨es,clock,hb,_⟩:=h;intro e;unfold World.cell? at e;rw[hb] at e;simp at e
section
variable {w w':Ba} {mb m:Nat} {F:Int->Option Value}
theorem vo(h:MapOf (Value.int .i64) w mb m F)(hg:w.grownBy w' (some mb)){b o:Nat}{v:Value}(hc:w.cell? ⟨b,o,none⟩=some v):w'.cell? ⟨b,o,none⟩=some v:=by
 have hne:b≠mb:=fun e=>map_cell h v (by rw[<-e];exact hc)
 have hlt:=RM w _ hc;exact(LE (a:=⟨b,o,none⟩) (hg.block b hlt (fun e=>hne (by cases e;rfl)))).trans hc
theorem IAt.put{B:Nat}{A:Bb}{xs:List Int}(hx:IAt w B A xs)(h:MapOf (Value.int .i64) w mb m F)(hg:w.grownBy w' (some mb)):IAt w' B A xs:=fun h0=>by
 obtain⟨b,off,e,hlt,hc⟩:=hx h0;exact⟨b,off,e,hlt,fun i hi=>vo h hg (hc i hi)⟩
theorem BAt.put{B:Nat}{A:Bb}{xs:List Bool}(hx:BAt w B A xs)(h:MapOf (Value.int .i64) w mb m F)(hg:w.grownBy w' (some mb)):BAt w' B A xs:=fun h0=>by
 obtain⟨b,off,e,hlt,hc⟩:=hx h0;exact⟨b,off,e,hlt,fun i hi=>vo h hg (hc i hi)⟩
theorem KwAt.put{B bw n N:Nat}{cls:Nat->List Int}(hk:KwAt w B bw n N cls)(h:MapOf (Value.int .i64) w mb m F)(hg:w.grownBy w' (some mb)):KwAt w' B bw n N cls:=by
 obtain⟨b,off,cC,h1,h2,h3⟩:=hk.rows;refine⟨hk.lt,vo h hg hk.size,⟨b,off,cC,vo h hg h1,h2,fun q hq=>?_⟩,hk.len⟩;obtain⟨A,c,h4,h5⟩:=h3 q hq;exact⟨A,c,vo h hg h4,h5.put h hg⟩
end
structure KwD(s:Sy)(A SV AV AX:Bb)(kc ks kv kx B:Nat)(w:Ba)(bw mb m:Nat)(F:Int->Option Value):Prop where
 kw:KwAt w w.heap.size bw (ptn s) s.n.toNat (zX s)
 blk:∃AQ cQ,w.heap[bw]?=some (.cells #[.int .i64 s.p.t.n,.int .i64 s.p.t.ins,.int .i64 s.p.t.outs,.slice A s.p.t.cases.length kc,.int .i64 s.p.a.n,.slice SV s.p.a.sts.length ks,.int .i64 s.p.k,.int .i64 s.n,.slice AV s.vs.length kv,.slice AX s.xs.length kx,.int .i64 (ptn s:Int),.slice AQ s.n.toNat cQ,.map (some mb)] 88 (0,0))
 map:MapOf (Value.int .i64) w mb m F
 vals:∀g v,F g=some v->∃A c,v=.slice A (ptn s) c/\IAt w w.heap.size A (xJ s g)
 sys:SyAt w B A SV AV AX s
 lowB:B<=w.heap.size
 low:B<=mb
section
variable {s:Sy} {A SV AV AX:Bb} {kc ks kv kx B:Nat} {w w':Ba} {bw mb m:Nat} {F:Int->Option Value}
theorem KwD.call(h:KwD s A SV AV AX kc ks kv kx B w bw mb m F)(hb:Below w.heap.size w w'):KwD s A SV AV AX kc ks kv kx B w' bw mb m F:=by
 obtain⟨AQ,cQ,h1⟩:=h.blk;refine⟨(h.kw.keep hb).more hb.size,⟨AQ,cQ,La hb h1⟩,h.map.same (hb.block _ h.map.lt),fun g v hv=>?_,h.sys.keep (hb.mono h.lowB),LB h.lowB hb.size,h.low⟩;obtain⟨A',c',e,hI⟩:=h.vals g v hv;exact⟨A',c',e,(hI.keep hb).more hb.size⟩
theorem KwD.put(h:KwD s A SV AV AX kc ks kv kx B w bw mb m F)(hg:w.grownBy w' (some mb)){g:Int}{A':Bb}{c':Nat}(hI:IAt w w.heap.size A' (xJ s g))(hm:MapOf (Value.int .i64) w' mb (m+1) (xq F g (.slice A' (ptn s) c'))) :
  KwD s A SV AV AX kc ks kv kx B w' bw mb (m+1) (xq F g (.slice A' (ptn s) c')):=by
 obtain⟨AQ,cQ,h1⟩:=h.blk;have hs:w.heap.size<=w'.heap.size:=hg.size
 have hne:bw≠mb:=fun e=>by
  obtain⟨es,clock,hb,_⟩:=h.map;rw[<-e,h1] at hb;cases hb
 have hB:Below B w w':=(Lm B w).grown hg h.lowB (fun k e=>by cases e;exact h.low);refine⟨(h.kw.put h.map hg).more hs,⟨AQ,cQ,(hg.block _ (zj h1) (fun e=>hne (by cases e;rfl))).trans h1⟩,hm,fun g' v hv=>?_,h.sys.keep hB,LB h.lowB hs,h.low⟩;unfold xq at hv
 by_cases e:g'=g
 . subst e
   rw[Lh rfl] at hv
   cases hv
   exact⟨A',c',rfl,(hI.put h.map hg).more hs⟩
 . rw[Lf e] at hv
   obtain⟨A2,c2,e2,hI2⟩:=h.vals g' v hv;exact⟨A2,c2,e2,(hI2.put h.map hg).more hs⟩
end
theorem Qg(s:Sy)(hs:LowS s)(hf:yM s.p)(A SV AV AX:Bb)(kc ks kv kx B:Nat)(g:Int)(hg0:zQ s g=0)(hp:ptn s<=100000)(AB:Bb)(kb:Nat)(set:List Bool)(hsl:set.length=ptn s)(bw mb m:Nat)(F:Int->Option Value)(w:Ba)(hK:KwD s A SV AV AX kc ks kv kx B w bw mb m F)(hB0:BAt w w.heap.size AB set) :
  Calls Tryz.prog 46 #[.pointer (some ⟨bw,0,none⟩),.int .i64 g,.slice AB (ptn s) kb] w fun e w'=>∃g' m' F',e=.returned (.slice (some ⟨g',0,none⟩) (ptn s) (ptn s))/\w.heap.size<=g'/\BRow w' g' (yn (ptn s) (xJ s g) set)/\KwD s A SV AV AX kc ks kv kx B w' bw mb m' F'/\Wrote (fun z=>z=mb) w w':=by
 obtain⟨AQ,cQ,h1⟩:=hK.blk;have hT:togE s g=(xJ s g,0):=Lf (by simpa using hg0);have hTL:(xJ s g).length=ptn s:=Yo s g;have HC:=zH (fun (X:Ba) (hX:SyAt X X.heap.size A SV AV AX s)=>QU s hs hf g A SV AV AX kc ks kv kx X hX);rw[hT] at HC;unfold RetOE at HC;simp only[hTL] at HC;have HIN:=zH (fun (A:Bb) (c:Nat) (X:Ba) (hI:IAt X X.heap.size A (xJ s g)) (hB:BAt X X.heap.size AB set)=>ZG A AB c kb (ptn s) hp (xJ s g) set hTL hsl X hI hB);unfold RetB at HIN;simp only[zT] at HIN;have HK:=zH hK;have HB0:=zH hB0;have hz:∀W:Ba,(zeroValue 50).run Tryz.prog W=.ok (.slice none 0 0) W:=fun W=>by kernel_rfl
 have ht:Tryz.prog.underlying 86=some (.map 3 50):=Tryz.underlying86;have hlk:=hK.map.look2 yp ht (hz w) g;have HZ:=zH hz;have HT:=zH ht;have z12:w.cell? ⟨bw,12,none⟩=some (.map (some mb)):=zh h1 12 rfl;have lbw:=zj h1;clear hT hTL hK hB0 hz ht hs hf hg0 hp hsl;unfold Sy.vs_ at HC;obtain⟨n,hn⟩:=Ki (ptn s);have HNN:=zH hn;rw[hn] at h1 HC HIN ⊢;have H1:=zH h1;clear h1 hn;go_enter Tryz.func46,Tryz.ntmps46
 cases hFg:F g with
 | some v=>
  obtain⟨A4,c4,rfl,hI4⟩:=HK.out.vals g v hFg;rw[HNN.out] at hFg;rw[hFg] at hlk;simp only[Option.getD_some,Option.isSome_some] at hlk;have hlk2:=HK.out.map.look yp HT.out (HZ.out w) g;rw[hFg] at hlk2;simp only[Option.getD_some] at hlk2;have HC2:=zH (HIN.out A4 c4 w hI4 HB0.out);clear HC HIN hI4 hFg;go_wp2_with fail;refine HC2.out.mono ?_;rintro e w2 ⟨g2,rfl,hg2,hr2,hb2⟩;have HR2:=zH hr2;have HB2:=zH hb2;clear hr2 hb2 HC2;go_wp2_with fail;go_ret;exact⟨g2,m,F,rfl,hg2,HR2.out,HK.out.call HB2.out,Wrote.of_below HB2.out⟩
 | none=>
  rw[hFg] at hlk;simp only[Option.getD_none,Option.isSome_none] at hlk;have hKP:∀X,Below w.heap.size w X->X.heap[bw]?=some (.cells #[.int .i64 s.p.t.n,.int .i64 s.p.t.ins,.int .i64 s.p.t.outs,.slice A s.p.t.cases.length kc,.int .i64 s.p.a.n,.slice SV s.p.a.sts.length ks,.int .i64 s.p.k,.int .i64 s.n,.slice AV s.vs.length kv,.slice AX s.xs.length kx,.int .i64 (n:Int),.slice AQ s.n.toNat cQ,.map (some mb)] 88 (0,0)):=fun X hX=>Lb hX lbw H1.out
  have HKP:=zH hKP;clear hFg;go_upto_region 3 with fail
  refine zx [(0,true),(1,true),(2,true),(3,true),(4,true),(5,true),(6,true),(7,true),(8,true),(9,true),(10,false),(11,true),(12,true),(13,true),(14,false)] (fun X=>X.heap[bw]?=some (.cells #[.int .i64 s.p.t.n,.int .i64 s.p.t.ins,.int .i64 s.p.t.outs,.slice A s.p.t.cases.length kc,.int .i64 s.p.a.n,.slice SV s.p.a.sts.length ks,.int .i64 s.p.k,.int .i64 s.n,.slice AV s.vs.length kv,.slice AX s.xs.length kx,.int .i64 (n:Int),.slice AQ s.n.toNat cQ,.map (some mb)] 88 (0,0))) (by kernel_rfl) (by kernel_rfl) (HKP.out _ (Lm _ w).drew) ?_
  repeat
   apply zy rfl
   . rintro K' hK' X u
     have q0:=zh (u) 0 rfl;have q1:=zh (u) 1 rfl;have q2:=zh (u) 2 rfl;have q3:=zh (u) 3 rfl;have q4:=zh (u) 4 rfl;have q5:=zh (u) 5 rfl;have q6:=zh (u) 6 rfl;have q7:=zh (u) 7 rfl;have q8:=zh (u) 8 rfl;have q9:=zh (u) 9 rfl;have q10:=zh (u) 10 rfl;have q11:=zh (u) 11 rfl;have q12:=zh (u) 12 rfl;clear u;go_simp;exact hK'
  refine zA rfl ?_;intro K' hK';go_simp;refine(HC.out w.drew ((HK.out.sys.keep ((Lm _ w).drew.mono HK.out.lowB)).more HK.out.lowB)).mono ?_;rintro e w5 ⟨A5,c5,rfl,ho5,hb5⟩;have G5:Hid (Below w.heap.size w w5):=(Lm _ w).drew.trans hb5;have K5:=zH (HK.out.call G5.out);have HO5:=zH (wz ho5);obtain⟨W6,hrun,hm6,hg6⟩:=K5.out.map.put yp HT.out g (.slice A5 n c5);have HM6:=zH hm6;have HG6:=zH hg6;have hlt5:=zj (HKP.out w5 G5.out)
  have hne:bw≠mb:=fun e=>by
   obtain⟨es,clock,hb,_⟩:=K5.out.map;rw[<-e,HKP.out w5 G5.out] at hb;cases hb
  have HK6:Hid (W6.heap[bw]?=some (.cells #[.int .i64 s.p.t.n,.int .i64 s.p.t.ins,.int .i64 s.p.t.outs,.slice A s.p.t.cases.length kc,.int .i64 s.p.a.n,.slice SV s.p.a.sts.length ks,.int .i64 s.p.k,.int .i64 s.n,.slice AV s.vs.length kv,.slice AX s.xs.length kx,.int .i64 (n:Int),.slice AQ s.n.toNat cQ,.map (some mb)] 88 (0,0))):=(hg6.block _ hlt5 (fun e=>hne (by cases e;rfl))).trans (HKP.out w5 G5.out);refine hK' _ _ (HKP.out w5 G5.out) ?_;clear hK' K' hb5 ho5 HC hm6 hg6 hlt5 hne
  repeat
   apply zy rfl
   . rintro K' hK' X u
     clear u;go_simp;exact hK'
  refine zA rfl ?_;intro K' hK';go_simp;refine hK' _ _ HK6.out ?_;clear hK' K';refine zL ?_;have hK7:KwD s A SV AV AX kc ks kv kx B W6 bw mb (m+1) (xq F g (.slice A5 (ptn s) c5)):=K5.out.put HG6.out HO5.out (by rw[HNN.out];exact HM6.out);have HK7:=zH hK7;have hlk2:=hK7.map.look yp HT.out (HZ.out W6) g;rw[show xq F g (.slice A5 (ptn s) c5) g=some (.slice A5 (ptn s) c5) from Lh rfl,HNN.out] at hlk2;simp only[Option.getD_some] at hlk2;have z12:W6.cell? ⟨bw,12,none⟩=some (.map (some mb)):=zh HK6.out 12 rfl;have HB6:Hid (BAt W6 W6.heap.size AB set):=(((HB0.out.keep G5.out).more G5.out.size).put K5.out.map HG6.out).more HG6.out.size;have HC2:=zH (HIN.out A5 c5 W6 ((HO5.out.put K5.out.map HG6.out).more HG6.out.size) HB6.out);have hw6:Hid (Wrote (fun z=>z=mb) w W6):=(Wrote.of_below G5.out).trans (Wrote.of_grown HG6.out (fun z e _=>by cases e;rfl)) (fun _ _ h=>h);have hs6:w.heap.size<=W6.heap.size:=LB G5.out.size HG6.out.size;clear hK7 HIN HB6 hrun HK6 HG6 HM6 K5 HO5;go_wp2_with fail;refine HC2.out.mono ?_;rintro e w8 ⟨g8,rfl,hg8,hr8,hb8⟩;have HR8:=zH hr8;have HB8:=zH hb8;have hg9:w.heap.size<=g8:=by omega
  clear hr8 hb8 HC2 hlk2 z12;go_wp2_with fail;go_ret;exact⟨g8,m+1,_,rfl,hg9,HR8.out,HK7.out.call HB8.out,hw6.out.trans (Wrote.of_below HB8.out) (fun _ _ h=>h)⟩
end
section
open Go.RowKit
def upd(l:Nat->Bool)(i:Nat):Nat->Bool:=fun j=>j==i||l j
theorem qp(l:Nat->Bool)(i:Nat):upd l i i=true:=by simp[upd]
theorem zz{l:Nat->Bool}{i j:Nat}(h:j≠i):upd l i j=l j:=by simp[upd,h]
def yN(ops:Array Oper)(j:Nat):Option Tmp:=(ops[j]?).bind (·.dst)
def yK(ops:Array Oper)(l:Nat->Bool)(val:Nat->Value)(L:List Nat)(a:Act):Act:=L.foldl (fun a j=>if l j then a.put (yN ops j) (val j) else a) a
theorem Act.put_put_comm(a:Act){x y:Option Tmp}(v u:Value)(h:∀d,x=some d->y≠some d):(a.put x v).put y u=(a.put y u).put x v:=Act.put_comm a v u h
theorem uS{ops:Array Oper}{l:Nat->Bool}{val:Nat->Value}{x:Option Tmp}(v:Value) :
  ∀(L:List Nat) (a:Act),(∀j∈L,∀d,x=some d->yN ops j≠some d)->yK ops l val L (a.put x v)=(yK ops l val L a).put x v
 | [],_,_=>rfl
 | j::L,a,h=>by
  have hj:∀d,x=some d->yN ops j≠some d:=h j (by simp);have hL:∀k∈L,∀d,x=some d->yN ops k≠some d:=fun k hk=>h k (by simp[hk])
  show yK ops l val L (if l j then (a.put x v).put (yN ops j) (val j) else a.put x v)=(yK ops l val L (if l j then a.put (yN ops j) (val j) else a)).put x v
  by_cases hl:l j=true
  . rw[Lh hl,Lh hl,Act.put_put_comm a v (val j) hj]
    exact uS v L _ hL
  . rw[Lf hl,Lf hl]
    exact uS v L _ hL
theorem kM{ops:Array Oper}{l l':Nat->Bool}{val val':Nat->Value} :
  ∀(L:List Nat) (a:Act),(∀j∈L,l' j=l j/\(l j=true->val' j=val j))->yK ops l' val' L a=yK ops l val L a
 | [],_,_=>rfl
 | j::L,a,h=>by
  have hj:=h j (by simp);show yK ops l' val' L (if l' j then a.put (yN ops j) (val' j) else a)=yK ops l val L (if l j then a.put (yN ops j) (val j) else a);rw[hj.1]
  by_cases hl:l j=true
  . rw[Lh hl,Lh hl,hj.2 hl]
    exact kM L _ (fun k hk=>h k (by simp[hk]))
  . rw[Lf hl,Lf hl]
    exact kM L _ (fun k hk=>h k (by simp[hk]))
theorem vL{ops:Array Oper}{l:Nat->Bool}{val val':Nat->Value}{i:Nat} :
  ∀(L:List Nat) (a:Act),L.Nodup->i∈L->l i=false->(∀j∈L,j≠i->∀d,yN ops i=some d->yN ops j≠some d)->(∀j,l j=true->val' j=val j) ->
   yK ops (upd l i) val' L a=(yK ops l val L a).put (yN ops i) (val' i)
 | [],_,_,h,_,_,_=>by cases h
 | j::L,a,hn,hi,hli,hd,hv=>by
  obtain⟨hj,hn'⟩:=PQ.1 hn
  by_cases e:j=i
  . subst e
    show yK ops (upd l j) val' L (if upd l j j then a.put (yN ops j) (val' j) else a)=(yK ops l val L (if l j then a.put (yN ops j) (val j) else a)).put (yN ops j) (val' j);rw[qp,Lh rfl,hli];rw[kM (l:=l) (l':=upd l j) (val:=val) (val':=val') L (a.put (yN ops j) (val' j)) (fun k hk=>⟨zz (by rintro rfl;exact hj hk),hv k⟩)];rw[Lf (by simp)];exact uS _ L a (fun k hk=>hd k (by simp[hk]) (fun e=>hj (e▸hk)))
  · have hi' : i ∈ L := by
     rcases LX.1 hi with h | h
     . exact absurd h.symm e
     . exact h
    show yK ops (upd l i) val' L (if upd l i j then a.put (yN ops j) (val' j) else a)=(yK ops l val L (if l j then a.put (yN ops j) (val j) else a)).put (yN ops i) (val' i);rw[zz e]
    by_cases hl:l j=true
    . rw[Lh hl,Lh hl,hv j hl]
      exact vL L _ hn' hi' hli (fun k hk=>hd k (by simp[hk])) hv
    . rw[Lf hl,Lf hl]
      exact vL L _ hn' hi' hli (fun k hk=>hd k (by simp[hk])) hv
theorem put_size(a:Act)(x:Option Tmp)(v:Value):(a.put x v).tmps.size=a.tmps.size:=by cases x<;>simp[Act.put]
theorem put_get_ne(a:Act){x:Option Tmp}(v:Value){k:Nat}(h:x≠some k):(a.put x v).tmps[k]?=a.tmps[k]?:=by
 cases x with
 | none=>rfl
 | some d=>exact L6 (fun e=>h (by rw[e]))
theorem put_get(a:Act)(v:Value){k:Nat}(h:k<a.tmps.size):(a.put (some k) v).tmps[k]?=some v:=by simp[Act.put,h]
theorem uT{ops:Array Oper}{l:Nat->Bool}{val:Nat->Value}{k:Nat}:∀(L:List Nat) (a:Act),(∀j∈L,yN ops j≠some k)->(yK ops l val L a).tmps[k]?=a.tmps[k]?
 | [],_,_=>rfl
 | j::L,a,h=>by
  show(yK ops l val L (if l j then a.put (yN ops j) (val j) else a)).tmps[k]?=a.tmps[k]?;rw[uT L _ (fun i hi=>h i (by simp[hi]))]
  split
  . exact put_get_ne _ _ (h j (by simp))
  . rfl
theorem Xg{ops:Array Oper}{l:Nat->Bool}{val:Nat->Value}{k i:Nat}(hl:l i=true)(hd:yN ops i=some k) :
  ∀(L:List Nat) (a:Act),L.Nodup->i∈L->(∀j∈L,j≠i->yN ops j≠some k)->k<a.tmps.size->(yK ops l val L a).tmps[k]?=some (val i)
 | [],_,_,h,_,_=>by cases h
 | j::L,a,hn,hi,h,hk=>by
  obtain⟨hj,hn'⟩:=PQ.1 hn;show(yK ops l val L (if l j then a.put (yN ops j) (val j) else a)).tmps[k]?=some (val i)
  by_cases e:j=i
  . subst e
    rw[hl,Lh rfl,uT L _ (fun q hq=>h q (by simp[hq]) (fun e=>hj (e▸hq))),hd];exact put_get a _ hk
  · have hi' : i ∈ L := by
     rcases LX.1 hi with h' | h'
     . exact absurd h'.symm e
     . exact h'
    refine Xg hl hd L _ hn' hi' (fun q hq=>h q (by simp[hq])) ?_
    split
    . rw[put_size];exact hk
    . exact hk
structure Agr(ops:Array Oper)(a0:Act)(l:Nat->Bool)(val:Nat->Value)(a:Act):Prop where
 new:∀(i k:Nat),yN ops i=some k->l i=true->k<a0.tmps.size->a.eval (.tmp k)=val i
 old:∀(k:Nat),(List.range ops.size).all (fun j=>yN ops j != some k)=true->a.eval (.tmp k)=a0.eval (.tmp k)
theorem eval_tmp(a:Act)(k:Nat):a.eval (.tmp k)=(a.tmps[k]?).getD undef:=by simp[Act.eval]
theorem Agr.newD{ops:Array Oper}{a0:Act}{l:Nat->Bool}{val:Nat->Value}{a:Act}(h:Agr ops a0 l val a)(i k:Nat)(hd:yN ops i=some k)(hl:l i=true)(hk:k<a0.tmps.size):(a.tmps[k]?).getD undef=val i:=(eval_tmp a k).symm.trans (h.new i k hd hl hk)
theorem Agr.oldD{ops:Array Oper}{a0:Act}{l:Nat->Bool}{val:Nat->Value}{a:Act}(h:Agr ops a0 l val a)(k:Nat)(hd:(List.range ops.size).all (fun j=>yN ops j != some k)=true):(a.tmps[k]?).getD undef=a0.eval (.tmp k):=(eval_tmp a k).symm.trans (h.old k hd)
section
variable {P:Program} {G:Type}
def StepAt(P:Program)(ops:Array Oper)(Q:Exit->Act->Ba->Prop)(a0:Act)(val:G->Nat->Value)(J:(Nat->Bool)->G->Ba->Prop)(i:Nat)(o:Oper):Prop:=
 ∀(l:Nat->Bool) (g:G) (w:Ba) (a:Act),J l g w->l i=false->(∀e∈o.after.toList,Region.binds .any e=true->l e.on=true)->Agr ops a0 l (val g) a ->
  if Region.wanted o (yielded ops a.tmps) then o.wp P a w (fun a' w'=>∃g' v,a'=a.put o.dst v/\val g' i=v/\(∀j,l j=true->val g' j=val g j)/\J (upd l i) g' w') Q
  else ∃g',val g' i=undef/\(∀j,l j=true->val g' j=val g j)/\J (upd l i) g' w
def StepsFrom(P:Program)(ops:Array Oper)(Q:Exit->Act->Ba->Prop)(a0:Act)(val:G->Nat->Value)(J:(Nat->Bool)->G->Ba->Prop):Nat->List Oper->Prop
 | _,[]=>True
 | i,o::rest=>StepAt P ops Q a0 val J i o/\StepsFrom P ops Q a0 val J (i+1) rest
theorem StepsFrom.at_{ops:Array Oper}{Q:Exit->Act->Ba->Prop}{a0:Act}{val:G->Nat->Value}{J:(Nat->Bool)->G->Ba->Prop} :
  ∀(n:Nat) (os:List Oper),StepsFrom P ops Q a0 val J n os->∀i o,os[i]?=some o->StepAt P ops Q a0 val J (n+i) o
 | _,[],_,i,o,h=>by simp at h
 | n,o'::os,h,0,o,ho=>by
  simp at ho;subst ho;exact h.1
 | n,o'::os,h,i+1,o,ho=>by
  have:=StepsFrom.at_ (n+1) os h.2 i o (by simpa using ho);rwa[show n+(i+1)=n+1+i from by omega]
def dagB(ops:Array Oper):Bool:=
 (List.range ops.size).all fun i=>match ops[i]? with
  | some o=>o.after.toList.all (fun e=>!Region.binds .any e||decide (e.on<i))&&(List.range ops.size).all (fun j=>j==i||o.dst.isNone||yN ops j != o.dst)
  | none=>true
theorem dag_edge{ops:Array Oper}(h:dagB ops=true){i:Nat}{o:Oper}(ho:ops[i]?=some o):∀e∈o.after.toList,Region.binds .any e=true->e.on<i:=by
 intro e he hb;have hi:i<ops.size:=(Lp.1 ho).1;have:=LG.1 h i (by simpa using hi);simp only[ho,Bool.and_eq_true] at this;have:=LG.1 this.1 e he;simpa[hb] using this
theorem dag_dst{ops:Array Oper}(h:dagB ops=true){i j d:Nat}(hij:j≠i)(hj:j<ops.size)(hd:yN ops i=some d):yN ops j≠some d:=by
 unfold yN at hd
 cases ho:ops[i]? with
 | none=>simp[ho] at hd
 | some o=>
  simp[ho] at hd;have hi:i<ops.size:=(Lp.1 ho).1;have h1:=LG.1 h i (by simpa using hi);simp only[ho,Bool.and_eq_true] at h1;have h2:=LG.1 h1.2 j (by simpa using hj);simpa[hij,hd] using h2
def YS(l:Nat->Bool)(n:Nat):Nat:=((List.range n).filter fun j=>!l j).length
theorem uB{α:Type}{p q:α->Bool}(h:∀x,q x=true->p x=true):∀(L:List α) (x:α),x∈L->p x=true->q x=false->(L.filter q).length<(L.filter p).length
 | [],_,hx,_,_=>by cases hx
 | y::L,x,hx,hp,hq=>by
  have hle:∀L:List α,(L.filter q).length<=(L.filter p).length:=by
   intro L
   induction L with
   | nil=>simp
   | cons z L ih=>
    rw[RO,RO]
    by_cases hz:q z=true
    . rw[Lh hz,Lh (h z hz)];simpa using ih
    . rw[Lf hz]
      split
      . simp only[List.length_cons];omega
      . exact ih
  rw[RO,RO];rcases LX.1 hx with rfl | hx
  . rw[hp,hq]
    have:=hle L;simp;omega
  . have ih:=uB h L x hx hp hq
    by_cases hz:q y=true
    . rw[Lh hz,Lh (h y hz)];simpa using ih
    . rw[Lf hz]
      split
      . simp only[List.length_cons];omega
      . exact ih
theorem openN_upd{l:Nat->Bool}{n i:Nat}(hi:i<n)(hl:l i=false):YS (upd l i) n<YS l n:=by
 unfold YS;refine uB (fun x hx=>?_) _ i (by simpa using hi) (by simp[hl]) (by simp[upd]);simp[upd] at hx ⊢;exact hx.2
theorem openN_zero{l:Nat->Bool}{n:Nat}(h:YS l n=0){i:Nat}(hi:i<n):l i=true:=by
 unfold YS at h;have:=PE.1 h;rw[List.filter_eq_nil_iff] at this;simpa using this i (by simpa using hi)
theorem wpAny_dag{ops:Array Oper}{Q:Exit->Act->Ba->Prop}{a0:Act}{val:G->Nat->Value}{J:(Nat->Bool)->G->Ba->Prop}(hd:dagB ops=true)
  (hs:StepsFrom P ops Q a0 val J 0 ops.toList)
  (hend:∀(l:Nat->Bool) (g:G) (w:Ba),(∀i,i<ops.size->l i=true)->J l g w->Q .normal (yK ops (fun _=>true) (val g) (List.range ops.size) a0) w) :
  ∀(fuel:Nat) (listed:Array Bool) (l:Nat->Bool) (g:G) (w:Ba),YS l ops.size<=fuel->listed.size=ops.size->(∀i,i<ops.size->listed.getD i true=l i)->J l g w ->
   wpAny P .any ops Q fuel listed (yK ops l (val g) (List.range ops.size) a0) w:=by
 have fin:∀(listed:Array Bool) (l:Nat->Bool) (g:G) (w:Ba),listed.size=ops.size->(∀i,i<ops.size->listed.getD i true=l i)->J l g w->(∀i,i<ops.size->l i=true) ->
   Region.ready .any ops listed=[]/\Q .normal (yK ops l (val g) (List.range ops.size) a0) w:=by
  intro listed l g w hsz hl hJ hall;refine⟨?_,?_⟩
  . refine List.eq_nil_iff_forall_not_mem.2 fun i hi=>?_
    obtain⟨h0,o,ho,_⟩:=Ro.1 hi;have hlt:i<ops.size:=(Lp.1 ho).1;rw[hl i hlt,hall i hlt] at h0
    cases h0
  . have:=hend l g w hall hJ
    rwa[kM (l:=l) (val:=val g) _ _ (fun j hj=>⟨(hall j (by simpa using hj)).symm,fun _=>rfl⟩)] at this
 intro fuel
 induction fuel with
 | zero=>
  intro listed l g w hf hsz hl hJ;exact fin listed l g w hsz hl hJ (fun i hi=>openN_zero (by omega) hi)
 | succ fuel ih=>
  intro listed l g w hf hsz hl hJ;refine⟨fun hr=>?_,fun i hi=>?_⟩
  . refine(fin listed l g w hsz hl hJ fun i hi=>?_).2
    -- the least that is not in l would be ready
    refine Nat.strongRecOn (motive:=fun i=>i<ops.size->l i=true) i (fun i IH hi=>?_) hi
    cases hli:l i with
    | true=>rfl
    | false=>
     have:i∈Region.ready .any ops listed:=by
      refine Ro.2 ⟨by rw[hl i hi,hli],ops[i],by simp[hi],fun e he hb=>?_⟩;have hlt:=dag_edge hd (o:=ops[i]) (i:=i) (by simp[hi]) e (by simpa using he) hb;have h1:=IH e.on hlt (by omega);rw[<-hl e.on (by omega)] at h1;have h2:e.on<listed.size:=by omega
      simpa[Array.getD,h2] using h1
     rw[hr] at this
     cases this
  . obtain⟨h0,o,ho,hall⟩:=Ro.1 hi
    have hlt:i<ops.size:=(Lp.1 ho).1;have hli:l i=false:=by rw[<-hl i hlt];exact h0
    have hst:=StepsFrom.at_ 0 ops.toList hs i o (by simpa using ho);rw[LL] at hst
    have hagr:Agr ops a0 l (val g) (yK ops l (val g) (List.range ops.size) a0):=by
     refine⟨fun j k hj hlj hk=>?_,fun k hk=>?_⟩
     · have hjs : j < ops.size := by
        unfold yN at hj;rcases Ss j ops.size with h | h
        . exact h
        . simp[Array.getElem?_eq_none h] at hj
       have:=Xg (val:=val g) hlj hj (List.range ops.size) a0 List.nodup_range (by simpa using hjs) (fun q hq hqj=>dag_dst hd hqj (by simpa using hq) hj) hk;simp[Act.eval,Array.getD_eq_getD_getElem?,this]
     . have:=uT (ops:=ops) (l:=l) (val:=val g) (k:=k) (List.range ops.size) a0 (fun j hj=>by have:=LG.1 hk j hj;simpa using this)
       simp only[Act.eval,Array.getD_eq_getD_getElem?,this]
    have hst':=hst l g w _ hJ hli (fun e he hb=>by
     have h1:=hall e (by simpa using he) hb;have hlt':=dag_edge hd ho e he hb;rw[<-hl e.on (by omega)];have h2:e.on<listed.size:=by omega
     simpa[Array.getD,h2] using h1) hagr
    have hdst:yN ops i=o.dst:=by simp[yN,ho]
    have go:∀(g':G) (w':Ba) (v:Value),val g' i=v->(∀j,l j=true->val g' j=val g j)->J (upd l i) g' w' ->
      wpAny P .any ops Q fuel (listed.setIfInBounds i true) ((yK ops l (val g) (List.range ops.size) a0).put o.dst v) w':=by
     intro g' w' v hv hval hJ'
     have e:=vL (ops:=ops) (l:=l) (val:=val g) (val':=val g') (i:=i) (List.range ops.size) a0 List.nodup_range (by simpa using hlt) hli
      (fun j hj hji d hd'=>dag_dst hd hji (by simpa using hj) hd') hval
     rw[hv,hdst] at e;rw[<-e];refine ih (listed.setIfInBounds i true) (upd l i) g' w' ?_ (by simpa using hsz) (fun j hj=>?_) hJ'
     . have:=openN_upd hlt hli;omega
     . by_cases hji:j=i
       . subst hji
         rw[qp];have:j<listed.size:=by omega
         simp[Array.getD,this]
       . rw[zz hji,<-hl j hj]
         exact getD_set_ne true (fun e=>hji e.symm)
    unfold wpOp;simp only[ho]
    split
    . rename_i hw
      rw[Lh hw] at hst';refine .inl (Sr (fun a' w' h=>?_) hst');obtain⟨g',v,rfl,hv,hval,hJ'⟩:=h;exact go g' w' v hv hval hJ'
    . rename_i hw
      rw[Lf hw] at hst';obtain⟨g',hv,hval,hJ'⟩:=hst';exact go g' w undef hv hval hJ'
theorem Xu{ops:Array Oper}{Q:Exit->Act->Ba->Prop}{a0:Act}{w0:Ba}{id:Nat}(hm:P.follows .mixedOrders=true)(val:G->Nat->Value)(J:(Nat->Bool)->G->Ba->Prop)
  (hd:dagB ops=true) (g0:G) (h0:J (fun _=>false) g0 w0.drew) (hs:StepsFrom P ops Q a0 val J 0 ops.toList)
  (hend:∀(l:Nat->Bool) (g:G) (w:Ba),(∀i,i<ops.size->l i=true)->J l g w->Q .normal (yK ops (fun _=>true) (val g) (List.range ops.size) a0) w) :
  (Code.region id ops true).wp P Q a0 w0:=by
 refine wp_region_any hm ?_
 have:=wpAny_dag hd hs hend ops.size (Array.replicate ops.size false) (fun _=>false) g0 w0.drew (by unfold YS;exact LB (List.length_filter_le _ _) (by simp)) (by simp)
  (fun i hi=>by simp[Array.getD,hi]) h0
 have e:yK ops (fun _=>false) (val g0) (List.range ops.size) a0=a0:=by
  generalize List.range ops.size=L
  induction L with
  | nil=>rfl
  | cons j L ih=>exact ih
 rw[e] at this;exact this
end
def X0:List (Option Tmp)->(Nat->Value)->Nat->Act->Act
 | [],_,_,a=>a
 | d::D,v,i,a=>X0 D v (i+1) (a.put d (v i))
theorem putsL_nil(v:Nat->Value)(i:Nat)(a:Act):X0 [] v i a=a:=rfl
theorem YN(d:Option Tmp)(D:List (Option Tmp))(v:Nat->Value)(i:Nat)(a:Act):X0 (d::D) v i a=X0 D v (i+1) (a.put d (v i)):=rfl
theorem ZO(ops:Array Oper)(val:Nat->Value):∀(n i:Nat) (a:Act),i+n=ops.size->yK ops (fun _=>true) val (List.range' i n) a=X0 ((ops.toList.drop i).map (·.dst)) val i a
 | 0,i,a,h=>by
  have:ops.toList.drop i=[]:=List.drop_eq_nil_of_le (by simp;omega);rw[this];rfl
 | n+1,i,a,h=>by
  have hi:i<ops.toList.length:=by simp;omega
  rw[LA hi,L3,YN,List.range'_succ];have e:yN ops i=ops.toList[i].dst:=by simp[yN,show i<ops.size by omega]
  rw[<-e];exact ZO ops val n (i+1) _ (by omega)
theorem JC{ops:Array Oper}{val:Nat->Value}{D:List (Option Tmp)}(hD:ops.toList.map (·.dst)=D)(a:Act):yK ops (fun _=>true) val (List.range ops.size) a=X0 D val 0 a:=by
 rw[List.range_eq_range',ZO ops val ops.size 0 a (by omega),Ni,hD]
end
section
open Go.RowKit Go.Shelf
attribute [local go_sem] Oper.semAt_some
def XK(k bw:Nat):Value:=.func (.func k) #[.pointer (some ⟨bw,0,none⟩)] #[]
def grF(c:Nat):Value:=.func (.func 100) #[] #[.pointer (some ⟨c,0,none⟩)]
def knF(b:Nat):Value:=.func (.func 101) #[] #[.pointer (some ⟨b,0,none⟩)]
def opQ(x2 x7 x12 x17:Bool)(b0 c1 c2 c3:Nat):Int->Option Value:=fun g=>if g=10 then (if x2 then some (knF b0) else none) else if g=11 then (if x7 then some (grF c1) else none) else if g=12 then (if x12 then some (grF c2) else none) else if g=13 then (if x17 then some (grF c3) else none) else none
def GrB(w:Ba)(c k bw:Nat):Prop:=w.heap[c]?=some (.cells #[XK k bw] 89 (0,0))
theorem GrB.keep{w w':Ba}{c k bw:Nat}(h:GrB w c k bw)(hb:Below w.heap.size w w'):GrB w' c k bw:=La hb h
theorem GrB.put{w w':Ba}{c k bw mb m:Nat}{F:Int->Option Value}(h:GrB w c k bw)(hm:MapOf (Value.int .i64) w mb m F)(hg:w.grownBy w' (some mb)):GrB w' c k bw:=by
 refine(hg.block _ (zj h) (fun e=>?_)).trans h
 cases e
 obtain⟨es,clock,hb,_⟩:=hm;unfold GrB at h;rw[h] at hb;cases hb
structure GOp where
 mb:Nat
 c1:Nat
 c2:Nat
 c3:Nat
def jn(b0 bw:Nat)(g:GOp):Nat->Value
 | 0=>.map (some g.mb)
 | 1=>knF b0
 | 3=>.func (.func 99) #[] #[]
 | 4=>.pointer (some ⟨bw,0,none⟩)
 | 5=>XK 45 bw
 | 6=>grF g.c1
 | 8=>.func (.func 99) #[] #[]
 | 9=>.pointer (some ⟨bw,0,none⟩)
 | 10=>XK 46 bw
 | 11=>grF g.c2
 | 13=>.func (.func 99) #[] #[]
 | 14=>.pointer (some ⟨bw,0,none⟩)
 | 15=>XK 102 bw
 | 16=>grF g.c3
 | 18=>.map (some g.mb)
 | 19=>.map (some g.mb)
 | _=>undef
theorem valO_mb{l:Nat->Bool}{b0 bw:Nat}{g:GOp}(x:Nat)(hl:l 0=false)(h18:l 18=true->l 0=true)(h19:l 19=true->l 0=true):∀j,l j=true->jn b0 bw { g with mb:=x } j=jn b0 bw g j
 | 0,hj=>absurd hj (by rw[hl];decide)
 | 1,_=>rfl
 | 2,_=>rfl
 | 3,_=>rfl
 | 4,_=>rfl
 | 5,_=>rfl
 | 6,_=>rfl
 | 7,_=>rfl
 | 8,_=>rfl
 | 9,_=>rfl
 | 10,_=>rfl
 | 11,_=>rfl
 | 12,_=>rfl
 | 13,_=>rfl
 | 14,_=>rfl
 | 15,_=>rfl
 | 16,_=>rfl
 | 17,_=>rfl
 | 18,hj=>absurd (h18 hj) (by rw[hl];decide)
 | 19,hj=>absurd (h19 hj) (by rw[hl];decide)
 | _+20,_=>rfl
theorem valO_c1{l:Nat->Bool}{b0 bw:Nat}{g:GOp}(x:Nat)(hl:l 6=false):∀j,l j=true->jn b0 bw { g with c1:=x } j=jn b0 bw g j
 | 0,_=>rfl
 | 1,_=>rfl
 | 2,_=>rfl
 | 3,_=>rfl
 | 4,_=>rfl
 | 5,_=>rfl
 | 6,hj=>absurd hj (by rw[hl];decide)
 | 7,_=>rfl
 | 8,_=>rfl
 | 9,_=>rfl
 | 10,_=>rfl
 | 11,_=>rfl
 | 12,_=>rfl
 | 13,_=>rfl
 | 14,_=>rfl
 | 15,_=>rfl
 | 16,_=>rfl
 | 17,_=>rfl
 | 18,_=>rfl
 | 19,_=>rfl
 | _+20,_=>rfl
theorem valO_c2{l:Nat->Bool}{b0 bw:Nat}{g:GOp}(x:Nat)(hl:l 11=false):∀j,l j=true->jn b0 bw { g with c2:=x } j=jn b0 bw g j
 | 0,_=>rfl
 | 1,_=>rfl
 | 2,_=>rfl
 | 3,_=>rfl
 | 4,_=>rfl
 | 5,_=>rfl
 | 6,_=>rfl
 | 7,_=>rfl
 | 8,_=>rfl
 | 9,_=>rfl
 | 10,_=>rfl
 | 11,hj=>absurd hj (by rw[hl];decide)
 | 12,_=>rfl
 | 13,_=>rfl
 | 14,_=>rfl
 | 15,_=>rfl
 | 16,_=>rfl
 | 17,_=>rfl
 | 18,_=>rfl
 | 19,_=>rfl
 | _+20,_=>rfl
theorem valO_c3{l:Nat->Bool}{b0 bw:Nat}{g:GOp}(x:Nat)(hl:l 16=false):∀j,l j=true->jn b0 bw { g with c3:=x } j=jn b0 bw g j
 | 0,_=>rfl
 | 1,_=>rfl
 | 2,_=>rfl
 | 3,_=>rfl
 | 4,_=>rfl
 | 5,_=>rfl
 | 6,_=>rfl
 | 7,_=>rfl
 | 8,_=>rfl
 | 9,_=>rfl
 | 10,_=>rfl
 | 11,_=>rfl
 | 12,_=>rfl
 | 13,_=>rfl
 | 14,_=>rfl
 | 15,_=>rfl
 | 16,hj=>absurd hj (by rw[hl];decide)
 | 17,_=>rfl
 | 18,_=>rfl
 | 19,_=>rfl
 | _+20,_=>rfl
structure JOp(W:Ba)(b0 bw:Nat)(l:Nat->Bool)(g:GOp)(w:Ba):Prop where
 low:Below W.heap.size W w
 map:l 0=true->W.heap.size<=g.mb/\∃m,MapOf (Value.int .i64) w g.mb m (opQ (l 2) (l 7) (l 12) (l 17) b0 g.c1 g.c2 g.c3)
 q1:l 6=true->GrB w g.c1 45 bw
 q2:l 11=true->GrB w g.c2 46 bw
 q3:l 16=true->GrB w g.c3 102 bw
 d2:l 2=true->l 0=true
 d7:l 7=true->l 0=true/\l 6=true
 d12:l 12=true->l 0=true/\l 11=true
 d17:l 17=true->l 0=true/\l 16=true
 d18:l 18=true->l 0=true
 d19:l 19=true->l 0=true
section
variable {W:Ba} {b0 bw:Nat} {l:Nat->Bool} {g:GOp} {w:Ba}
theorem bf{x y:Bool}(h:x=true->y=true)(hy:y=false):x=false:=by cases x with | false=>rfl | true=>rw[h rfl] at hy;cases hy
theorem JOp.below(h:JOp W b0 bw l g w){w':Ba}(hb:Below w.heap.size w w'):JOp W b0 bw l g w':=
 ⟨Lc h.low hb,fun e=>⟨(h.map e).1,by obtain⟨m,hm⟩:=(h.map e).2;exact⟨m,hm.same (hb.block _ hm.lt)⟩⟩,fun e=>(h.q1 e).keep hb,fun e=>(h.q2 e).keep hb,fun e=>(h.q3 e).keep hb,h.d2,h.d7,h.d12,h.d17,h.d18,h.d19⟩
theorem JOp.idle(h:JOp W b0 bw l g w){i:Nat}(hi:i≠0/\i≠2/\i≠6/\i≠7/\i≠11/\i≠12/\i≠16/\i≠17)(h1:i=18\/i=19->l 0=true):JOp W b0 bw (upd l i) g w:=by
 obtain⟨i0,i2,i6,i7,i11,i12,i16,i17⟩:=hi;have e0:upd l i 0=l 0:=zz (fun e=>i0 e.symm);have e2:upd l i 2=l 2:=zz (fun e=>i2 e.symm);have e6:upd l i 6=l 6:=zz (fun e=>i6 e.symm);have e7:upd l i 7=l 7:=zz (fun e=>i7 e.symm);have e11:upd l i 11=l 11:=zz (fun e=>i11 e.symm);have e12:upd l i 12=l 12:=zz (fun e=>i12 e.symm);have e16:upd l i 16=l 16:=zz (fun e=>i16 e.symm);have e17:upd l i 17=l 17:=zz (fun e=>i17 e.symm);refine⟨h.low,?_,?_,?_,?_,?_,?_,?_,?_,?_,?_⟩
 . rw[e0,e2,e7,e12,e17];exact h.map
 . rw[e6];exact h.q1
 . rw[e11];exact h.q2
 . rw[e16];exact h.q3
 . rw[e2,e0];exact h.d2
 . rw[e7,e0,e6];exact h.d7
 . rw[e12,e0,e11];exact h.d12
 . rw[e17,e0,e16];exact h.d17
 . rw[e0]
   intro e
   by_cases h9:i=18
   . exact h1 (.inl h9)
   . rw[zz (fun x=>h9 x.symm)] at e;exact h.d18 e
 . rw[e0]
   intro e
   by_cases h9:i=19
   . exact h1 (.inr h9)
   . rw[zz (fun x=>h9 x.symm)] at e;exact h.d19 e
theorem JOp.made(h:JOp W b0 bw l g w)(hl:l 0=false):JOp W b0 bw (upd l 0) { g with mb:=w.heap.size } (w.alloc (.map #[] 0)):=by
 have h':=h.below (yg w (.map #[] 0));have e2:upd l 0 2=l 2:=zz (by decide);have e6:upd l 0 6=l 6:=zz (by decide);have e7:upd l 0 7=l 7:=zz (by decide);have e11:upd l 0 11=l 11:=zz (by decide);have e12:upd l 0 12=l 12:=zz (by decide);have e16:upd l 0 16=l 16:=zz (by decide);have e17:upd l 0 17=l 17:=zz (by decide);have e18:upd l 0 18=l 18:=zz (by decide);have e19:upd l 0 19=l 19:=zz (by decide);have u:upd l 0 0=true:=qp _ _;have f2:=bf h.d2 hl;have f7:=bf (fun e=>(h.d7 e).1) hl;have f12:=bf (fun e=>(h.d12 e).1) hl;have f17:=bf (fun e=>(h.d17 e).1) hl;refine⟨h'.low,fun _=>⟨h.low.size,0,?_⟩,?_,?_,?_,?_,?_,?_,?_,?_,?_⟩
 . rw[e2,e7,e12,e17,f2,f7,f12,f17]
   have e:opQ false false false false b0 g.c1 g.c2 g.c3=fun _=>none:=by funext k;simp[opQ]
   show MapOf (Value.int .i64) (w.alloc (.map #[] 0)) w.heap.size 0 (opQ false false false false b0 g.c1 g.c2 g.c3);rw[e];exact MapOf.made w
 . rw[e6];exact h'.q1
 . rw[e11];exact h'.q2
 . rw[e16];exact h'.q3
 . intro _;exact u
 . rw[e7,f7];intro e;cases e
 . rw[e12,f12];intro e;cases e
 . rw[e17,f17];intro e;cases e
 . intro _;exact u
 . intro _;exact u
theorem JOp.call1(h0:JOp W b0 bw l g w)(hl:l 6=false){w':Ba}(hb:Below w.heap.size w w'){x:Nat}(hq:GrB w' x 45 bw):JOp W b0 bw (upd l 6) { g with c1:=x } w':=by
 have h:=h0.below hb;have e0:upd l 6 0=l 0:=zz (by decide);have e2:upd l 6 2=l 2:=zz (by decide);have e7:upd l 6 7=l 7:=zz (by decide);have e11:upd l 6 11=l 11:=zz (by decide);have e12:upd l 6 12=l 12:=zz (by decide);have e16:upd l 6 16=l 16:=zz (by decide);have e17:upd l 6 17=l 17:=zz (by decide);have e18:upd l 6 18=l 18:=zz (by decide);have e19:upd l 6 19=l 19:=zz (by decide);have u:upd l 6 6=true:=qp _ _;have fd:=bf (fun e=>(h.d7 e).2) hl;refine⟨h.low,?_,?_,?_,?_,?_,?_,?_,?_,?_,?_⟩
 . rw[e0,e2,e7,e12,e17,fd]
   intro e;obtain⟨h1,m,hm⟩:=h.map e;rw[fd] at hm;have ee:opQ (l 2) false (l 12) (l 17) b0 g.c1 g.c2 g.c3=opQ (l 2) false (l 12) (l 17) b0 x g.c2 g.c3:=by funext k;simp[opQ]
   rw[ee] at hm;exact⟨h1,m,hm⟩
 . intro _;exact hq
 . rw[e11];exact h.q2
 . rw[e16];exact h.q3
 . rw[e2,e0];exact h.d2
 . rw[e7,fd];intro e;cases e
 . rw[e12,e0,e11];exact h.d12
 . rw[e17,e0,e16];exact h.d17
 . rw[e18,e0];exact h.d18
 . rw[e19,e0];exact h.d19
theorem JOp.call2(h0:JOp W b0 bw l g w)(hl:l 11=false){w':Ba}(hb:Below w.heap.size w w'){x:Nat}(hq:GrB w' x 46 bw):JOp W b0 bw (upd l 11) { g with c2:=x } w':=by
 have h:=h0.below hb;have e0:upd l 11 0=l 0:=zz (by decide);have e2:upd l 11 2=l 2:=zz (by decide);have e6:upd l 11 6=l 6:=zz (by decide);have e7:upd l 11 7=l 7:=zz (by decide);have e12:upd l 11 12=l 12:=zz (by decide);have e16:upd l 11 16=l 16:=zz (by decide);have e17:upd l 11 17=l 17:=zz (by decide);have e18:upd l 11 18=l 18:=zz (by decide);have e19:upd l 11 19=l 19:=zz (by decide);have u:upd l 11 11=true:=qp _ _;have fd:=bf (fun e=>(h.d12 e).2) hl;refine⟨h.low,?_,?_,?_,?_,?_,?_,?_,?_,?_,?_⟩
 . rw[e0,e2,e7,e12,e17,fd]
   intro e;obtain⟨h1,m,hm⟩:=h.map e;rw[fd] at hm;have ee:opQ (l 2) (l 7) false (l 17) b0 g.c1 g.c2 g.c3=opQ (l 2) (l 7) false (l 17) b0 g.c1 x g.c3:=by funext k;simp[opQ]
   rw[ee] at hm;exact⟨h1,m,hm⟩
 . rw[e6];exact h.q1
 . intro _;exact hq
 . rw[e16];exact h.q3
 . rw[e2,e0];exact h.d2
 . rw[e7,e0,e6];exact h.d7
 . rw[e12,fd];intro e;cases e
 . rw[e17,e0,e16];exact h.d17
 . rw[e18,e0];exact h.d18
 . rw[e19,e0];exact h.d19
theorem JOp.call3(h0:JOp W b0 bw l g w)(hl:l 16=false){w':Ba}(hb:Below w.heap.size w w'){x:Nat}(hq:GrB w' x 102 bw):JOp W b0 bw (upd l 16) { g with c3:=x } w':=by
 have h:=h0.below hb;have e0:upd l 16 0=l 0:=zz (by decide);have e2:upd l 16 2=l 2:=zz (by decide);have e6:upd l 16 6=l 6:=zz (by decide);have e7:upd l 16 7=l 7:=zz (by decide);have e11:upd l 16 11=l 11:=zz (by decide);have e12:upd l 16 12=l 12:=zz (by decide);have e17:upd l 16 17=l 17:=zz (by decide);have e18:upd l 16 18=l 18:=zz (by decide);have e19:upd l 16 19=l 19:=zz (by decide);have u:upd l 16 16=true:=qp _ _;have fd:=bf (fun e=>(h.d17 e).2) hl;refine⟨h.low,?_,?_,?_,?_,?_,?_,?_,?_,?_,?_⟩
 . rw[e0,e2,e7,e12,e17,fd]
   intro e;obtain⟨h1,m,hm⟩:=h.map e;rw[fd] at hm;have ee:opQ (l 2) (l 7) (l 12) false b0 g.c1 g.c2 g.c3=opQ (l 2) (l 7) (l 12) false b0 g.c1 g.c2 x:=by funext k;simp[opQ]
   rw[ee] at hm;exact⟨h1,m,hm⟩
 . rw[e6];exact h.q1
 . rw[e11];exact h.q2
 . intro _;exact hq
 . rw[e2,e0];exact h.d2
 . rw[e7,e0,e6];exact h.d7
 . rw[e12,e0,e11];exact h.d12
 . rw[e17,fd];intro e;cases e
 . rw[e18,e0];exact h.d18
 . rw[e19,e0];exact h.d19
theorem JOp.put2(h:JOp W b0 bw l g w)(l0:l 0=true){w':Ba}{m m':Nat}{F:Int->Option Value}(hm:MapOf (Value.int .i64) w g.mb m F)(hg:w.grownBy w' (some g.mb))(hm':MapOf (Value.int .i64) w' g.mb m' (xq (opQ (l 2) (l 7) (l 12) (l 17) b0 g.c1 g.c2 g.c3) 10 (knF b0))):JOp W b0 bw (upd l 2) g w':=by
 have e0:upd l 2 0=l 0:=zz (by decide);have e6:upd l 2 6=l 6:=zz (by decide);have e7:upd l 2 7=l 7:=zz (by decide);have e11:upd l 2 11=l 11:=zz (by decide);have e12:upd l 2 12=l 12:=zz (by decide);have e16:upd l 2 16=l 16:=zz (by decide);have e17:upd l 2 17=l 17:=zz (by decide);have e18:upd l 2 18=l 18:=zz (by decide);have e19:upd l 2 19=l 19:=zz (by decide);have u:upd l 2 2=true:=qp _ _;refine⟨h.low.grown hg h.low.size (fun k e=>by cases e;exact(h.map l0).1),fun _=>⟨(h.map l0).1,m',?_⟩,?_,?_,?_,?_,?_,?_,?_,?_,?_⟩
 . rw[u,e7,e12,e17]
   have ee:xq (opQ (l 2) (l 7) (l 12) (l 17) b0 g.c1 g.c2 g.c3) 10 (knF b0)=opQ true (l 7) (l 12) (l 17) b0 g.c1 g.c2 g.c3:=by
    funext k
    unfold xq opQ
    by_cases hk:k=10
    . subst hk;simp
    . simp[hk]
   rw[ee] at hm';exact hm'
 . rw[e6];exact fun e=>(h.q1 e).put hm hg
 . rw[e11];exact fun e=>(h.q2 e).put hm hg
 . rw[e16];exact fun e=>(h.q3 e).put hm hg
 . rw[e0];intro _;exact l0
 . rw[e7,e0,e6];exact h.d7
 . rw[e12,e0,e11];exact h.d12
 . rw[e17,e0,e16];exact h.d17
 . rw[e18,e0];exact h.d18
 . rw[e19,e0];exact h.d19
theorem JOp.put7(h:JOp W b0 bw l g w)(l0:l 0=true)(h6:l 6=true){w':Ba}{m m':Nat}{F:Int->Option Value}(hm:MapOf (Value.int .i64) w g.mb m F)(hg:w.grownBy w' (some g.mb))(hm':MapOf (Value.int .i64) w' g.mb m' (xq (opQ (l 2) (l 7) (l 12) (l 17) b0 g.c1 g.c2 g.c3) 11 (grF g.c1))):JOp W b0 bw (upd l 7) g w':=by
 have e0:upd l 7 0=l 0:=zz (by decide);have e2:upd l 7 2=l 2:=zz (by decide);have e6:upd l 7 6=l 6:=zz (by decide);have e11:upd l 7 11=l 11:=zz (by decide);have e12:upd l 7 12=l 12:=zz (by decide);have e16:upd l 7 16=l 16:=zz (by decide);have e17:upd l 7 17=l 17:=zz (by decide);have e18:upd l 7 18=l 18:=zz (by decide);have e19:upd l 7 19=l 19:=zz (by decide);have u:upd l 7 7=true:=qp _ _;refine⟨h.low.grown hg h.low.size (fun k e=>by cases e;exact(h.map l0).1),fun _=>⟨(h.map l0).1,m',?_⟩,?_,?_,?_,?_,?_,?_,?_,?_,?_⟩
 . rw[e2,u,e12,e17]
   have ee:xq (opQ (l 2) (l 7) (l 12) (l 17) b0 g.c1 g.c2 g.c3) 11 (grF g.c1)=opQ (l 2) true (l 12) (l 17) b0 g.c1 g.c2 g.c3:=by
    funext k
    unfold xq opQ
    by_cases hk:k=11
    . subst hk;simp
    . simp[hk]
   rw[ee] at hm';exact hm'
 . rw[e6];exact fun e=>(h.q1 e).put hm hg
 . rw[e11];exact fun e=>(h.q2 e).put hm hg
 . rw[e16];exact fun e=>(h.q3 e).put hm hg
 . rw[e2,e0];exact h.d2
 . rw[e0,e6];intro _;exact⟨l0,h6⟩
 . rw[e12,e0,e11];exact h.d12
 . rw[e17,e0,e16];exact h.d17
 . rw[e18,e0];exact h.d18
 . rw[e19,e0];exact h.d19
theorem JOp.put12(h:JOp W b0 bw l g w)(l0:l 0=true)(h6:l 11=true){w':Ba}{m m':Nat}{F:Int->Option Value}(hm:MapOf (Value.int .i64) w g.mb m F)(hg:w.grownBy w' (some g.mb))(hm':MapOf (Value.int .i64) w' g.mb m' (xq (opQ (l 2) (l 7) (l 12) (l 17) b0 g.c1 g.c2 g.c3) 12 (grF g.c2))):JOp W b0 bw (upd l 12) g w':=by
 have e0:upd l 12 0=l 0:=zz (by decide);have e2:upd l 12 2=l 2:=zz (by decide);have e6:upd l 12 6=l 6:=zz (by decide);have e7:upd l 12 7=l 7:=zz (by decide);have e11:upd l 12 11=l 11:=zz (by decide);have e16:upd l 12 16=l 16:=zz (by decide);have e17:upd l 12 17=l 17:=zz (by decide);have e18:upd l 12 18=l 18:=zz (by decide);have e19:upd l 12 19=l 19:=zz (by decide);have u:upd l 12 12=true:=qp _ _;refine⟨h.low.grown hg h.low.size (fun k e=>by cases e;exact(h.map l0).1),fun _=>⟨(h.map l0).1,m',?_⟩,?_,?_,?_,?_,?_,?_,?_,?_,?_⟩
 . rw[e2,e7,u,e17]
   have ee:xq (opQ (l 2) (l 7) (l 12) (l 17) b0 g.c1 g.c2 g.c3) 12 (grF g.c2)=opQ (l 2) (l 7) true (l 17) b0 g.c1 g.c2 g.c3:=by
    funext k
    unfold xq opQ
    by_cases hk:k=12
    . subst hk;simp
    . simp[hk]
   rw[ee] at hm';exact hm'
 . rw[e6];exact fun e=>(h.q1 e).put hm hg
 . rw[e11];exact fun e=>(h.q2 e).put hm hg
 . rw[e16];exact fun e=>(h.q3 e).put hm hg
 . rw[e2,e0];exact h.d2
 . rw[e7,e0,e6];exact h.d7
 . rw[e0,e11];intro _;exact⟨l0,h6⟩
 . rw[e17,e0,e16];exact h.d17
 . rw[e18,e0];exact h.d18
 . rw[e19,e0];exact h.d19
theorem JOp.put17(h:JOp W b0 bw l g w)(l0:l 0=true)(h6:l 16=true){w':Ba}{m m':Nat}{F:Int->Option Value}(hm:MapOf (Value.int .i64) w g.mb m F)(hg:w.grownBy w' (some g.mb))(hm':MapOf (Value.int .i64) w' g.mb m' (xq (opQ (l 2) (l 7) (l 12) (l 17) b0 g.c1 g.c2 g.c3) 13 (grF g.c3))):JOp W b0 bw (upd l 17) g w':=by
 have e0:upd l 17 0=l 0:=zz (by decide);have e2:upd l 17 2=l 2:=zz (by decide);have e6:upd l 17 6=l 6:=zz (by decide);have e7:upd l 17 7=l 7:=zz (by decide);have e11:upd l 17 11=l 11:=zz (by decide);have e12:upd l 17 12=l 12:=zz (by decide);have e16:upd l 17 16=l 16:=zz (by decide);have e18:upd l 17 18=l 18:=zz (by decide);have e19:upd l 17 19=l 19:=zz (by decide);have u:upd l 17 17=true:=qp _ _;refine⟨h.low.grown hg h.low.size (fun k e=>by cases e;exact(h.map l0).1),fun _=>⟨(h.map l0).1,m',?_⟩,?_,?_,?_,?_,?_,?_,?_,?_,?_⟩
 . rw[e2,e7,e12,u]
   have ee:xq (opQ (l 2) (l 7) (l 12) (l 17) b0 g.c1 g.c2 g.c3) 13 (grF g.c3)=opQ (l 2) (l 7) (l 12) true b0 g.c1 g.c2 g.c3:=by
    funext k
    unfold xq opQ
    by_cases hk:k=13
    . subst hk;simp
    . simp[hk]
   rw[ee] at hm';exact hm'
 . rw[e6];exact fun e=>(h.q1 e).put hm hg
 . rw[e11];exact fun e=>(h.q2 e).put hm hg
 . rw[e16];exact fun e=>(h.q3 e).put hm hg
 . rw[e2,e0];exact h.d2
 . rw[e7,e0,e6];exact h.d7
 . rw[e12,e0,e11];exact h.d12
 . rw[e0,e16];intro _;exact⟨l0,h6⟩
 . rw[e18,e0];exact h.d18
 . rw[e19,e0];exact h.d19
theorem JOp.start(g:GOp):JOp W b0 bw (fun _=>false) g W.drew:=
 ⟨(Lm _ W).drew,fun h=>by simp at h,fun h=>by simp at h,fun h=>by simp at h,fun h=>by simp at h,fun h=>by simp at h,fun h=>by simp at h,fun h=>by simp at h,fun h=>by simp at h,fun h=>by simp at h,fun h=>by simp at h⟩
end
theorem yT{P:Program}{G:Type}{ops:Array Oper}{Q:Exit->Act->Ba->Prop}{val:G->Nat->Value}{J:(Nat->Bool)->G->Ba->Prop}{i:Nat}{o:Oper}{l:Nat->Bool}{g:G}{w:Ba}{a:Act}{E:Prop}(hgd:o.guard=none)
  (h:∀K:Act->Ba->Prop,(∀(g':G) (v:Value) (w':Ba),val g' i=v->(∀j,l j=true->val g' j=val g j)->J (upd l i) g' w'->K (a.put o.dst v) w')->o.wp P a w K Q) :
  if Region.wanted o (yielded ops a.tmps) then o.wp P a w (fun a' w'=>∃g' v,a'=a.put o.dst v/\val g' i=v/\(∀j,l j=true->val g' j=val g j)/\J (upd l i) g' w') Q else E:=by
 have hw:Region.wanted o (yielded ops a.tmps)=true:=by simp[Region.wanted,hgd]
 rw[Lh hw];exact h _ fun g' v w' h1 h2 h3=>⟨g',v,rfl,h1,h2,h3⟩
theorem vr(k bw:Nat)(w:Ba) :
  Calls Tryz.prog 99 #[.func (.func k) #[.pointer (some ⟨bw,0,none⟩)] #[]] w fun e w'=>e=.returned (grF w.heap.size)/\GrB w' w.heap.size k bw/\Below w.heap.size w w':=by
 obtain⟨w1,hw1,d0,hs1,hB⟩:=zm w #[.func (.func k) #[.pointer (some ⟨bw,0,none⟩)] #[]] 89;have HW1:=zH hw1;have D0:=zH d0;have HB:=zH hB;clear hw1 d0 hB;go_enter Tryz.func99,Tryz.ntmps99;go_wp2_with fail;rw[HW1.out];go_wp2_with fail;go_ret;exact⟨rfl,D0.out,HB.out⟩
def opG(b0 c1 c2 c3:Nat):Int->Option Value:=opQ true true true true b0 c1 c2 c3
structure OpsAt(w:Ba)(bw b0 c1 c2 c3:Nat):Prop where
 b0:w.heap[b0]?=some (.cells #[.pointer (some ⟨bw,0,none⟩)] 83 (0,0))
 c1:GrB w c1 45 bw
 c2:GrB w c2 46 bw
 c3:GrB w c3 102 bw
theorem kops_any(bw:Nat)(w:Ba) :
  Calls Tryz.prog 61 #[.pointer (some ⟨bw,0,none⟩)] w fun e w'=>∃mb m c1 c2 c3,e=.returned (.map (some mb))/\w.heap.size<=mb/\MapOf (Value.int .i64) w' mb m (opG w.heap.size c1 c2 c3)/\OpsAt w' bw w.heap.size c1 c2 c3/\Below w.heap.size w w':=by
 obtain⟨w1,hw1,d0,hs1,hB⟩:=zm w #[.pointer (some ⟨bw,0,none⟩)] 83;have hc1:=zh d0 0 rfl;have hlt1:=zj d0;have ht:Tryz.prog.underlying 104=some (.map 3 160):=Tryz.underlying104;have HW1:=zH hw1;have D0:=zH d0;have HB:=zH hB;clear hw1 d0 hB;go_enter Tryz.func61,Tryz.ntmps61;go_upto_region 1 with fail
 rw[HW1.out];go_upto_region 2 with fail
 refine Xu (by kernel_rfl) (jn w.heap.size bw) (JOp w1 w.heap.size bw) (by kernel_rfl) ⟨0,0,0,0⟩ (JOp.start _) ?_ ?_
 . refine⟨?_,?_,?_,?_,?_,?_,?_,?_,?_,?_,?_,?_,?_,?_,?_,?_,?_,?_,?_,?_,trivial⟩
   . intro l g W a hJ hli hdep hagr
     clear hagr hdep;refine yT rfl fun K hK=>?_
     have hmm:=@run_makeMap Tryz.prog 104 W;go_simp;exact hK { g with mb:=W.heap.size } _ _ rfl (valO_mb _ hli hJ.d18 hJ.d19) (hJ.made hli)
   . intro l g W a hJ hli hdep hagr
     have e1:(a.tmps[1]?).getD undef=.pointer (some ⟨w.heap.size,0,none⟩):=hagr.oldD 1 rfl;clear hagr hdep;refine yT rfl fun K hK=>?_
     go_simp;exact hK g _ _ rfl (fun _ _=>rfl) (hJ.idle (i:=1) (by decide) (fun e=>by simp at e))
   . intro l g W a hJ hli hdep hagr
     have l0:=hdep ⟨0,.data⟩ (by simp) rfl;have l1:=hdep ⟨1,.data⟩ (by simp) rfl;have e4:=hagr.newD 0 4 rfl l0 (by show 4<19;decide);have e5:=hagr.newD 1 5 rfl l1 (by show 5<19;decide);simp only[jn] at e4 e5;clear hagr hdep;refine yT rfl fun K hK=>?_
     obtain⟨m,hm⟩:=(hJ.map l0).2;obtain⟨w',u,m',g'⟩:=hm.put yp ht 10 (knF w.heap.size);go_simp;exact hK g _ _ rfl (fun _ _=>rfl) (hJ.put2 l0 hm g' m')
   . intro l g W a hJ hli hdep hagr
     have e3:(a.tmps[3]?).getD undef=.func (.func 99) #[] #[]:=hagr.oldD 3 rfl;clear hagr hdep;refine yT rfl fun K hK=>?_
     go_simp;exact hK g _ _ rfl (fun _ _=>rfl) (hJ.idle (i:=3) (by decide) (fun e=>by simp at e))
   . intro l g W a hJ hli hdep hagr
     have e1:(a.tmps[1]?).getD undef=.pointer (some ⟨w.heap.size,0,none⟩):=hagr.oldD 1 rfl;clear hagr hdep;refine yT rfl fun K hK=>?_
     have c1:=(hJ.low.cell (p:=⟨w.heap.size,0,none⟩) hlt1).trans hc1;go_simp;exact hK g _ _ rfl (fun _ _=>rfl) (hJ.idle (i:=4) (by decide) (fun e=>by simp at e))
   . intro l g W a hJ hli hdep hagr
     have l4:=hdep ⟨4,.data⟩ (by simp) rfl;have e7:=hagr.newD 4 7 rfl l4 (by show 7<19;decide);simp only[jn] at e7;clear hagr hdep;refine yT rfl fun K hK=>?_
     go_simp;exact hK g _ _ rfl (fun _ _=>rfl) (hJ.idle (i:=5) (by decide) (fun e=>by simp at e))
   . intro l g W a hJ hli hdep hagr
     have l3:=hdep ⟨3,.data⟩ (by simp) rfl;have l5:=hdep ⟨5,.data⟩ (by simp) rfl;have e6:=hagr.newD 3 6 rfl l3 (by show 6<19;decide);have e8:=hagr.newD 5 8 rfl l5 (by show 8<19;decide);simp only[jn] at e6 e8;clear hagr hdep;refine yT rfl fun K hK=>?_
     unfold XK at *;go_simp;refine(vr 45 bw _).mono ?_;rintro e w' ⟨rfl,hq,hb⟩;exact hK { g with c1:=W.heap.size } _ _ rfl (valO_c1 _ hli) (hJ.call1 hli hb hq)
   . intro l g W a hJ hli hdep hagr
     have l0:=hdep ⟨0,.data⟩ (by simp) rfl;have l6:=hdep ⟨6,.data⟩ (by simp) rfl;have e4:=hagr.newD 0 4 rfl l0 (by show 4<19;decide);have e9:=hagr.newD 6 9 rfl l6 (by show 9<19;decide);simp only[jn] at e4 e9;clear hagr hdep;refine yT rfl fun K hK=>?_
     obtain⟨m,hm⟩:=(hJ.map l0).2;obtain⟨w',u,m',g'⟩:=hm.put yp ht 11 (grF g.c1);go_simp;exact hK g _ _ rfl (fun _ _=>rfl) (hJ.put7 l0 l6 hm g' m')
   . intro l g W a hJ hli hdep hagr
     have e3:(a.tmps[3]?).getD undef=.func (.func 99) #[] #[]:=hagr.oldD 3 rfl;clear hagr hdep;refine yT rfl fun K hK=>?_
     go_simp;exact hK g _ _ rfl (fun _ _=>rfl) (hJ.idle (i:=8) (by decide) (fun e=>by simp at e))
   . intro l g W a hJ hli hdep hagr
     have e1:(a.tmps[1]?).getD undef=.pointer (some ⟨w.heap.size,0,none⟩):=hagr.oldD 1 rfl;clear hagr hdep;refine yT rfl fun K hK=>?_
     have c1:=(hJ.low.cell (p:=⟨w.heap.size,0,none⟩) hlt1).trans hc1;go_simp;exact hK g _ _ rfl (fun _ _=>rfl) (hJ.idle (i:=9) (by decide) (fun e=>by simp at e))
   . intro l g W a hJ hli hdep hagr
     have l9:=hdep ⟨9,.data⟩ (by simp) rfl;have e11:=hagr.newD 9 11 rfl l9 (by show 11<19;decide);simp only[jn] at e11;clear hagr hdep;refine yT rfl fun K hK=>?_
     go_simp;exact hK g _ _ rfl (fun _ _=>rfl) (hJ.idle (i:=10) (by decide) (fun e=>by simp at e))
   . intro l g W a hJ hli hdep hagr
     have l8:=hdep ⟨8,.data⟩ (by simp) rfl;have l10:=hdep ⟨10,.data⟩ (by simp) rfl;have e10:=hagr.newD 8 10 rfl l8 (by show 10<19;decide);have e12:=hagr.newD 10 12 rfl l10 (by show 12<19;decide);simp only[jn] at e10 e12;clear hagr hdep;refine yT rfl fun K hK=>?_
     unfold XK at *;go_simp;refine(vr 46 bw _).mono ?_;rintro e w' ⟨rfl,hq,hb⟩;exact hK { g with c2:=W.heap.size } _ _ rfl (valO_c2 _ hli) (hJ.call2 hli hb hq)
   . intro l g W a hJ hli hdep hagr
     have l0:=hdep ⟨0,.data⟩ (by simp) rfl;have l11:=hdep ⟨11,.data⟩ (by simp) rfl;have e4:=hagr.newD 0 4 rfl l0 (by show 4<19;decide);have e13:=hagr.newD 11 13 rfl l11 (by show 13<19;decide);simp only[jn] at e4 e13;clear hagr hdep;refine yT rfl fun K hK=>?_
     obtain⟨m,hm⟩:=(hJ.map l0).2;obtain⟨w',u,m',g'⟩:=hm.put yp ht 12 (grF g.c2);go_simp;exact hK g _ _ rfl (fun _ _=>rfl) (hJ.put12 l0 l11 hm g' m')
   . intro l g W a hJ hli hdep hagr
     have e3:(a.tmps[3]?).getD undef=.func (.func 99) #[] #[]:=hagr.oldD 3 rfl;clear hagr hdep;refine yT rfl fun K hK=>?_
     go_simp;exact hK g _ _ rfl (fun _ _=>rfl) (hJ.idle (i:=13) (by decide) (fun e=>by simp at e))
   . intro l g W a hJ hli hdep hagr
     have e1:(a.tmps[1]?).getD undef=.pointer (some ⟨w.heap.size,0,none⟩):=hagr.oldD 1 rfl;clear hagr hdep;refine yT rfl fun K hK=>?_
     have c1:=(hJ.low.cell (p:=⟨w.heap.size,0,none⟩) hlt1).trans hc1;go_simp;exact hK g _ _ rfl (fun _ _=>rfl) (hJ.idle (i:=14) (by decide) (fun e=>by simp at e))
   . intro l g W a hJ hli hdep hagr
     have l14:=hdep ⟨14,.data⟩ (by simp) rfl;have e15:=hagr.newD 14 15 rfl l14 (by show 15<19;decide);simp only[jn] at e15;clear hagr hdep;refine yT rfl fun K hK=>?_
     go_simp;exact hK g _ _ rfl (fun _ _=>rfl) (hJ.idle (i:=15) (by decide) (fun e=>by simp at e))
   . intro l g W a hJ hli hdep hagr
     have l13:=hdep ⟨13,.data⟩ (by simp) rfl;have l15:=hdep ⟨15,.data⟩ (by simp) rfl;have e14:=hagr.newD 13 14 rfl l13 (by show 14<19;decide);have e16:=hagr.newD 15 16 rfl l15 (by show 16<19;decide);simp only[jn] at e14 e16;clear hagr hdep;refine yT rfl fun K hK=>?_
     unfold XK at *;go_simp;refine(vr 102 bw _).mono ?_;rintro e w' ⟨rfl,hq,hb⟩;exact hK { g with c3:=W.heap.size } _ _ rfl (valO_c3 _ hli) (hJ.call3 hli hb hq)
   . intro l g W a hJ hli hdep hagr
     have l0:=hdep ⟨0,.data⟩ (by simp) rfl;have l16:=hdep ⟨16,.data⟩ (by simp) rfl;have e4:=hagr.newD 0 4 rfl l0 (by show 4<19;decide);have e17:=hagr.newD 16 17 rfl l16 (by show 17<19;decide);simp only[jn] at e4 e17;clear hagr hdep;refine yT rfl fun K hK=>?_
     obtain⟨m,hm⟩:=(hJ.map l0).2;obtain⟨w',u,m',g'⟩:=hm.put yp ht 13 (grF g.c3);go_simp;exact hK g _ _ rfl (fun _ _=>rfl) (hJ.put17 l0 l16 hm g' m')
   . intro l g W a hJ hli hdep hagr
     have l0:=hdep ⟨0,.data⟩ (by simp) rfl;have e4:=hagr.newD 0 4 rfl l0 (by show 4<19;decide);simp only[jn] at e4;clear hagr hdep;refine yT rfl fun K hK=>?_
     go_simp;exact hK g _ _ rfl (fun _ _=>rfl) (hJ.idle (i:=18) (by decide) (fun _=>l0))
   . intro l g W a hJ hli hdep hagr
     have l18:=hdep ⟨18,.data⟩ (by simp) rfl;have e18:=hagr.newD 18 18 rfl l18 (by show 18<19;decide);simp only[jn] at e18;clear hagr hdep;refine yT rfl fun K hK=>?_
     have l0:=hJ.d18 l18;go_simp;exact hK g _ _ rfl (fun _ _=>rfl) (hJ.idle (i:=19) (by decide) (fun _=>l0))
 . intro l g W hall hJ
   rw[JC (D:=[some 4,some 5,none,some 6,some 7,some 8,some 9,none,some 10,some 11,some 12,some 13,none,some 14,some 15,some 16,some 17,none,some 18,some 2]) rfl];simp only[YN,putsL_nil,jn];obtain⟨hmb,m,hm⟩:=hJ.map (hall 0 (by decide));rw[hall 2 (by decide),hall 7 (by decide),hall 12 (by decide),hall 17 (by decide)] at hm;have HM:=zH hm;have HO:Hid (OpsAt W bw w.heap.size g.c1 g.c2 g.c3):=⟨Lb hJ.low hlt1 D0.out,hJ.q1 (hall 6 (by decide)),hJ.q2 (hall 11 (by decide)),hJ.q3 (hall 16 (by decide))⟩;have HL:=zH (Lc HB.out hJ.low);have hms:w.heap.size<=g.mb:=by have:=HB.out.size;omega
   clear hall hJ hm;go_simp;go_wp2_with fail;go_ret;exact⟨g.mb,m,g.c1,g.c2,g.c3,rfl,hms,HM.out,HO.out,HL.out⟩
end
section
open Go.RowKit Go.Shelf
attribute [local go_sem] Oper.semAt_some
theorem ZU(a b c:Int)(w:Ba):Calls Tryz.prog 133 #[.int .i64 a,.int .i64 b,.int .i64 c] w fun e w'=>e=.returned (.bool (decide (b<=a/\a<=c)))/\w'=w:=by
 have hd:∀x:Bool,x=decide (b<=a/\a<=c)->Ending.returned (.bool x)=.returned (.bool (decide (b<=a/\a<=c))):=fun x h=>by rw[h]
 go_enter Tryz.func133,Tryz.ntmps133
 by_cases h1:b<=a
 . by_cases h2:a<=c
   . have e:decide (b<=a/\a<=c)=true:=by simp[h1,h2]
     rw[e];clear hd e;go_wp2_with fail;go_ret;exact⟨rfl,rfl⟩
   . have e:decide (b<=a/\a<=c)=false:=by simp[h2]
     rw[e];clear hd e;go_wp2_with fail;go_ret;exact⟨rfl,rfl⟩
 . have e:decide (b<=a/\a<=c)=false:=by simp[h1]
   rw[e];clear hd e;go_wp2_with fail;go_ret;exact⟨rfl,rfl⟩
theorem sized2_any(n d:Nat)(w:Ba):Calls Tryz.prog 134 #[.int .i64 (n:Int),.int .i64 (d:Int)] w fun e w'=>e=.returned (.int .i64 (Z3 (n,d)))/\w'=w:=by
 by_cases h1:128<n
 . have e:Z3 (n,d)=5:=Lh h1
   have e1:(128:Int)<(n:Int):=by omega
   rw[e];go_enter Tryz.func134,Tryz.ntmps134;go_wp2_with fail;go_ret;exact⟨rfl,rfl⟩
 by_cases h2:24<d
 . have e:Z3 (n,d)=12:=by unfold Z3;rw[Lf h1,Lh h2]
   have e1:¬(128:Int)<(n:Int):=by omega
   have e2:(24:Int)<(d:Int):=by omega
   rw[e];go_enter Tryz.func134,Tryz.ntmps134;go_wp2_with fail;go_ret;exact⟨rfl,rfl⟩
 . have e:Z3 (n,d)=0:=by unfold Z3;rw[Lf h1,Lf h2]
   have e1:¬(128:Int)<(n:Int):=by omega
   have e2:¬(24:Int)<(d:Int):=by omega
   rw[e];go_enter Tryz.func134,Tryz.ntmps134;go_wp2_with fail;go_ret;exact⟨rfl,rfl⟩
theorem Y9(f:Fm)(R:Fm->Nat×Nat)(A:Bb)(c:Nat)(w:Ba)(hl:f.args.length<=1000000)(hb:(xF R f.args).1<=1000000/\(xF R f.args).2<=1000000)
  (hrec:RecAt w A f.args fun cs x X=>Calls Tryz.prog 135 #[.agg cs] X fun e w'=>e=.returned (.tuple #[.int .i64 ((R x).1:Int),.int .i64 ((R x).2:Int)])/\Below X.heap.size X w') :
  Calls Tryz.prog 135 #[.agg (f.vs A c)] w fun e w'=>e=.returned (.tuple #[.int .i64 ((xF R f.args).1:Int),.int .i64 (((xF R f.args).2+1:Nat):Int)])/\Below w.heap.size w w':=by
 obtain⟨w1,hw1,d0,hs1,hB⟩:=zm w (f.vs A c) 60;have HREC:=zH hrec;have HTK:=zH (fun k=>XV R f.args k);have HSN:=zH (fun k (h:k<f.args.length)=>(by rw[Lu h,XW]:xF R (f.args.take (k+1))=((xF R (f.args.take k)).1+(R f.args[k]).1,max (xF R (f.args.take k)).2 (R f.args[k]).2)));have HEND:Hid (xF R (f.args.take f.args.length)=xF R f.args):=by rw[Hid,LJ]
 have HHB:=zH hb;unfold Fm.vs at hw1 d0 HREC ⊢;obtain⟨l,hll⟩:=Ki f.args;rw[hll] at hw1 d0 HREC HTK HSN HEND HHB hl ⊢;obtain⟨T,hT⟩:=Ki (xF R l);rw[hT] at HTK HEND HHB ⊢;obtain⟨n,hn⟩:=Ki l.length;have HN:=zH hn;rw[hn] at hw1 d0 HEND hl ⊢;have HW1:=zH hw1;have HB:=zH hB;obtain⟨p0,p1,p2,p3,p4,p5,_⟩:=Kg d0;clear hw1 d0 hB hrec hb hll hT hn;go_enter Tryz.func135,Tryz.ntmps135;go_wp2_with fail;rw[HW1.out];go_wp2_with fail
 go_loopw [4,5,13] (fun a b i wr=>∃k:Nat,k<=n/\i=.int .i64 (k:Int)/\a=.int .i64 ((xF R (l.take k)).1:Int)/\b=.int .i64 ((xF R (l.take k)).2:Int)/\Hid (Below w1.heap.size w1 wr)) (fun _ _ i _=>n-(intOf i).toNat)
 case atStart=>exact⟨0,by omega,rfl,rfl,rfl,Lm _ _⟩
 case round=>
  obtain⟨k,hk,rfl,rfl,rfl,hbr⟩:=hrel;clear p0 p1 p2 p3 p4 p5 HW1;obtain⟨a,ha⟩:=Ki ((xF R (l.take k)).1);obtain⟨b,hb⟩:=Ki ((xF R (l.take k)).2)
  have ha6:a<=1000000/\b<=1000000:=by
   have h1:=HTK.out k;have h2:=HHB.out;omega
  by_cases hlt:k<n
  . have hkl:k<l.length:=by have:=HN.out;omega
    have hsn:=HSN.out k hkl;have htk:=HTK.out (k+1);obtain⟨bb,o,A',c',eA,hbb,hcell,hcall⟩:=HREC.out k hkl;subst eA;obtain⟨x,hx⟩:=Ki (l[k]);rw[hx] at hcell hcall hsn;obtain⟨Rx,hRx⟩:=Ki (R x);dsimp only at hcall;rw[hRx] at hcall hsn;rw[ha,hb] at hsn;have hE1:(xF R (l.take (k+1))).1=a+Rx.1:=by rw[hsn]
    have hE2:(xF R (l.take (k+1))).2=max b Rx.2:=by rw[hsn]
    have HE1:=zH hE1;have HE2:=zH hE2
    have hs6:a+Rx.1<=1000000/\max b Rx.2<=1000000:=by
     have h2:=HHB.out;omega
    obtain⟨xh,xl⟩:=x;obtain⟨h0,h1,h2,h3,h4⟩:=xh;have hc:∀j v,#[Value.int .i64 h0,.int .i64 h1,.int .i64 h2,.int .i64 h3,.int .i64 h4,.slice A' xl.length c'][j]?=some v->wr.cell? ⟨bb,o+k*6+j,none⟩=some v:=hcell wr (HB.out.trans (hbr.out.mono (by have:=HB.out.size;omega)));have z0:wr.cell? ⟨bb,o+k*6,none⟩=some (.int .i64 h0):=hc 0 _ rfl;have z1:wr.cell? ⟨bb,o+k*6+1,none⟩=some (.int .i64 h1):=hc 1 _ rfl;have z2:wr.cell? ⟨bb,o+k*6+2,none⟩=some (.int .i64 h2):=hc 2 _ rfl;have z3:wr.cell? ⟨bb,o+k*6+3,none⟩=some (.int .i64 h3):=hc 3 _ rfl;have z4:wr.cell? ⟨bb,o+k*6+4,none⟩=some (.int .i64 h4):=hc 4 _ rfl;have z5:wr.cell? ⟨bb,o+k*6+5,none⟩=some (.slice A' xl.length c'):=hc 5 _ rfl;have hk0:(0:Int)<=(k:Int):=by omega
    have hk1:(k:Int)<(n:Int):=by omega
    have hbw:bb<wr.heap.size:=by have:=hbr.out.size;have:=HB.out.size;omega
    have HC:=zH hcall;have HHR:=zH hbr.out;simp only[Fm.vs,Fm.args,Fm.h] at HC;clear hcell hcall hx hRx hsn htk hE1 hE2 hc hbr;go_upto_region 5 with fail
    obtain⟨W2,hW2,d2,hs2,hb2⟩:=zm wr #[.int .i64 h0,.int .i64 h1,.int .i64 h2,.int .i64 h3,.int .i64 h4,.slice A' xl.length c'] 60;rw[hW2];have hbs:=HB.out.size;have HB2:=zH (Lc HHR.out hb2);have HC2:=zH (HC.out W2 (HB.out.trans (HB2.out.mono hbs)));obtain⟨y0,y1,y2,y3,y4,y5,_⟩:=Kg d2;clear hW2 d2 hb2 z0 z1 z2 z3 z4 z5 HC;obtain⟨r1,r2⟩:=Rx;dsimp only at HC2 HE1 HE2 hs6;go_wp2_with fail;refine HC2.out.mono ?_;rintro e w3 ⟨rfl,hb3⟩;have HB3:=zH (Lc HB2.out hb3);have hw1:IntKind.i64.wrap ((a:Int)+(r1:Int))=((a+r1:Nat):Int):=by rw[Ll];omega
    have hmx:max (b:Int) (r2:Int)=((max b r2:Nat):Int):=by omega
    clear hb3 HC2 y0 y1 y2 y3 y4 y5;go_wp2_with fail
    go_roundw
    case rel=>exact⟨k+1,by omega,by go_num,by first | (rw[HE1.out];done) | (rw[HE1.out];go_num),by first | (rw[HE2.out];done) | (rw[HE2.out];go_num),HB3⟩
    case measure=>simp[intOf];omega
  . obtain rfl:k=n:=by omega
    have h1:Hid (a=T.1):=by rw[Hid,<-ha,HEND.out]
    have h2:Hid (b=T.2):=by rw[Hid,<-hb,HEND.out]
    have hBF:=zH (HB.out.trans (hbr.out.mono (by have:=HB.out.size;omega)));have hw1:IntKind.i64.wrap ((b:Int)+1)=((b+1:Nat):Int):=by rw[Ll];omega
    clear HTK HSN HEND HHB HREC;go_wp2_with fail
    go_ret2
    refine⟨?_,hBF.out⟩;show Ending.returned (.tuple #[.int .i64 ((xF R (l.take k)).1:Int),.int .i64 ((b:Int)+1)])=_;rw[<-h1.out,<-h2.out,ha];rfl
theorem Ql:∀(d:Nat) (f:Fm) (A:Bb) (c:Nat) (w:Ba),FsAt w w.heap.size d A f.args->(qg d f).1<=1000000 ->
  Calls Tryz.prog 135 #[.agg (f.vs A c)] w fun e w'=>e=.returned (.tuple #[.int .i64 ((qg d f).1:Int),.int .i64 ((qg d f).2:Int)])/\Below w.heap.size w w'
 | 0,f,A,c,w,hA,hb=>by
  have h0:f.args=[]:=hA;exact Y9 f (fun _=>(0,0)) A c w (by rw[h0];decide) (by rw[h0];decide) (RecAt.none hA)
 | d+1,f,A,c,w,hA,hb=>by
  have h1:(xF (qg d) f.args).1<=1000000:=hb;have h2:(xF (qg d) f.args).2+1<=(xF (qg d) f.args).1:=XX (d+1) f;have h3:=gB (qg d) (Yw d) f.args;refine Y9 f (qg d) A c w (by omega) (by omega) (RecAt.of hA fun x A' c' X hx hX=>Ql d x A' c' X hX ?_);exact LB (Yv (qg d) hx) h1
def qL(op:Int):List Nat:=if op=1\/op=5 then [1,3] else if op=2 then [3] else if op=3 then [1,2] else if op=4\/op=10 then [1] else if op=6 then [3] else if op=11\/op=12\/op=13 then [4] else []
def fldM(n:Nat)(op:Int):List Int:=if op=1\/op=5 then [(n:Int)-1,7] else if op=2 then [7] else if op=3 then [(n:Int)-1,(n:Int)-1] else if op=4\/op=10 then [(n:Int)-1] else if op=6 then [6] else if op=11\/op=12\/op=13 then [(2:Int)^n-1] else []
def jm(os:List Nat)(ms:List Int)(b:Nat)(w:Ba)(e:Ending)(w':Ba):Prop:=
 ∃A1 A2,e=.returned (.tuple #[.slice A1 os.length os.length,.slice A2 os.length os.length])/\Below w.heap.size w w' /\
  ∀k (h:k<os.length),∃g1 g2,A1=some ⟨g1,0,none⟩/\A2=some ⟨g2,0,none⟩/\w.heap.size<=g1/\w.heap.size<=g2/\g1<w'.heap.size/\g2<w'.heap.size/\w'.cell? ⟨g1,k,none⟩=some (.pointer (some ⟨b,os[k],none⟩))/\w'.cell? ⟨g2,k,none⟩=some (.int .i64 (ms.getD k 0))
theorem vU{w w':Ba}{b:Nat}{o1 o2:Nat}{m1 m2:Int}{t1 t2:TypeId}{g1 g2:Nat}(hb:Below w.heap.size w w')(h1:w.heap.size<=g1)(h2:w.heap.size<=g2)
  (d1:w'.heap[g1]?=some (.cells #[.pointer (some ⟨b,o1,none⟩),.pointer (some ⟨b,o2,none⟩)] t1 (0,0))) (d2:w'.heap[g2]?=some (.cells #[.int .i64 m1,.int .i64 m2] t2 (0,0))) :
  jm [o1,o2] [m1,m2] b w (.returned (.tuple #[.slice (some ⟨g1,0,none⟩) 2 2,.slice (some ⟨g2,0,none⟩) 2 2])) w':=by
 refine⟨_,_,rfl,hb,fun k hk=>⟨g1,g2,rfl,rfl,h1,h2,zj d1,zj d2,?_⟩⟩;have hk2:k<2:=hk;obtain rfl | rfl:k=0\/k=1:=by omega
 . exact⟨zh d1 0 rfl,zh d2 0 rfl⟩
 . exact⟨zh d1 1 rfl,zh d2 1 rfl⟩
theorem kj{w w':Ba}{b:Nat}{o1:Nat}{m1:Int}{t1 t2:TypeId}{g1 g2:Nat}(hb:Below w.heap.size w w')(h1:w.heap.size<=g1)(h2:w.heap.size<=g2)
  (d1:w'.heap[g1]?=some (.cells #[.pointer (some ⟨b,o1,none⟩)] t1 (0,0))) (d2:w'.heap[g2]?=some (.cells #[.int .i64 m1] t2 (0,0))) :
  jm [o1] [m1] b w (.returned (.tuple #[.slice (some ⟨g1,0,none⟩) 1 1,.slice (some ⟨g2,0,none⟩) 1 1])) w':=by
 refine⟨_,_,rfl,hb,fun k hk=>⟨g1,g2,rfl,rfl,h1,h2,zj d1,zj d2,?_⟩⟩;have hk2:k<1:=hk;obtain rfl:k=0:=by omega
 exact⟨zh d1 0 rfl,zh d2 0 rfl⟩
theorem j9(n:Nat)(hn:n<=5)(w:Ba):Calls Tryz.prog 191 #[.int .i64 (n:Int)] w fun e w'=>e=.returned (.int .i64 ((2:Int)^n-1))/\w'=w:=by
 obtain rfl | rfl | rfl | rfl | rfl | rfl:n=0\/n=1\/n=2\/n=3\/n=4\/n=5:=by omega
 all_goals
  go_enter Tryz.func191,Tryz.ntmps191;go_wp2;go_ret;exact⟨rfl,rfl⟩
theorem xD(w:Ba)(c1 c2:Array Value)(t1 t2:TypeId):(((w.alloc (.cells c1 t1)).alloc (.cells c2 t2)).heap[w.heap.size]?=some (.cells c1 t1 (0,0)))/\(((w.alloc (.cells c1 t1)).alloc (.cells c2 t2)).heap[w.heap.size+1]?=some (.cells c2 t2 (0,0)))/\Below w.heap.size w ((w.alloc (.cells c1 t1)).alloc (.cells c2 t2)):=by
 obtain⟨W,h,h1,h2,_,h3⟩:=yL w c1 c2 t1 t2;rw[h];exact⟨h1,h2,h3⟩
theorem fields_1(h:Fh)(A:Bb)(len c n:Nat)(hn:n<=5)(b:Nat)(w:Ba)(hb:w.heap[b]?=some (.cells #[.int .i64 h.op,.int .i64 h.p,.int .i64 h.o,.int .i64 h.v,.int .i64 h.g,.slice A len c] 60 (0,0)))(ho:h.op=1) :
  Calls Tryz.prog 175 #[.pointer (some ⟨b,0,none⟩),.int .i64 (n:Int)] w (jm [1,3] [(n:Int)-1,7] b w):=by
 have p0:=zh hb 0 rfl;have hbl:=zj hb;rw[ho] at p0;have hw1:IntKind.i64.wrap ((n:Int)-1)=(n:Int)-1:=by rw[Ll];omega
 clear hb ho;go_enter Pk,Pd;go_wp2_with fail;have hTT:(fun _:Ba=>True) w:=trivial
 go_region_held3 (fun _=>True) (exact trivial) (fail)
 all_goals
  go_wp2_with fail
  go_ret2
 all_goals
  first
  | (obtain ⟨H1, H2, H3⟩ := xD w #[.pointer (some ⟨b, 1, none⟩), .pointer (some ⟨b, 3, none⟩)] #[.int .i64 ((n : Int) - 1), .int .i64 (7)] 234 3
     exact vU H3.drew (by omega) (by omega) H1 H2)
  | (obtain ⟨H1, H2, H3⟩ := xD w #[.int .i64 ((n : Int) - 1), .int .i64 (7)] #[.pointer (some ⟨b, 1, none⟩), .pointer (some ⟨b, 3, none⟩)] 3 234
     exact vU H3.drew (by omega) (by omega) H2 H1)
theorem fields_5(h:Fh)(A:Bb)(len c n:Nat)(hn:n<=5)(b:Nat)(w:Ba)(hb:w.heap[b]?=some (.cells #[.int .i64 h.op,.int .i64 h.p,.int .i64 h.o,.int .i64 h.v,.int .i64 h.g,.slice A len c] 60 (0,0)))(ho:h.op=5) :
  Calls Tryz.prog 175 #[.pointer (some ⟨b,0,none⟩),.int .i64 (n:Int)] w (jm [1,3] [(n:Int)-1,7] b w):=by
 have p0:=zh hb 0 rfl;have hbl:=zj hb;rw[ho] at p0;have hw1:IntKind.i64.wrap ((n:Int)-1)=(n:Int)-1:=by rw[Ll];omega
 clear hb ho;go_enter Pk,Pd;go_wp2_with fail;have hTT:(fun _:Ba=>True) w:=trivial
 go_region_held3 (fun _=>True) (exact trivial) (fail)
 all_goals
  go_wp2_with fail
  go_ret2
 all_goals
  first
  | (obtain ⟨H1, H2, H3⟩ := xD w #[.pointer (some ⟨b, 1, none⟩), .pointer (some ⟨b, 3, none⟩)] #[.int .i64 ((n : Int) - 1), .int .i64 (7)] 234 3
     exact vU H3.drew (by omega) (by omega) H1 H2)
  | (obtain ⟨H1, H2, H3⟩ := xD w #[.int .i64 ((n : Int) - 1), .int .i64 (7)] #[.pointer (some ⟨b, 1, none⟩), .pointer (some ⟨b, 3, none⟩)] 3 234
     exact vU H3.drew (by omega) (by omega) H2 H1)
theorem fields_2(h:Fh)(A:Bb)(len c n:Nat)(hn:n<=5)(b:Nat)(w:Ba)(hb:w.heap[b]?=some (.cells #[.int .i64 h.op,.int .i64 h.p,.int .i64 h.o,.int .i64 h.v,.int .i64 h.g,.slice A len c] 60 (0,0)))(ho:h.op=2) :
  Calls Tryz.prog 175 #[.pointer (some ⟨b,0,none⟩),.int .i64 (n:Int)] w (jm [3] [7] b w):=by
 have p0:=zh hb 0 rfl;have hbl:=zj hb;rw[ho] at p0;have hw1:IntKind.i64.wrap ((n:Int)-1)=(n:Int)-1:=by rw[Ll];omega
 clear hb ho;go_enter Pk,Pd;go_wp2_with fail
 go_ret2
 obtain⟨H1,H2,H3⟩:=xD w #[.pointer (some ⟨b,3,none⟩)] #[.int .i64 (7)] 234 3;exact kj H3 (by omega) (by omega) H1 H2
theorem fields_3(h:Fh)(A:Bb)(len c n:Nat)(hn:n<=5)(b:Nat)(w:Ba)(hb:w.heap[b]?=some (.cells #[.int .i64 h.op,.int .i64 h.p,.int .i64 h.o,.int .i64 h.v,.int .i64 h.g,.slice A len c] 60 (0,0)))(ho:h.op=3) :
  Calls Tryz.prog 175 #[.pointer (some ⟨b,0,none⟩),.int .i64 (n:Int)] w (jm [1,2] [(n:Int)-1,(n:Int)-1] b w):=by
 have p0:=zh hb 0 rfl;have hbl:=zj hb;rw[ho] at p0;have hw1:IntKind.i64.wrap ((n:Int)-1)=(n:Int)-1:=by rw[Ll];omega
 clear hb ho;go_enter Pk,Pd;go_wp2_with fail;have hTT:(fun _:Ba=>True) w:=trivial
 go_region_held3 (fun _=>True) (exact trivial) (fail)
 all_goals
  go_wp2_with fail
  go_ret2
 all_goals
  first
  | (obtain ⟨H1, H2, H3⟩ := xD w #[.pointer (some ⟨b, 1, none⟩), .pointer (some ⟨b, 2, none⟩)] #[.int .i64 ((n : Int) - 1), .int .i64 ((n : Int) - 1)] 234 3
     exact vU H3.drew (by omega) (by omega) H1 H2)
  | (obtain ⟨H1, H2, H3⟩ := xD w #[.int .i64 ((n : Int) - 1), .int .i64 ((n : Int) - 1)] #[.pointer (some ⟨b, 1, none⟩), .pointer (some ⟨b, 2, none⟩)] 3 234
     exact vU H3.drew (by omega) (by omega) H2 H1)
theorem fields_4(h:Fh)(A:Bb)(len c n:Nat)(hn:n<=5)(b:Nat)(w:Ba)(hb:w.heap[b]?=some (.cells #[.int .i64 h.op,.int .i64 h.p,.int .i64 h.o,.int .i64 h.v,.int .i64 h.g,.slice A len c] 60 (0,0)))(ho:h.op=4) :
  Calls Tryz.prog 175 #[.pointer (some ⟨b,0,none⟩),.int .i64 (n:Int)] w (jm [1] [(n:Int)-1] b w):=by
 have p0:=zh hb 0 rfl;have hbl:=zj hb;rw[ho] at p0;have hw1:IntKind.i64.wrap ((n:Int)-1)=(n:Int)-1:=by rw[Ll];omega
 clear hb ho;go_enter Pk,Pd;go_wp2_with fail
 go_ret2
 obtain⟨H1,H2,H3⟩:=xD w #[.pointer (some ⟨b,1,none⟩)] #[.int .i64 ((n:Int)-1)] 234 3;exact kj H3 (by omega) (by omega) H1 H2
theorem fields_10(h:Fh)(A:Bb)(len c n:Nat)(hn:n<=5)(b:Nat)(w:Ba)(hb:w.heap[b]?=some (.cells #[.int .i64 h.op,.int .i64 h.p,.int .i64 h.o,.int .i64 h.v,.int .i64 h.g,.slice A len c] 60 (0,0)))(ho:h.op=10) :
  Calls Tryz.prog 175 #[.pointer (some ⟨b,0,none⟩),.int .i64 (n:Int)] w (jm [1] [(n:Int)-1] b w):=by
 have p0:=zh hb 0 rfl;have hbl:=zj hb;rw[ho] at p0;have hw1:IntKind.i64.wrap ((n:Int)-1)=(n:Int)-1:=by rw[Ll];omega
 clear hb ho;go_enter Pk,Pd;go_wp2_with fail
 go_ret2
 obtain⟨H1,H2,H3⟩:=xD w #[.pointer (some ⟨b,1,none⟩)] #[.int .i64 ((n:Int)-1)] 234 3;exact kj H3 (by omega) (by omega) H1 H2
theorem fields_6(h:Fh)(A:Bb)(len c n:Nat)(hn:n<=5)(b:Nat)(w:Ba)(hb:w.heap[b]?=some (.cells #[.int .i64 h.op,.int .i64 h.p,.int .i64 h.o,.int .i64 h.v,.int .i64 h.g,.slice A len c] 60 (0,0)))(ho:h.op=6) :
  Calls Tryz.prog 175 #[.pointer (some ⟨b,0,none⟩),.int .i64 (n:Int)] w (jm [3] [6] b w):=by
 have p0:=zh hb 0 rfl;have hbl:=zj hb;rw[ho] at p0;have hw1:IntKind.i64.wrap ((n:Int)-1)=(n:Int)-1:=by rw[Ll];omega
 clear hb ho;go_enter Pk,Pd;go_wp2_with fail
 go_ret2
 obtain⟨H1,H2,H3⟩:=xD w #[.pointer (some ⟨b,3,none⟩)] #[.int .i64 (6)] 234 3;exact kj H3 (by omega) (by omega) H1 H2
theorem fields_11(h:Fh)(A:Bb)(len c n:Nat)(hn:n<=5)(b:Nat)(w:Ba)(hb:w.heap[b]?=some (.cells #[.int .i64 h.op,.int .i64 h.p,.int .i64 h.o,.int .i64 h.v,.int .i64 h.g,.slice A len c] 60 (0,0)))(ho:h.op=11) :
  Calls Tryz.prog 175 #[.pointer (some ⟨b,0,none⟩),.int .i64 (n:Int)] w (jm [4] [(2:Int)^n-1] b w):=by
 have p0:=zh hb 0 rfl;have hbl:=zj hb;rw[ho] at p0;have hw1:IntKind.i64.wrap ((n:Int)-1)=(n:Int)-1:=by rw[Ll];omega
 have HE:=zH (fun W=>j9 n hn W);clear hb ho;go_enter Pk,Pd;go_wp2_with fail;have hTT:(fun _:Ba=>True) w:=trivial
 go_region_held3 (fun _=>True) (exact trivial) ((go_at_call 191;refine(HE.out _).mono ?_;rintro e w2 ⟨rfl,rfl⟩))
 all_goals
  go_wp2_with fail
  go_ret2
 all_goals
  first
  | (obtain ⟨H1, H2, H3⟩ := xD w #[.pointer (some ⟨b, 4, none⟩)] #[.int .i64 ((2 : Int) ^ n - 1)] 234 3
     exact kj H3.drew (by omega) (by omega) H1 H2)
  | (obtain ⟨H1, H2, H3⟩ := xD w #[.int .i64 ((2 : Int) ^ n - 1)] #[.pointer (some ⟨b, 4, none⟩)] 3 234
     exact kj H3.drew (by omega) (by omega) H2 H1)
theorem fields_12(h:Fh)(A:Bb)(len c n:Nat)(hn:n<=5)(b:Nat)(w:Ba)(hb:w.heap[b]?=some (.cells #[.int .i64 h.op,.int .i64 h.p,.int .i64 h.o,.int .i64 h.v,.int .i64 h.g,.slice A len c] 60 (0,0)))(ho:h.op=12) :
  Calls Tryz.prog 175 #[.pointer (some ⟨b,0,none⟩),.int .i64 (n:Int)] w (jm [4] [(2:Int)^n-1] b w):=by
 have p0:=zh hb 0 rfl;have hbl:=zj hb;rw[ho] at p0;have hw1:IntKind.i64.wrap ((n:Int)-1)=(n:Int)-1:=by rw[Ll];omega
 have HE:=zH (fun W=>j9 n hn W);clear hb ho;go_enter Pk,Pd;go_wp2_with fail;have hTT:(fun _:Ba=>True) w:=trivial
 go_region_held3 (fun _=>True) (exact trivial) ((go_at_call 191;refine(HE.out _).mono ?_;rintro e w2 ⟨rfl,rfl⟩))
 all_goals
  go_wp2_with fail
  go_ret2
 all_goals
  first
  | (obtain ⟨H1, H2, H3⟩ := xD w #[.pointer (some ⟨b, 4, none⟩)] #[.int .i64 ((2 : Int) ^ n - 1)] 234 3
     exact kj H3.drew (by omega) (by omega) H1 H2)
  | (obtain ⟨H1, H2, H3⟩ := xD w #[.int .i64 ((2 : Int) ^ n - 1)] #[.pointer (some ⟨b, 4, none⟩)] 3 234
     exact kj H3.drew (by omega) (by omega) H2 H1)
theorem fields_13(h:Fh)(A:Bb)(len c n:Nat)(hn:n<=5)(b:Nat)(w:Ba)(hb:w.heap[b]?=some (.cells #[.int .i64 h.op,.int .i64 h.p,.int .i64 h.o,.int .i64 h.v,.int .i64 h.g,.slice A len c] 60 (0,0)))(ho:h.op=13) :
  Calls Tryz.prog 175 #[.pointer (some ⟨b,0,none⟩),.int .i64 (n:Int)] w (jm [4] [(2:Int)^n-1] b w):=by
 have p0:=zh hb 0 rfl;have hbl:=zj hb;rw[ho] at p0;have hw1:IntKind.i64.wrap ((n:Int)-1)=(n:Int)-1:=by rw[Ll];omega
 have HE:=zH (fun W=>j9 n hn W);clear hb ho;go_enter Pk,Pd;go_wp2_with fail;have hTT:(fun _:Ba=>True) w:=trivial
 go_region_held3 (fun _=>True) (exact trivial) ((go_at_call 191;refine(HE.out _).mono ?_;rintro e w2 ⟨rfl,rfl⟩))
 all_goals
  go_wp2_with fail
  go_ret2
 all_goals
  first
  | (obtain ⟨H1, H2, H3⟩ := xD w #[.pointer (some ⟨b, 4, none⟩)] #[.int .i64 ((2 : Int) ^ n - 1)] 234 3
     exact kj H3.drew (by omega) (by omega) H1 H2)
  | (obtain ⟨H1, H2, H3⟩ := xD w #[.int .i64 ((2 : Int) ^ n - 1)] #[.pointer (some ⟨b, 4, none⟩)] 3 234
     exact kj H3.drew (by omega) (by omega) H2 H1)
theorem fields_no(h:Fh)(A:Bb)(len c n:Nat)(b:Nat)(w:Ba)(hb:w.heap[b]?=some (.cells #[.int .i64 h.op,.int .i64 h.p,.int .i64 h.o,.int .i64 h.v,.int .i64 h.g,.slice A len c] 60 (0,0)))(ho:¬(h.op=1\/h.op=5\/h.op=2\/h.op=3\/h.op=4\/h.op=10\/h.op=6\/h.op=11\/h.op=12\/h.op=13)) :
  Calls Tryz.prog 175 #[.pointer (some ⟨b,0,none⟩),.int .i64 (n:Int)] w (jm [] [] b w):=by
 have p0:=zh hb 0 rfl;have hbl:=zj hb;have n1:¬h.op=1:=by omega
 have n5:¬h.op=5:=by omega
 have n2:¬h.op=2:=by omega
 have n3:¬h.op=3:=by omega
 have n4:¬h.op=4:=by omega
 have n10:¬h.op=10:=by omega
 have n6:¬h.op=6:=by omega
 have n11:¬h.op=11:=by omega
 have n12:¬h.op=12:=by omega
 have n13:¬h.op=13:=by omega
 clear hb ho;go_enter Pk,Pd;go_wp2_with fail
 go_ret2
 exact⟨none,none,rfl,Lm _ _,fun k hk=>absurd hk (by simp)⟩
theorem fields_any(h:Fh)(A:Bb)(len c n:Nat)(hn:n<=5)(b:Nat)(w:Ba)(hb:w.heap[b]?=some (.cells #[.int .i64 h.op,.int .i64 h.p,.int .i64 h.o,.int .i64 h.v,.int .i64 h.g,.slice A len c] 60 (0,0))) :
  Calls Tryz.prog 175 #[.pointer (some ⟨b,0,none⟩),.int .i64 (n:Int)] w (jm (qL h.op) (fldM n h.op) b w):=by
 by_cases e1:h.op=1
 . have:=fields_1 h A len c n hn b w hb e1
   rw[e1];exact this
 by_cases e5:h.op=5
 . have:=fields_5 h A len c n hn b w hb e5
   rw[e5];exact this
 by_cases e2:h.op=2
 . have:=fields_2 h A len c n hn b w hb e2
   rw[e2];exact this
 by_cases e3:h.op=3
 . have:=fields_3 h A len c n hn b w hb e3
   rw[e3];exact this
 by_cases e4:h.op=4
 . have:=fields_4 h A len c n hn b w hb e4
   rw[e4];exact this
 by_cases e10:h.op=10
 . have:=fields_10 h A len c n hn b w hb e10
   rw[e10];exact this
 by_cases e6:h.op=6
 . have:=fields_6 h A len c n hn b w hb e6
   rw[e6];exact this
 by_cases e11:h.op=11
 . have:=fields_11 h A len c n hn b w hb e11
   rw[e11];exact this
 by_cases e12:h.op=12
 . have:=fields_12 h A len c n hn b w hb e12
   rw[e12];exact this
 by_cases e13:h.op=13
 . have:=fields_13 h A len c n hn b w hb e13
   rw[e13];exact this
 have h1:qL h.op=[]:=by unfold qL;simp[e1,e5,e2,e3,e4,e10,e6,e11,e12,e13]
 have h2:fldM n h.op=[]:=by unfold fldM;simp[e1,e5,e2,e3,e4,e10,e6,e11,e12,e13]
 rw[h1,h2];exact fields_no h A len c n b w hb (by omega)
theorem XO{w w':Ba}{b B:Nat}(h:Wrote (fun z=>z=b) w w')(hb:B<=b)(hl:B<=w.heap.size):Below B w w':=⟨h.os,h.tape,h.output,h.size,fun k hk=>h.block k (by omega) (by show ¬k=b;omega)⟩
def Fh.at(h:Fh)(a:Nat):Int:=if a=1 then h.p else if a=2 then h.o else if a=3 then h.v else h.g
def Fh.zero(h:Fh)(a:Nat):Fh:=if a=1 then { h with p:=0 } else if a=2 then { h with o:=0 } else if a=3 then { h with v:=0 } else { h with g:=0 }
def zF(h:Fh)(os:List Nat):Nat->Fh
 | 0=>h
 | k+1=>(zF h os k).zero (os.getD k 0)
def fcs(h:Fh)(A:Bb)(len c:Nat):Array Value:=#[.int .i64 h.op,.int .i64 h.p,.int .i64 h.o,.int .i64 h.v,.int .i64 h.g,.slice A len c]
theorem fcs_cell{w:Ba}{b:Nat}{h:Fh}{A:Bb}{len c:Nat}(hb:w.heap[b]?=some (.cells (fcs h A len c) 60 (0,0))){a:Nat}(h1:1<=a)(h4:a<=4):w.cell? ⟨b,a,none⟩=some (.int .i64 (h.at a)):=by
 obtain rfl | rfl | rfl | rfl:a=1\/a=2\/a=3\/a=4:=by omega
 . exact zh hb 1 rfl
 . exact zh hb 2 rfl
 . exact zh hb 3 rfl
 . exact zh hb 4 rfl
theorem fcs_set(h:Fh)(A:Bb)(len c:Nat){a:Nat}(h1:1<=a)(h4:a<=4):(fcs h A len c).set! a (.int .i64 0)=fcs (h.zero a) A len c:=by
 obtain rfl | rfl | rfl | rfl:a=1\/a=2\/a=3\/a=4:=by omega
 all_goals rfl
theorem fld_ok(op:Int):(qL op).length<=2/\(∀k (h:k<(qL op).length),1<=(qL op)[k]/\(qL op)[k]<=4):=by
 have key:∀l:List Nat,l∈[[1,3],[3],[1,2],[1],[4],[]]->l.length<=2/\∀k (h:k<l.length),1<=l[k]/\l[k]<=4:=by
  intro l hl;simp only[List.mem_cons,List.not_mem_nil,or_false] at hl
  have h2:(∀a∈l,1<=a/\a<=4)/\l.length<=2:=by
   rcases hl with rfl | rfl | rfl | rfl | rfl | rfl<;>decide
  exact⟨h2.2,fun k hk=>h2.1 _ (Ld hk)⟩
 refine key _ ?_;unfold qL
 repeat' split
 all_goals simp
theorem nod_prog{n:Nat}{h:Fh}{m:Nat}(h0:0<=h.op)(h17:h.op<=17)(hm:(m:Int)=arN h.op) :
  (∀k (hk:k<(qL h.op).length),((zF h (qL h.op) k).at (qL h.op)[k]<0\/(fldM n h.op).getD k 0<(zF h (qL h.op) k).at (qL h.op)[k])->kJ n h m=2) /\
  ((∀k (hk:k<(qL h.op).length),0<=(zF h (qL h.op) k).at (qL h.op)[k]/\(zF h (qL h.op) k).at (qL h.op)[k]<=(fldM n h.op).getD k 0) ->
   kJ n h m=if (zF h (qL h.op) (qL h.op).length).p≠0\/(zF h (qL h.op) (qL h.op).length).o≠0\/(zF h (qL h.op) (qL h.op).length).v≠0\/(zF h (qL h.op) (qL h.op).length).g≠0 then 3 else 0):=by
 obtain⟨op,p,o,v,g⟩:=h;dsimp only at h0 h17 hm ⊢;have e1:¬(op<0\/17<op):=by omega
 have e2:¬((m:Int)≠arN op):=by simp[hm]
 unfold kJ;dsimp only;rw[Lf e1,Lf e2];clear e1 e2 hm;have hl2:=(fld_ok op).1;obtain rfl | rfl | rfl | rfl | rfl | rfl | rfl | rfl | rfl | rfl | rfl | rfl | rfl | rfl | rfl | rfl | rfl | rfl:op=0\/op=1\/op=2\/op=3\/op=4\/op=5\/op=6\/op=7\/op=8\/op=9\/op=10\/op=11\/op=12\/op=13\/op=14\/op=15\/op=16\/op=17:=by omega
 all_goals
  refine⟨fun k hk hh=>?_,fun hh=>?_⟩
  . have hk2:k=0\/k=1:=by omega
    simp only[usP,usO,usV,usG,mxV];rcases hk2 with rfl | rfl
    all_goals
     simp[qL,fldM,zF,Fh.at,Fh.zero] at hk hh ⊢
     try omega
  . have h0:=hh 0
    have h1:=hh 1;simp only[usP,usO,usV,usG,mxV];clear hh;simp[qL,fldM,zF,Fh.at,Fh.zero] at h0 h1 ⊢
    try omega
theorem ZL(n:Nat)(_hn1:1<=n)(hn:n<=5)(f:Fm)(R:Fm->Int)(A:Bb)(c:Nat)(w:Ba)(hl:f.args.length<=1000000)
  (hrec:RecAt w A f.args fun cs x X=>Calls Tryz.prog 136 #[.agg cs,.int .i64 (n:Int)] X fun e w'=>e=.returned (.int .i64 (R x))/\Below X.heap.size X w') :
  Calls Tryz.prog 136 #[.agg (f.vs A c),.int .i64 (n:Int)] w fun e w'=>e=.returned (.int .i64 (nodS n R f))/\Below w.heap.size w w':=by
 obtain⟨w1,hw1,d0,hs1,hB⟩:=zm w (f.vs A c) 60;have HREC:=zH hrec;have HS1:=zH hs1;clear hs1;have HBT:=zH (fun a b c W=>ZU a b c W);obtain⟨⟨op,hp,ho,hv,hg⟩,l⟩:=f;obtain⟨E,hE⟩:=Ki (nodS n R (.mk ⟨op,hp,ho,hv,hg⟩ l));have HE:Hid (E=if kJ n ⟨op,hp,ho,hv,hg⟩ l.length≠0 then kJ n ⟨op,hp,ho,hv,hg⟩ l.length else XG (l.map R)):=hE.symm;rw[hE];simp only[Fm.vs,Fm.args,Fm.h] at hw1 d0 HREC hl HE ⊢;obtain⟨m,hm⟩:=Ki l.length;have HM:=zH hm;rw[hm] at hw1 d0 hl HE ⊢;have HW1:=zH hw1;have HB:=zH hB;have HD0:=zH d0;obtain⟨p0,p1,p2,p3,p4,p5,_⟩:=Kg d0;clear hw1 d0 hB hrec hm hE;go_enter Tryz.func136,Tryz.ntmps136;go_wp2_with fail;rw[HW1.out];go_wp2_with fail;refine(HBT.out _ _ _ _).mono ?_;rintro e w2 ⟨rfl,hw2⟩;obtain rfl:=hw2
 by_cases hop:0<=op/\op<=17
 case neg=>
  have e0:decide (0<=op/\op<=17)=false:=Li hop
  have hEE:Hid (E=1):=by
   have h1:kJ n ⟨op,hp,ho,hv,hg⟩ m=1:=Lh (by show op<0\/17<op;omega);rw[Hid,HE.out,h1];rfl
  clear HE HREC hop;go_wp2_with fail;go_ret;rw[hEE.out];exact⟨rfl,HB.out⟩
 have e0:decide (0<=op/\op<=17)=true:=Lk hop
 go_upto_block 0 with fail
 go_cut [0,5] from 14 (fun s0 s5 wx=>s0=.agg #[.int .i64 op,.int .i64 hp,.int .i64 ho,.int .i64 hv,.int .i64 hg,.slice A m c]/\s5=.int .i64 (arN op)/\wx=w2)
 case first=>
  clear HE HREC;obtain rfl | rfl | rfl | rfl | rfl | rfl | rfl | rfl | rfl | rfl | rfl | rfl | rfl | rfl | rfl | rfl | rfl | rfl:op=0\/op=1\/op=2\/op=3\/op=4\/op=5\/op=6\/op=7\/op=8\/op=9\/op=10\/op=11\/op=12\/op=13\/op=14\/op=15\/op=16\/op=17:=by omega
  all_goals
   go_wp2_with fail
   go_meet
   exact⟨rfl,rfl,rfl⟩
 case rest=>
  obtain⟨rfl,rfl,rfl⟩:=hcut
  by_cases hm:(m:Int)=arN op
  case neg=>
   have hEE:Hid (E=15):=by
    have h1:kJ n ⟨op,hp,ho,hv,hg⟩ m=15:=by unfold kJ;rw[Lf (by show ¬(op<0\/17<op);omega),Lh hm]
    rw[Hid,HE.out,h1];rfl
   have e1:((m:Int) != arN op)=true:=by simpa using hm
   clear HE HREC hop;go_wp2_with fail;go_ret;rw[hEE.out];exact⟨rfl,HB.out⟩
  have e1:((m:Int) != arN op)=false:=by simpa using hm
  go_upto_region 20 with fail
  obtain⟨W2,hW2,d2,hs2,hb2⟩:=zm wc #[.int .i64 op,.int .i64 hp,.int .i64 ho,.int .i64 hv,.int .i64 hg,.slice A m c] 60;rw[hW2];have hBs:=HB.out.size;have HS2:=zH hs2;clear hs2;have HB2:=zH (HB.out.trans (hb2.mono hBs));have HF:=zH (fields_any ⟨op,hp,ho,hv,hg⟩ A m c n hn wc.heap.size W2 d2);obtain⟨hfl,hfo⟩:=fld_ok op;obtain⟨hN2,hN3⟩:=nod_prog (n:=n) (h:=⟨op,hp,ho,hv,hg⟩) (m:=m) hop.1 hop.2 hm;have HD0:=zH (La hb2 HD0.out);have HD2:=zH d2;dsimp only at HF hN2 hN3 hfl hfo
  revert HF hN2 hN3 hfl hfo
  generalize qL op=os
  generalize fldM n op=ms
  intro HF hfl hfo hN2 hN3;have HN2:=zH hN2;have HN3:=zH hN3;have HFO:=zH hfo;unfold jm at HF;obtain⟨q,hq⟩:=Ki os.length;have HQ:=zH hq;rw[hq] at hfl;simp only[hq] at HF;clear hW2 d2 hb2 hN2 hN3 hfo p0 p1 p2 p3 p4 p5 e0 e1 hm;go_wp2_with fail;refine HF.out.mono ?_;rintro e W3 ⟨A1,A2,rfl,hb3,hcells⟩;have hs3:=hb3.size;have HB3:=zH (HB2.out.trans (hb3.mono (by have:=HS2.out;omega)));have HCL:=zH hcells;have HD0:=zH (La hb3 HD0.out);have HD3:Hid (W3.heap[wc.heap.size]?=some (.cells (fcs (zF ⟨op,hp,ho,hv,hg⟩ os 0) A m c) 60 (0,0))):=La hb3 HD2.out;have HR3:Hid (∀X,Wrote (fun z=>z=wc.heap.size) W3 X->X.heap[w.heap.size]?=some (.cells #[.int .i64 op,.int .i64 hp,.int .i64 ho,.int .i64 hv,.int .i64 hg,.slice A m c] 60 (0,0))):=fun X hX=>(hX.block _ (zj HD0.out) (by have:=HS1.out;omega)).trans HD0.out
  clear hb3 hcells HF HD2 HD0;go_wp2_with fail
  go_loopw [45] (fun i wr=>∃k:Nat,k<=q/\i=.int .i64 (k:Int)/\Hid (∀j (hj:j<os.length),j<k->0<=(zF ⟨op,hp,ho,hv,hg⟩ os j).at os[j]/\(zF ⟨op,hp,ho,hv,hg⟩ os j).at os[j]<=ms.getD j 0)/\Hid (wr.heap[wc.heap.size]?=some (.cells (fcs (zF ⟨op,hp,ho,hv,hg⟩ os k) A m c) 60 (0,0)))/\Hid (Wrote (fun z=>z=wc.heap.size) W3 wr)) (fun i _=>q-(intOf i).toNat)
  case atStart=>exact⟨0,by omega,rfl,fun j _ h=>absurd h (by omega),HD3,Wrote.refl _ _⟩
  case round=>
   obtain⟨k,hk,rfl,hgood,hZ,hWr⟩:=hrel;clear HD3
   by_cases hkq:k<q
   . have hko:k<os.length:=by have:=HQ.out;omega
     obtain⟨g1,g2,rfl,rfl,hg1,hg2,hl1,hl2,c1,c2⟩:=HCL.out k (by have:=HQ.out;omega);obtain⟨ha1,ha4⟩:=HFO.out k hko;have hE2:=HN2.out k hko;obtain⟨a,ha⟩:=Ki (os[k]);have hga:os.getD k 0=a:=by rw[zn hko];exact ha
     obtain⟨Z,hZZ⟩:=Ki (zF ⟨op,hp,ho,hv,hg⟩ os k);have hZ1:zF ⟨op,hp,ho,hv,hg⟩ os (k+1)=Z.zero a:=by rw[zF,hZZ,hga]
     obtain⟨mx,hmx⟩:=Ki (ms.getD k 0)
     have HGK:Hid (0<=Z.at a/\Z.at a<=mx->∀j (hj:j<os.length),j<k+1->0<=(zF ⟨op,hp,ho,hv,hg⟩ os j).at os[j]/\(zF ⟨op,hp,ho,hv,hg⟩ os j).at os[j]<=ms.getD j 0):=fun h j hj hjk=>by
      by_cases e:j=k
      . subst e;rw[hZZ,ha,hmx];exact h
      . exact hgood.out j hj (by omega)
     simp only[ha,hZZ,hmx] at hE2 c1 c2 ha1 ha4;rw[hZZ] at hZ;have u1:=(LE (a:=⟨g1,k,none⟩) (hWr.out.block g1 hl1 (by show ¬g1=wc.heap.size;have:=HS2.out;omega))).trans c1;have u2:=(LE (a:=⟨g2,k,none⟩) (hWr.out.block g2 hl2 (by show ¬g2=wc.heap.size;have:=HS2.out;omega))).trans c2;have z0:=fcs_cell hZ.out ha1 ha4;have zf:=zi hZ.out a;have zl:=zj hZ.out;have hset:=jX hZ.out a (.int .i64 0);rw[fcs_set Z A m c ha1 ha4,<-hZ1] at hset;have HST:=zH hset.1;obtain⟨y,hy⟩:=Ki (Z.at a);rw[hy] at z0;simp only[hy] at HGK hE2;have HE2:=zH hE2;have hk0:(0:Int)<=(k:Int):=by omega
     have hk1:(k:Int)<(q:Int):=by omega
     have hWn:Hid (Wrote (fun z=>z=wc.heap.size) W3 (wr.setCell ⟨wc.heap.size,a,none⟩ (.int .i64 0)).drew):=(hWr.out.trans (Wrote.of_grown (zU wr wc.heap.size a _) (fun z e _=>by cases e;rfl)) (fun _ _ h=>h)).trans (Wrote.of_below ((Lm _ _).drew)) (fun _ _ h=>h);have HBY:Hid (∃bt:Bool,(bt=true↔(0<=y/\y<=mx))/\∀W,Calls Tryz.prog 133 #[.int .i64 y,.int .i64 0,.int .i64 mx] W fun e w'=>e=.returned (.bool bt)/\w'=W):=⟨_,by simp,fun W=>HBT.out y 0 mx W⟩;obtain⟨bt,hbt,hcb⟩:=HBY.out;have HCB:=zH hcb;have HBV:=zH hbt;clear HBY hcb hbt;clear c1 c2 hZ hset ha hga hZZ hZ1 hmx hgood hy hE2;go_upto_region 24 with fail
     refine zx [(0,true),(1,true),(2,true),(3,true),(4,true),(5,true),(6,true),(7,false),(8,true)] (fun X=>X=wr.drew) (by kernel_rfl) (by kernel_rfl) rfl ?_
     repeat
      apply zy rfl
      . rintro K' hK' X rfl
        go_simp;exact hK'
     refine zA rfl ?_;intro K' hK';go_simp;refine(HCB.out _).mono ?_;rintro e w5 ⟨rfl,rfl⟩;refine hK' _ _ rfl ?_;clear hK' K'
     repeat
      apply zy rfl
      . rintro K' hK' X rfl
        go_simp;exact hK'
     refine zL ?_;clear HCB
     cases bt with
     | false=>
      have hEE:Hid (E=2):=by
       have h1:=HE2.out (by
        have:=HBV.out;simp at this
        omega)
       rw[Hid,HE.out,h1];rfl
      have hBF:Hid (Below w.heap.size w wr.drew):=(HB3.out.trans (XO hWr.out (by omega) (by have:=HB3.out.size;omega))).drew;clear HE2 HE HREC HBV HGK HST hWn hWr;go_wp2_with fail;go_ret;rw[hEE.out];exact⟨rfl,hBF.out⟩
     | true=>
     have HG2:=zH (HGK.out (HBV.out.1 rfl));have HST2:Hid ((wr.setCell ⟨wc.heap.size,a,none⟩ (.int .i64 0)).drew.heap[wc.heap.size]?=some (.cells (fcs (zF ⟨op,hp,ho,hv,hg⟩ os (k+1)) A m c) 60 (0,0))):=HST.out;clear HE2 HBV HGK HST hWr;go_wp2_with fail
     go_roundw
     case rel=>exact⟨k+1,by omega,by go_num,HG2,HST2,hWn⟩
     case measure=>simp[intOf];omega
   . obtain rfl:q=k:=by omega
     have hNE:=HN3.out fun j hj=>hgood.out j hj (by have:=HQ.out;omega)
     rw[HQ.out] at hNE;obtain⟨⟨zo0,zp,zo,zv,zg⟩,hZZ⟩:∃Z,zF ⟨op,hp,ho,hv,hg⟩ os q=Z:=⟨_,rfl⟩;rw[hZZ] at hNE hZ;dsimp only at hNE;have z1:wr.cell? ⟨wc.heap.size,1,none⟩=some (.int .i64 zp):=zh hZ.out 1 rfl;have z2:wr.cell? ⟨wc.heap.size,2,none⟩=some (.int .i64 zo):=zh hZ.out 2 rfl;have z3:wr.cell? ⟨wc.heap.size,3,none⟩=some (.int .i64 zv):=zh hZ.out 3 rfl;have z4:wr.cell? ⟨wc.heap.size,4,none⟩=some (.int .i64 zg):=zh hZ.out 4 rfl;have HNE:=zH hNE;have hBF:Hid (Below w.heap.size w wr):=HB3.out.trans (XO hWr.out (by omega) (by have:=HB3.out.size;omega));have HD5:=zH (HR3.out wr hWr.out);clear hNE hZZ hZ hgood HN2 HN3 HFO HCL HR3 hWr hkq hk
     by_cases hnz:zp≠0\/zo≠0\/zv≠0\/zg≠0
     case pos=>
      have hEE:Hid (E=3):=by
       have h1:=HNE.out;rw[Lh hnz] at h1;rw[Hid,HE.out,h1];rfl
      clear HE HREC HNE
      by_cases i1:zp=0
      . by_cases i2:zo=0
        . by_cases i3:zv=0
          . have i4:¬zg=0:=by omega
            clear hnz;go_wp2_with fail;go_ret;rw[hEE.out];exact⟨rfl,hBF.out⟩
          . clear hnz
            go_wp2_with fail;go_ret;rw[hEE.out];exact⟨rfl,hBF.out⟩
        . clear hnz
          go_wp2_with fail;go_ret;rw[hEE.out];exact⟨rfl,hBF.out⟩
      . clear hnz
        go_wp2_with fail;go_ret;rw[hEE.out];exact⟨rfl,hBF.out⟩
     have HE9:Hid (E=XG (l.map R)):=by
      have h1:=HNE.out;rw[Lf hnz] at h1;rw[Hid,HE.out,h1];rfl
     obtain rfl:zp=0:=by omega
     obtain rfl:zo=0:=by omega
     obtain rfl:zv=0:=by omega
     obtain rfl:zg=0:=by omega
     have p5:=zh HD5.out 5 rfl;clear hnz HE HNE HD5;go_wp2_with fail
     go_loopw [83] (fun i wx=>∃k:Nat,k<=m/\i=.int .i64 (k:Int)/\Hid (∀j (hj:j<l.length),j<k->R l[j]=0)/\Hid (Below w.heap.size w wx)) (fun i _=>m-(intOf i).toNat)
     case atStart=>exact⟨0,by omega,rfl,fun j _ h=>absurd h (by omega),hBF⟩
     case round=>
      obtain⟨k,hk,rfl,hzero,hbr⟩:=hrel;clear z1 z2 z3 z4 p5 hBF
      by_cases hlt:k<m
      . have hkl:k<l.length:=by have:=HM.out;omega
        obtain⟨bb,o,A',c',eA,hbb,hcell,hcall⟩:=HREC.out k hkl;subst eA;obtain⟨x,hx⟩:=Ki (l[k]);have hsn:Hid (R l[k]=R x):=by rw[Hid,hx]
        rw[hx] at hcell hcall;obtain⟨Rx,hRx⟩:=Ki (R x);dsimp only at hcall;simp only[hRx] at hcall hsn;obtain⟨⟨h0,h1,h2,h3,h4⟩,xl⟩:=x;have hc:∀j v,#[Value.int .i64 h0,.int .i64 h1,.int .i64 h2,.int .i64 h3,.int .i64 h4,.slice A' xl.length c'][j]?=some v->wr.cell? ⟨bb,o+k*6+j,none⟩=some v:=hcell wr hbr.out;have z0:wr.cell? ⟨bb,o+k*6,none⟩=some (.int .i64 h0):=hc 0 _ rfl;have z1:wr.cell? ⟨bb,o+k*6+1,none⟩=some (.int .i64 h1):=hc 1 _ rfl;have z2:wr.cell? ⟨bb,o+k*6+2,none⟩=some (.int .i64 h2):=hc 2 _ rfl;have z3:wr.cell? ⟨bb,o+k*6+3,none⟩=some (.int .i64 h3):=hc 3 _ rfl;have z4:wr.cell? ⟨bb,o+k*6+4,none⟩=some (.int .i64 h4):=hc 4 _ rfl;have z5:wr.cell? ⟨bb,o+k*6+5,none⟩=some (.slice A' xl.length c'):=hc 5 _ rfl;have hk0:(0:Int)<=(k:Int):=by omega
        have hk1:(k:Int)<(m:Int):=by omega
        have hbw:bb<wr.heap.size:=by have:=hbr.out.size;omega
        have HC:=zH hcall;simp only[Fm.vs,Fm.args,Fm.h] at HC;clear hcell hcall hx hRx hc;go_upto_region 33 with fail
        obtain⟨W5,hW5,d5,hs5,hb5⟩:=zm wr #[.int .i64 h0,.int .i64 h1,.int .i64 h2,.int .i64 h3,.int .i64 h4,.slice A' xl.length c'] 60;rw[hW5];have hbs:=hbr.out.size;have HB5:=zH (hbr.out.trans (hb5.mono hbs));have HC2:=zH (HC.out W5 HB5.out);obtain⟨y0,y1,y2,y3,y4,y5,_⟩:=Kg d5;clear hW5 d5 hb5 z0 z1 z2 z3 z4 z5 HC hs5;go_wp2_with fail;refine HC2.out.mono ?_;rintro e w6 ⟨rfl,hb6⟩;have HB6:=zH (Lc HB5.out hb6);clear hb6 HC2 y0 y1 y2 y3 y4 y5
        by_cases hr:Rx=0
        · have hz2 : Hid (∀ j (hj : j < l.length), j < k + 1 → R l[j] = 0) := fun j hj hjk => by
           by_cases e:j=k
           . subst e;rw[hsn.out];exact hr
           . exact hzero.out j hj (by omega)
          have er:(Rx != 0)=false:=by simpa using hr
          subst hr;clear hsn hzero;go_wp2_with fail
          go_roundw
          case rel=>exact⟨k+1,by omega,by go_num,hz2,HB6⟩
          case measure=>simp[intOf];omega
        · have hEE : Hid (E = Rx) := by
           rw[Hid,HE9.out];refine(ffsE_at (l:=l.map R) (k:=k) (by simpa using hkl) (fun j hj hjk=>?_) ?_).trans ?_
           . rw[LC];exact hzero.out j (by simpa using hj) hjk
           . rw[LC,hsn.out];exact hr
           . rw[LC,hsn.out]
          have er:(Rx != 0)=true:=by simpa using hr
          clear hsn hzero HE9;go_wp2_with fail;go_ret;rw[hEE.out];exact⟨rfl,HB6.out⟩
      . obtain rfl:m=k:=by omega
        have hEE:Hid (E=0):=by
         rw[Hid,HE9.out];refine ffsE_none fun e he=>?_
         obtain⟨x,hx,rfl⟩:=LY.1 he;obtain⟨j,hj,rfl⟩:=LQ hx;exact hzero.out j hj (by have:=HM.out;omega)
        clear HE9 hzero;go_wp2_with fail;go_ret;rw[hEE.out];exact⟨rfl,hbr.out⟩
theorem Xa(n:Nat)(hn1:1<=n)(hn:n<=5):∀(d:Nat) (f:Fm) (A:Bb) (c:Nat) (w:Ba),FsAt w w.heap.size d A f.args->(qg d f).1<=1000000 ->
  Calls Tryz.prog 136 #[.agg (f.vs A c),.int .i64 (n:Int)] w fun e w'=>e=.returned (.int .i64 (jI n d f))/\Below w.heap.size w w'
 | 0,f,A,c,w,hA,_=>by
  have h0:f.args=[]:=hA;exact ZL n hn1 hn f (fun _=>0) A c w (by rw[h0];decide) (RecAt.none hA)
 | d+1,f,A,c,w,hA,hb=>by
  have h1:(xF (qg d) f.args).1<=1000000:=hb;have h3:=gB (qg d) (Yw d) f.args;exact ZL n hn1 hn f (jI n d) A c w (by omega) (RecAt.of hA fun x A' c' X hx hX=>Xa n hn1 hn d x A' c' X hX (LB (Yv (qg d) hx) h1))
theorem checkF_any(n:Int)(d:Nat)(f:Fm)(A:Bb)(c:Nat)(w:Ba)(hA:FsAt w w.heap.size d A f.args)(hb:(qg d f).1<=1000000) :
  Calls Tryz.prog 95 #[.agg (f.vs A c),.int .i64 n] w fun e w'=>e=.returned (.int .i64 (je n d f))/\Below w.heap.size w w':=by
 obtain⟨w1,hw1,d0,hs1,hB⟩:=zm w (f.vs A c) 60;have HBT:=zH (fun a b c W=>ZU a b c W);have HSZ:=zH (fun a b W=>sized2_any a b W);have HA:=zH hA;have HFS:=zH (fun (X:Ba) (hX:Below w.heap.size w X)=>Ql d f A c X ((hA.keep hX).more hX.size) hb);have HFN:=zH (fun (k:Nat) (h1:1<=k) (h5:k<=5) (X:Ba) (hX:Below w.heap.size w X)=>Xa k h1 h5 d f A c X ((hA.keep hX).more hX.size) hb);have HE:Hid (je n d f=if n<1\/5<n then 2 else if Z3 (qg d f)≠0 then Z3 (qg d f) else jI n.toNat d f):=rfl;obtain⟨E,hE⟩:=Ki (je n d f);rw[hE] at HE ⊢;obtain⟨⟨z1,z2⟩,hz⟩:∃z,qg d f=z:=⟨_,rfl⟩;rw[hz] at HFS HE;unfold Fm.vs at hw1 d0 HFS HFN ⊢;have HW1:=zH hw1;have HB:=zH hB;have HD0:=zH d0;clear hw1 d0 hB hE hA hb hz hs1;have HBY:Hid (∃bt:Bool,(bt=true↔(1<=n/\n<=5))/\∀W,Calls Tryz.prog 133 #[.int .i64 n,.int .i64 1,.int .i64 5] W fun e w'=>e=.returned (.bool bt)/\w'=W):=⟨_,by simp,fun W=>HBT.out n 1 5 W⟩;obtain⟨bt,hbt,hcb⟩:=HBY.out;have HCB:=zH hcb;have HBV:=zH hbt;clear HBY hcb hbt;go_enter Tryz.func95,Tryz.ntmps95;go_wp2_with fail;rw[HW1.out];go_wp2_with fail;refine(HCB.out _).mono ?_;rintro e w2 ⟨rfl,hw2⟩;obtain rfl:=hw2;clear HCB
 cases bt with
 | false=>
  have hEE:Hid (E=2):=by
   have:=HBV.out;simp at this;rw[Hid,HE.out,Lh (by omega)]
  clear HE HBV HFS HFN;go_wp2_with fail;go_ret;rw[hEE.out];exact⟨rfl,HB.out⟩
 | true=>
 have hn:=HBV.out.1 rfl;obtain⟨k,rfl⟩:=Lr (show 0<=n by omega);have HE2:=zH (HE.out.trans (Lf (by omega)));rw[Lo] at HE2;have HFN2:=zH (HFN.out k (by omega) (by omega));have HC:=zH (HFS.out w2 HB.out);obtain⟨p0,p1,p2,p3,p4,p5,_⟩:=Kg HD0.out;clear HE HBV HFS HFN hn;go_wp2_with fail;refine HC.out.mono ?_;rintro e w3 ⟨rfl,hb3⟩;have HB3:=zH (Lc HB.out hb3);have HD3:=zH (La hb3 HD0.out);have HC2:=zH (HSZ.out z1 z2 w3);obtain⟨r,hr⟩:=Ki (Z3 (z1,z2));rw[hr] at HC2 HE2;clear hb3 HC p0 p1 p2 p3 p4 p5 HSZ hr HD0;go_wp2_with fail;refine HC2.out.mono ?_;rintro e w4 ⟨rfl,hw4⟩;obtain rfl:=hw4;clear HC2
 by_cases h0:r=0
 . subst h0
   have HC:=zH (HFN2.out w4 HB3.out);have HE3:Hid (E=jI k d f):=HE2.out.trans (Lf (by simp));obtain⟨p0,p1,p2,p3,p4,p5,_⟩:=Kg HD3.out;clear HE2 HFN2;go_wp2_with fail;refine HC.out.mono ?_;rintro e w5 ⟨rfl,hb5⟩;have HB5:=zH (Lc HB3.out hb5);clear hb5 HC p0 p1 p2 p3 p4 p5;go_wp2_with fail;go_ret;rw[HE3.out];exact⟨rfl,HB5.out⟩
 . have HE3:Hid (E=r):=HE2.out.trans (Lh h0)
   have e0:(r != 0)=true:=by simpa using h0
   clear HE2 HFN2;go_wp2_with fail;go_ret;rw[HE3.out];exact⟨rfl,HB3.out⟩
theorem Xe(n:Int)(d:Nat)(f:Fm)(A:Bb)(c:Nat)(w:Ba)(hA:FsAt w w.heap.size d A f.args)(hb:(qg d f).1<=1000000) :
  Calls Tryz.prog 58 #[.agg (f.vs A c),.int .i64 n] w fun e w'=>e=.returned (.int .i64 (je n d f))/\Below w.heap.size w w':=by
 obtain⟨w1,hw1,d0,hs1,hB⟩:=zm w (f.vs A c) 60;have HC:=zH (checkF_any n d f A c w1 ((hA.keep hB).more hB.size) hb);unfold Fm.vs at hw1 d0 HC ⊢;have HW1:=zH hw1;have HB:=zH hB;obtain⟨p0,p1,p2,p3,p4,p5,_⟩:=Kg d0;clear hw1 d0 hB hA hb hs1;go_enter Tryz.func58,Tryz.ntmps58;go_wp2_with fail;rw[HW1.out];go_wp2_with fail;refine HC.out.mono ?_;rintro e w2 ⟨rfl,hb2⟩;have HB2:=zH (Lc HB.out hb2);clear hb2 HC p0 p1 p2 p3 p4 p5;go_wp2_with fail;go_ret;exact⟨rfl,HB2.out⟩
end
end Go.Proofs.YtjmckgoegfipeaaGreatDoor
