/- Parts OpenP7 Ok37 Sc37. -/
import Derived.Test.YtjmckgoegfipeaaGreatDoorPf
import Derived.Test.YtjmckgoegfipeaaGreatDoorProg
import Derived.Test.YtjmckgoegfipeaaGreatDoorPi
import Derived.Test.YtjmckgoegfipeaaGreatDoorPj
import Derived.Test.YtjmckgoegfipeaaGreatDoorPg
import Derived.Test.YtjmckgoegfipeaaGreatDoorPh

namespace Go.Proofs.YtjmckgoegfipeaaGreatDoor
abbrev RB:=@Go.Proofs.Tryz.underlying70
abbrev P5:=@Int.ofNat_tmod
set_option maxRecDepth 100000
set_option maxHeartbeats 4000000
section
open Go.ChangeShapes Go.WideShapes Go.ChangeAt Go.RowKit Go.Deep
theorem wT{k:IntKind}{i:Int}(hk:k.min=0)(h:(Lit.int k i).wf=true):∃n:Nat,i=(n:Int)/\(n:Int)<=k.max:=by
 unfold Lit.wf at h;simp only[Bool.and_eq_true,decide_eq_true_iff] at h;obtain⟨n,hn⟩:=Lr (by omega:0<=i);exact⟨n,hn,by omega⟩
theorem JP{n:Nat}(h:(n:Int)<=IntKind.max .u8):n<256:=by
 have m8:IntKind.max .u8=255:=by decide
 omega
section
variable {H:Type} {enc:TypeId×Value->H} {W:Ba} {base:Nat} {spare:Nat->Bool} {held:Bool}
theorem fits_arr{P:Program}{n:Nat}{e t:TypeId}{parts:List (DataW H)}(ht:P.underlying t=some (.array n e))(h:xK P t (.agg parts)){d:DataW H}(hd:d∈parts):xK P e d:=by
 unfold xK at h ⊢;refine LG.2 fun n hn=>LG.1 h n ?_
 simp only[DataW.weights,ht];exact kE hd n hn
theorem okWide_arr{P:Program}{w:Ba}{r:Reach}{base:Nat}{t e:TypeId}{n:Nat}{v:Value}(ht:P.underlying t=some (.array n e))(h:Value.okWide P w r base t v):∃cs,v=.agg cs/\cs.size=P.cellsOf t:=by
 simp only[Value.okWide,ht] at h;obtain⟨cs,h1,h2,_⟩:=h;exact⟨cs,h1,h2⟩
theorem cells2b:Tryz.prog.cellsOf 70=2:=by kernel_rfl
theorem cellsBl:Tryz.prog.cellsOf 36=1:=by kernel_rfl
theorem open_twoArg{b0:Nat}{v:Value}{d:DataW H}{ps:List MemPlace}(hv:Value.okWide Tryz.prog W .any b0 70 v)(h:DataW.Trod enc Tryz.prog W base spare held 70 v d ps)(hw:xK Tryz.prog 70 d) :
  ∃(A:Bb) (xs:List Bool) (c:Nat) (B:Bb) (ys:List Bool) (e:Nat),v=.agg #[.slice A xs.length c,.slice B ys.length e]/\BAt W W.heap.size A xs/\BAt W W.heap.size B ys:=by
 obtain⟨cs,rfl,_⟩:=okWide_arr RB hv;obtain⟨fuel,hf⟩:=h;obtain⟨ys,m,rfl,hx,hl,hyl,hi⟩:=RP RB hf;have hd:d=.agg (ys.map (·.1)):=congrArg Prod.fst hx;rw[hd] at hw;rw[cells2b] at hl;obtain⟨cl⟩:=cs
 match cl,hl with
 | [c0,c1],_=>
  have k0:=hi 0 (by decide);have k1:=hi 1 (by decide)
  obtain⟨y0,y1,rfl⟩:∃y0 y1,ys=[y0,y1]:=by
   match ys,hyl with
   | [y0,y1],_=>exact⟨y0,y1,rfl⟩
  . have j0:DataW.trod enc Tryz.prog W base spare held m 36 [c0]=some y0:=by simpa[cellsBl,Value.cells] using k0
    have j1:DataW.trod enc Tryz.prog W base spare held m 36 [c1]=some y1:=by simpa[cellsBl,Value.cells] using k1
    obtain⟨A,xs,c,e0,_,r0⟩:=YK j0 (fits_arr RB hw (by simp));obtain⟨B,zs,e,e1,_,r1⟩:=YK j1 (fits_arr RB hw (by simp))
    cases e0;cases e1
    exact⟨A,xs,c,B,zs,e,rfl,r0,r1⟩
end
end
section
open Go.RowKit
def jS(n:Nat)(R:List Bool)(w:Ba)(e:Ending)(w':Ba):Prop:=∃A c,e=.returned (.slice A n c)/\BAt w' w'.heap.size A R/\Below w.heap.size w w'
def kH(n:Nat)(R:List Bool)(w:Ba)(e:Ending)(w':Ba):Prop:=∃A c,e=.returned (.tuple #[.slice A n c,.int .i64 0])/\BAt w' w'.heap.size A R/\Below w.heap.size w w'
def RetOc(n:Nat)(ev:List Bool->List Bool)(set:List Bool)(w:Ba)(e:Ending)(w':Ba):Prop:=∃(M:Nat) (A:Bb) (c:Nat),e=.returned (.tuple #[.slice A n c,.int .i64 (M:Int),.int .i64 0])/\M<=n/\zD n ev set (M+1)=zD n ev set M/\BAt w' w'.heap.size A (zD n ev set M)/\Below w.heap.size w w'
def RetOl(n:Nat)(ev:List Bool->List Bool)(set:List Bool)(w:Ba)(e:Ending)(w':Ba):Prop:=∃(M:Nat) (A:Bb) (c:Nat),e=.returned (.tuple #[.slice A n c,.int .i64 0])/\M<=n/\zS n ev set (M+1)=zS n ev set M/\IAt w' w'.heap.size A (xV n ev set M)/\Below w.heap.size w w'
def RetOi(n:Nat)(R:List Int)(w:Ba)(e:Ending)(w':Ba):Prop:=∃A c,e=.returned (.tuple #[.slice A n c,.int .i64 0])/\IAt w' w'.heap.size A R/\Below w.heap.size w w'
def jq(w:Ba)(e:Ending)(w':Ba):Prop:=e=.returned (.bool true)/\Below w.heap.size w w'
structure Okay(s:Sy)(n N:Nat):Prop where
 lo:LowS s
 few:yM s.p
 ver:zZ s=0
 nn:s.n=(N:Int)
 n1:1<=N
 n3:N<=3
 pt:ptn s=n
 p1:1<=n
 p7:n<=700
theorem Okay.read{s:Sy}{n N:Nat}(h:Okay s n N){G:Nat}(hG:G<2^N):zQ s (G:Int)=0:=by
 have h2:((2^N:Nat):Int)=(2:Int)^N:=by push_cast;rfl
 unfold zQ;rw[Lf (by simpa using h.ver),Lf];rw[h.nn,Lo];omega
theorem Okay.given{s:Sy}{n N:Nat}(h:Okay s n N){G:Nat}(hG:G<2^N){set:List Bool}(hl:set.length=n):zJ s (G:Int) set=0:=by
 unfold zJ;rw[Lf (by simpa using h.read hG),Lf];rw[hl,h.pt];simp
theorem Okay.ev{s:Sy}{n N:Nat}(h:Okay s n N)(G:Nat):evG s (G:Int)=evL n (zX s) (zr G N):=by
 unfold evG psG;rw[h.pt,h.nn,Lo,Lo]
section
variable {s:Sy} {n N:Nat} (h:Okay s n N) (set:List Bool) (hl:set.length=n) (A SV AV AX AB:Bb) (kc ks kv kx kb:Nat) (w:Ba) (hS:SyAt w w.heap.size A SV AV AX s) (hB:BAt w w.heap.size AB set)
include h hl hS hB
theorem Ya(q:Nat)(hq:q<N):Calls Tryz.prog 13 #[.agg (s.vs_ A kc SV ks AV kv AX kx),.int .i64 (q:Int),.slice AB n kb] w (kH n (yn n (zX s q) set) w):=by
 have hp7:=h.p7;have hC:=j6 s h.lo h.few (q:Int) set A SV AV AX AB kc ks kv kx kb (by omega) w hS hB
 have e1:ui s (q:Int) set=(yn n (zX s q) set,0):=by
  unfold ui;rw[Lf (by simpa using h.ver),Lf (by rw[h.nn];omega),Lf (by rw[hl,h.pt];simp),h.pt,Lo]
 rw[e1,hl] at hC;refine hC.mono ?_;rintro e w' ⟨A',c',rfl,hb,hw⟩;have hz:((yn n (zX s q) set,(0:Int)).1).length=n:=zT ..;rw[hz];exact⟨A',c',rfl,hb,hw⟩
theorem jN(G:Nat)(hG:G<2^N):Calls Tryz.prog 16 #[.agg (s.vs_ A kc SV ks AV kv AX kx),.int .i64 (G:Int),.slice AB n kb] w (kH n (evL n (zX s) (zr G N) set) w):=by
 have hp7:=h.p7;have hC:=jz s h.lo h.few (G:Int) set A SV AV AX AB kc ks kv kx kb (by omega) w hS hB
 have e1:vf s (G:Int) set=(evL n (zX s) (zr G N) set,0):=by
  unfold vf;rw[Lf (by simpa using h.given hG hl),h.ev]
 rw[e1,hl] at hC;refine hC.mono ?_;rintro e w' ⟨A',c',rfl,hb,hw⟩;have hz:((evL n (zX s) (zr G N) set,(0:Int)).1).length=n:=yH ..;rw[hz];exact⟨A',c',rfl,hb,hw⟩
theorem JD(G:Nat)(hG:G<2^N):Calls Tryz.prog 18 #[.agg (s.vs_ A kc SV ks AV kv AX kx),.int .i64 (G:Int),.slice AB n kb] w (kH n (yn n (xJ s (G:Int)) set) w):=by
 have hp7:=h.p7;have hC:=qZ s h.lo h.few (G:Int) set A SV AV AX AB kc ks kv kx kb (by omega) w hS hB
 have e1:gc s (G:Int) set=(yn n (xJ s (G:Int)) set,0):=by
  unfold gc;rw[Lf (by simpa using h.given hG hl),h.pt]
 rw[e1,hl] at hC;refine hC.mono ?_;rintro e w' ⟨A',c',rfl,hb,hw⟩;have hz:((yn n (xJ s (G:Int)) set,(0:Int)).1).length=n:=zT ..;rw[hz];exact⟨A',c',rfl,hb,hw⟩
theorem Yh(G:Nat)(hG:G<2^N):Calls Tryz.prog 20 #[.agg (s.vs_ A kc SV ks AV kv AX kx),.int .i64 (G:Int),.slice AB n kb] w (RetOc n (evL n (zX s) (zr G N)) set w):=by
 have hp7:=h.p7;have hC:=vB s h.lo h.few (G:Int) set A SV AV AX AB kc ks kv kx kb (by omega) w hS hB;rw[hl] at hC;refine hC.mono ?_;rintro e w' ⟨hw,hcs⟩;rw[h.ev,h.pt] at hcs;rcases hcs with ⟨hx,_⟩ | ⟨_,M,g,rfl,hM,hst,_,_,hr⟩
 . exact absurd (h.given hG hl) hx
 exact⟨M,some ⟨g,0,none⟩,n,rfl,hM,hst,hr.at_ hr.lt,hw⟩
theorem lev_ok(G:Nat)(hG:G<2^N):Calls Tryz.prog 22 #[.agg (s.vs_ A kc SV ks AV kv AX kx),.int .i64 (G:Int),.slice AB n kb] w (RetOl n (evL n (zX s) (zr G N)) set w):=by
 have hp7:=h.p7;have hC:=vA s h.lo h.few (G:Int) set A SV AV AX AB kc ks kv kx kb (by omega) w hS hB;rw[hl] at hC;refine hC.mono ?_;rintro e w' ⟨hw,hcs⟩;rw[h.ev,h.pt] at hcs;rcases hcs with ⟨hx,_⟩ | ⟨_,M,g,rfl,hst,hlt,_,hr⟩
 . exact absurd (h.given hG hl) hx
 exact⟨M,some ⟨g,0,none⟩,n,rfl,lev_stop hl hst hlt,hst,hr.iat,hw⟩
end
theorem reach_ok{s:Sy}{n N:Nat}(h:Okay s n N)(A SV AV AX:Bb)(kc ks kv kx:Nat)(w:Ba)(hS:SyAt w w.heap.size A SV AV AX s)(G:Nat)(hG:G<2^N) :
  Calls Tryz.prog 35 #[.agg (s.vs_ A kc SV ks AV kv AX kx),.int .i64 (G:Int)] w (RetOi n (yE n (xO (zr G N) (zX s))) w):=by
 have hC:=reach_any s h.lo h.few (G:Int) A SV AV AX kc ks kv kx w hS
 have e1:uV s (G:Int)=(yE n (xO (zr G N) (zX s)),0):=by
  unfold uV XN psG;rw[Lf (by simpa using h.read hG),h.pt,h.nn,Lo,Lo]
 rw[e1] at hC;refine hC.mono ?_;rintro e w' ⟨A',c',rfl,ho,hw⟩;have hz:((yE n (xO (zr G N) (zX s)),(0:Int)).1).length=n:=qi ..;have hi:=wz ho;rw[hz];exact⟨A',c',rfl,hi,hw⟩
theorem RetB.st{n:Nat}{R:List Bool}{w w':Ba}{e:Ending}(hl:R.length=n)(h:RetB R w e w'):jS n R w e w':=by
 obtain⟨g,rfl,_,hr,hb⟩:=h;rw[hl];exact⟨_,_,rfl,hr.at_ hr.lt,hb⟩
theorem not_ok(A:Bb)(c n:Nat)(hn:n<=700)(a:List Bool)(ha:a.length=n)(w:Ba)(hA:BAt w w.heap.size A a):Calls Tryz.prog 32 #[.slice A n c] w (jS n (jH n a) w):=
 (YG A c n (by omega) a ha w hA).mono fun _ _ h=>h.st (qc ..)
theorem Xr(A B:Bb)(c d n:Nat)(hn:n<=700)(a b:List Bool)(ha:a.length=n)(hb:b.length=n)(w:Ba)(hA:BAt w w.heap.size A a)(hB:BAt w w.heap.size B b):Calls Tryz.prog 34 #[.slice A n c,.slice B n d] w (jS n (xC n a b) w):=
 (jY A B c d n (by omega) a b ha hb w hA hB).mono fun _ _ h=>h.st (yi ..)
theorem all_ok(n:Nat)(hn:n<=700)(w:Ba):Calls Tryz.prog 33 #[.int .i64 (n:Int)] w (jS n (List.replicate n true) w):=
 (uI n (by omega) w).mono fun _ _ h=>h.st (by simp)
theorem ZN(A B:Bb)(c d n:Nat)(hn:n<=700)(a b:List Bool)(ha:a.length=n)(hab:a=b)(w:Ba)(hA:BAt w w.heap.size A a)(hB:BAt w w.heap.size B b):Calls Tryz.prog 15 #[.slice A n c,.slice B n d] w (jq w):=by
 subst hab;have hC:=ju A B c d a a w w.heap.size (Le _) hA hB (by omega) (by omega);rw[ha] at hC;refine hC.mono ?_;rintro e w' ⟨rfl,k,rfl⟩;exact⟨by simp,zY (Lm _ _) k⟩
end
section
open Go.RowKit Go.Shelf
attribute [local go_sem] Oper.semAt_some
def RetS7(p:Pb)(bs:List Bool)(w:Ba)(e:Ending)(w':Ba):Prop:=
 Below w.heap.size w w'/\((¬(qa p=true/\bs.length<=400)/\e=.returned (.tuple #[.agg #[.int .i64 0,.int .i64 0,.int .i64 0,.slice none 0 0,.int .i64 0,.slice none 0 0,.int .i64 0,.int .i64 0,.slice none 0 0,.slice none 0 0],.slice none 0 0,.bool false])) \/
  ((qa p=true/\bs.length<=400)/\∃A kc SV ks AV kv AX kx g,e=.returned (.tuple #[.agg ((zN p).vs_ A kc SV ks AV kv AX kx),.slice (some ⟨g,0,none⟩) (ptn (zN p)) (ptn (zN p)),.bool true])/\w.heap.size<=g/\BRow w' g (vd bs (ptn (zN p))) /\
   ∀X,Below w.heap.size w X->g<=X.heap.size->(∀k,w.heap.size<=k->k<g->X.heap[k]?=w'.heap[k]?)->SyAt X X.heap.size A SV AV AX (zN p)))
theorem qW{p:Pb}(hl:vN p)(h:qa p=true):∃N:Nat,Okay (zN p) (ptn (zN p)) N/\(∃K,Fine (zN p) K N):=by
 obtain⟨hbE,hvE,hf,h0,h60,hn3,K,N,hF,hSe⟩:=Zu h;have hlo:LowS (zN p):=by have:=ue hl hf;rw[hbE] at this;exact this
 have hpt:p.t.n=(N:Int):=hF.pn;have hx:=xs_pos hf hvE;have hk:=hF.k;have hk6:=hF.k6;have h1:=LM hx (show 1<=(zN p).p.k.toNat+1 by omega);have h2:=LM hF.lx (show(zN p).p.k.toNat+1<=7 by omega);exact⟨N,⟨hlo,hf,hvE,hF.n,hF.n1,by omega,rfl,by unfold ptn;omega,by unfold ptn;omega⟩,K,hF⟩
theorem qU(p:Pb)(hl:vN p)(A:Bb)(kc:Nat)(SV:Bb)(ks:Nat)(bs:List Bool)(AB:Bb)(kb:Nat)(w:Ba)(hA:CAt w w.heap.size A p.t.cases)(hS:SAt w w.heap.size SV p.a.sts)(hb0:BAt w w.heap.size AB bs) :
  Calls Tryz.prog 30 #[.agg (p.vs A kc SV ks),.slice AB bs.length kb] w (RetS7 p bs w):=by
 obtain⟨w1,hw1,d0,hs1,hB1⟩:=zm w (p.vs A kc SV ks) 29;obtain⟨w0,hw0,dz,hs0,hB0⟩:=zm w1 #[.int .i64 0,.int .i64 0,.int .i64 0,.slice none 0 0,.int .i64 0,.slice none 0 0,.int .i64 0,.int .i64 0,.slice none 0 0,.slice none 0 0] 35;rw[hs1] at dz hs0;have d0:=La hB0 d0;have hB:=Lc hB1 hB0;have HR:=zH (right_any p hl A kc SV ks w0 ((hA.keep hB).more hB.size) ((hS.keep hB).more hB.size));have HBD:=zH (fun (hf:yM p) (X:Ba) (hX:Below w.heap.size w X)=>Zv p hf A kc SV ks X ((hA.keep hX).more hX.size) ((hS.keep hX).more hX.size));have HKC:Hid (∀X,Below w.heap.size w X->CAt X X.heap.size A p.t.cases/\SAt X X.heap.size SV p.a.sts):=fun X hX=>⟨(hA.keep hX).more hX.size,(hS.keep hX).more hX.size⟩
 have HBS:Hid (∀X,Below w.heap.size w X->BAt X w.heap.size AB bs):=fun X hX=>hb0.keep hX
 have HRB:=zH (fun (h:qa p=true)=>And.intro (Zu h) (qW hl h));have HBb:=zH hB;have HX1:Hid (¬(qa p=true/\bs.length<=400)->∀W,Below w.heap.size w W->RetS7 p bs w (.returned (.tuple #[.agg #[.int .i64 0,.int .i64 0,.int .i64 0,.slice none 0 0,.int .i64 0,.slice none 0 0,.int .i64 0,.int .i64 0,.slice none 0 0,.slice none 0 0],.slice none 0 0,.bool false])) W):=fun h W hW=>⟨hW,.inl ⟨h,rfl⟩⟩
 have HX2:Hid (qa p=true->bs.length<=400->∀(A2:Bb) (kc2:Nat) (SV2:Bb) (ks2:Nat) (AV:Bb) (kv:Nat) (AX:Bb) (kx:Nat) (g:Nat) (W:Ba),Below w.heap.size w W->w.heap.size<=g->BRow W g (vd bs (ptn (zN p))) ->
   (∀X,Below w.heap.size w X->g<=X.heap.size->(∀k,w.heap.size<=k->k<g->X.heap[k]?=W.heap[k]?)->SyAt X X.heap.size A2 SV2 AV AX (zN p)) ->
   RetS7 p bs w (.returned (.tuple #[.agg ((zN p).vs_ A2 kc2 SV2 ks2 AV kv AX kx),.slice (some ⟨g,0,none⟩) (ptn (zN p)) (ptn (zN p)),.bool true])) W):=fun h1 h2 A2 kc2 SV2 ks2 AV kv AX kx g W hW hg hr hSY=>⟨hW,.inr ⟨⟨h1,h2⟩,A2,kc2,SV2,ks2,AV,kv,AX,kx,g,rfl,hg,hr,hSY⟩⟩
 obtain⟨r,hr⟩:=Ki (qa p);rw[hr] at HR HRB HX1 HX2;unfold Pb.vs at hw1 d0 HR HBD ⊢;have HW1:=zH hw1;have HW0:=zH hw0;have HD0:=zH d0;have dz:=zH dz;obtain⟨p0,p1,p2,p3,p4,p5,p6,_⟩:=Kf (d0);clear hw1 hw0 d0 hB1 hB0 hA hS hb0 hB hs1 hr hl;go_enter Tryz.func30,Tryz.ntmps30;go_wp2_with fail;rw[HW1.out,HW0.out];go_wp2_with fail;refine HR.out.mono ?_;rintro e w2 ⟨rfl,hb2⟩;have B2:=zH (Lc HBb.out hb2);have hs2:=hb2.size;have dz:=zH (La hb2 dz.out);have HD0:=zH (La hb2 HD0.out);have hs23:w.heap.size+2<=w2.heap.size:=by omega
 clear hb2 HR HW1 HW0 p0 p1 p2 p3 p4 p5 p6
 by_cases hgood:r=true/\bs.length<=400
 case neg=>
  have HBAD:=zH hgood;clear HBD HRB HBS HX2 HKC;obtain⟨WF,hWF,f1,f2,f3,f4⟩:=set10 dz.out (.int .i64 0) (.int .i64 0) (.int .i64 0) (.slice none 0 0) (.int .i64 0) (.slice none 0 0) (.int .i64 0) (.int .i64 0) (.slice none 0 0) (.slice none 0 0);obtain⟨y0,y1,y2,y3,y4,y5,y6,y7,y8,y9⟩:=zw (dz.out);have g0:=zi (dz.out) 0;have g1:=zi (dz.out) 1;have g2:=zi (dz.out) 2;have g3:=zi (dz.out) 3;have g4:=zi (dz.out) 4;have g5:=zi (dz.out) 5;have g6:=zi (dz.out) 6;have g7:=zi (dz.out) 7;have g8:=zi (dz.out) 8;have g9:=zi (dz.out) 9;have lz:=zj dz.out;have HWF:=zH hWF;have HF1:=zH f1;have HBF:=zH (B2.out.trans (f3 _ (by omega)))
  have hq:r=false\/(r=true/\((bs.length:Int)>400)):=by
   cases r with
   | false=>exact .inl rfl
   | true=>exact .inr ⟨rfl,by have:¬bs.length<=400:=fun h=>hgood ⟨rfl,h⟩;omega⟩
  clear hWF f1 f2 f3 f4 hgood;rcases hq with rfl | ⟨rfl,hq⟩
  all_goals
   go_wp2_with fail;rw[HWF.out];obtain⟨z0,z1,z2,z3,z4,z5,z6,z7,z8,z9⟩:=zw (HF1.out);refine L5 (v:=.tuple #[.agg #[.int .i64 0,.int .i64 0,.int .i64 0,.slice none 0 0,.int .i64 0,.slice none 0 0,.int .i64 0,.int .i64 0,.slice none 0 0,.slice none 0 0],.slice none 0 0,.bool false]) (by simp[results,Tryz.results30,go_sem,z0,z1,z2,z3,z4,z5,z6,z7,z8,z9]) rfl ?_;exact HX1.out HBAD.out _ HBF.out
 obtain⟨rfl,hb4⟩:=hgood;obtain⟨⟨hbE,hvE,hf,_⟩,N,hok,K,hF⟩:=HRB.out rfl;have HB:=zH (HBD.out hf w2 B2.out);have HSZ:=zH (fun (A SV AV AX:Bb) (kc ks kv kx:Nat) (X:Ba)=>vT (zN p) K N hF A SV AV AX kc ks kv kx X);rw[hbE] at HB;have HX3:=zH (HX2.out rfl hb4);have HKP:Hid (∀X,Below w.heap.size w X->CAt X X.heap.size A (zN p).p.t.cases/\SAt X X.heap.size SV (zN p).p.a.sts):=HKC.out;have hP7:=hok.p7;have hP1:=hok.p1;obtain⟨T,hT⟩:=Ki (zN p);rw[hT] at HB HSZ HX3 HKP hP7 hP1;obtain⟨n,hn⟩:=Ki (ptn T);rw[hn] at HSZ HX3 hP7 hP1;unfold RetSysG Sy.vs_ at HB;unfold Sy.vs_ at HSZ HX3;have HB:=zH (HB.out);have i4:¬((bs.length:Int)>400):=by omega
 clear HBD HRB HX1 HX2 HKC hbE hvE hf hok hF hT hn;obtain⟨p0,p1,p2,p3,p4,p5,p6,_⟩:=Kf (HD0.out);go_wp2_with fail;refine HB.out.mono ?_;rintro e w3 hrb;obtain⟨kc2,ks2,AV,kv,AX,kx,rfl,hSX,hb3⟩:=hrb (by trivial);have B3:=zH (Lc B2.out hb3);have HSX:=zH hSX;have dz:=zH (La hb3 dz.out);have hs3:=hb3.size;clear hSX hb3 HB HD0 p0 p1 p2 p3 p4 p5 p6;go_upto_region 4 with fail
 obtain⟨WF,hWF,d7,hsF,hBF⟩:=zm w3 #[.int .i64 T.p.t.n,.int .i64 T.p.t.ins,.int .i64 T.p.t.outs,.slice A T.p.t.cases.length kc2,.int .i64 T.p.a.n,.slice SV T.p.a.sts.length ks2,.int .i64 T.p.k,.int .i64 T.n,.slice AV T.vs.length kv,.slice AX T.xs.length kx] 35;rw[hWF];have D7:=zH d7;have HBF:=zH hBF;have dz:=zH (La hBF dz.out);have HC:=zH (HSZ.out A SV AV AX kc2 ks2 kv kx WF);obtain⟨z0,z1,z2,z3,z4,z5,z6,z7,z8,z9⟩:=zw (d7);clear hWF d7 hBF HSZ;go_wp2_with fail;refine HC.out.mono ?_;rintro e w5 ⟨rfl,hb5⟩;have HB5:=zH (Lc HBF.out hb5);have hs5:=hb5.size;have dz:=zH (La hb5 dz.out);have D7:=zH (La hb5 D7.out);clear hb5 HC HBF z0 z1 z2 z3 z4 z5 z6 z7 z8 z9;have hmk:=xz n (by omega);obtain⟨rs,hrs⟩:=Ki (vd bs n);have HRL:Hid (rs.length=n):=by rw[<-hrs];exact kX bs n
 have HAT:Hid (∀k (h:k<n),rs[k]'(by rw[HRL.out];exact h)=bs.getD (k % bs.length) false):=fun k h=>by subst hrs;simp[vd]
 rw[hrs] at HX3;clear hrs;go_upto_region 5 with fail
 obtain⟨w6,hw6,d6,hs6,hB6⟩:=zm w5 (xI (List.replicate n false)) 4;rw[hw6];have HW6:=zH hB6;have HZ0:Hid (BRow w6 w5.heap.size (yD rs 0)):=by rw[kd,HRL.out];exact d6
 have dz:=zH (La hB6 dz.out);have D7:=zH (La hB6 D7.out);have HB36:Hid (Below w3.heap.size w3 w6):=Lc HB5.out hB6;have HB06:Hid (Below w.heap.size w w6):=Lc B3.out HB36.out;clear hw6 d6 hB6 hmk HB5;obtain⟨g,hg⟩:=Ki w5.heap.size;rw[hg] at HW6 HZ0 hs5 hs6 ⊢;have hg0:w.heap.size+3<=g:=by omega
 have hg3:w3.heap.size+1<=g:=by omega
 clear hg;go_wp2_with fail
 go_loopw [30] (fun i wr=>∃k:Nat,k<=n/\i=.int .i64 (k:Int)/\Hid (BRow wr g (yD rs k))/\Hid (Below g w6 wr)) (fun i _=>n-(intOf i).toNat)
 case atStart=>exact⟨0,by omega,rfl,HZ0,Lm _ _⟩
 case round=>
  obtain⟨k,hk,rfl,hbr,hbw⟩:=hrel;clear HZ0;have hwk:IntKind.i64.wrap ((k:Int)+1)=((k+1:Nat):Int):=by rw[Ll];omega
  by_cases hlt:k<n
  . have hat:=HAT.out k hlt
    have hkb:k<rs.length:=by rw[HRL.out];exact hlt
    have hml:=jg rs (N4 hkb);have y0:=zh hbr.out k (xH (yD rs k) k (by omega));have f0:=zi hbr.out k;obtain⟨x,hx⟩:=Ki (bs.getD (k % bs.length) false);rw[hx] at hat
    have HNEW:Hid (BRow (wr.setCell ⟨g,k,none⟩ (.bool x)) g (yD rs (k+1))):=by
     rw[<-hat,<-jf rs hkb];show _=_;rw[Ln wr _ k _ _ _ hbr.out,xT]
    have HBN:=zH (hbw.out.setCell (p:=⟨g,k,none⟩) (by show g<=g;omega) (.bool x));obtain⟨u,hu⟩:=Ki ((yD rs k)[k]'(by omega));rw[hu] at y0;have hk0:(0:Int)<=(k:Int):=by omega
    have hk1:(k:Int)<(n:Int):=by omega
    have hl3:=zj hbr.out
    by_cases hz:bs.length=0
    . have e1:¬((bs.length:Int)>0):=by omega
      have hx0:x=false:=by
       rw[<-hx,PE.1 hz];rfl
      subst hx0;clear hat hkb hml hbr hbw hu hx HBS hz;go_wp2_with fail
      go_roundw
      case rel=>exact⟨k+1,by omega,by go_num,HNEW,HBN⟩
      case measure=>simp[intOf];omega
    . have e1:(bs.length:Int)>0:=by omega
      have hmod:=P8 k (show 0<bs.length by omega);obtain⟨b,off,rfl,hbl,z0⟩:=(HBS.out wr (HB06.out.trans (hbw.out.mono (by omega)))).at_ (k % bs.length) hmod;rw[<-zn hmod false,hx] at z0;obtain⟨m,hm⟩:=Ki (k % bs.length);rw[hm] at hmod z0;have t0:Int.tmod (k:Int) (bs.length:Int)=(m:Int):=by rw[<-hm];exact(P5 k bs.length).symm
      have m0:(0:Int)<=(m:Int):=by omega
      have m1:(m:Int)<(bs.length:Int):=by omega
      have n0:¬(bs.length:Int)=0:=by omega
      clear hat hkb hml hbr hbw hu hx HBS hm hz;go_wp2_with fail
      go_roundw
      case rel=>exact⟨k+1,by omega,by go_num,HNEW,HBN⟩
      case measure=>simp[intOf];omega
  . obtain rfl:n=k:=by omega
    have hk1:¬(n:Int)<(n:Int):=by omega
    have HE:Hid (BRow wr g rs):=by have:=hbr.out;rwa[show yD rs n=rs by rw[<-HRL.out];exact jh rs] at this
    have HB6:=zH hbw.out;have hsr:=hbw.out.size;have dz:=zH (Lb hbw.out (by omega) dz.out);have D7:=zH (Lb hbw.out (by omega) D7.out);clear hbr hbw HAT HBS;obtain⟨WG,hWG,f1,f2,f3,f4⟩:=set10 dz.out (.int .i64 T.p.t.n) (.int .i64 T.p.t.ins) (.int .i64 T.p.t.outs) (.slice A T.p.t.cases.length kc2) (.int .i64 T.p.a.n) (.slice SV T.p.a.sts.length ks2) (.int .i64 T.p.k) (.int .i64 T.n) (.slice AV T.vs.length kv) (.slice AX T.xs.length kx);obtain⟨z0,z1,z2,z3,z4,z5,z6,z7,z8,z9⟩:=zw D7.out;obtain⟨y0,y1,y2,y3,y4,y5,y6,y7,y8,y9⟩:=zw (dz.out);have g0:=zi (dz.out) 0;have g1:=zi (dz.out) 1;have g2:=zi (dz.out) 2;have g3:=zi (dz.out) 3;have g4:=zi (dz.out) 4;have g5:=zi (dz.out) 5;have g6:=zi (dz.out) 6;have g7:=zi (dz.out) 7;have g8:=zi (dz.out) 8;have g9:=zi (dz.out) 9;have lz:=zj dz.out;have HWG:=zH hWG;have HF1:=zH f1;have HBG:=zH (HB06.out.trans ((HB6.out.mono (by omega)).trans (f3 _ (by omega:w.heap.size<=w.heap.size+1))));have HRG:Hid (BRow WG g rs):=(f2 g (by omega)).trans HE.out
    have HSG:Hid (∀X,Below w.heap.size w X->g<=X.heap.size->(∀k,w.heap.size<=k->k<g->X.heap[k]?=WG.heap[k]?)->SyAt X X.heap.size A SV AV AX T):=fun X hX hgX hk=>by
     obtain⟨q1,q2⟩:=HKP.out X hX;refine HSX.out X (by omega) (fun k h1 h2=>?_) q1 q2;rw[hk k (by omega) (by omega),f2 k (by omega),HB6.out.block k (by omega),HB36.out.block k (by omega)]
    clear hWG f1 f2 f3 f4 HSX HKP HB36 HB06 HB6 B3;go_wp2_with fail;rw[HWG.out];clear y0 y1 y2 y3 y4 y5 y6 y7 y8 y9 z0 z1 z2 z3 z4 z5 z6 z7 z8 z9 HWG;obtain⟨z0,z1,z2,z3,z4,z5,z6,z7,z8,z9⟩:=zw (HF1.out);go_wp2_with fail;refine L5 (v:=.tuple #[.agg #[.int .i64 T.p.t.n,.int .i64 T.p.t.ins,.int .i64 T.p.t.outs,.slice A T.p.t.cases.length kc2,.int .i64 T.p.a.n,.slice SV T.p.a.sts.length ks2,.int .i64 T.p.k,.int .i64 T.n,.slice AV T.vs.length kv,.slice AX T.xs.length kx],.slice (some ⟨g,0,none⟩) n n,.bool true]) (by simp[results,Tryz.results30,go_sem,z0,z1,z2,z3,z4,z5,z6,z7,z8,z9]) rfl ?_;exact HX3.out A kc2 SV ks2 AV kv AX kx g WG HBG.out (by omega) HRG.out HSG.out
/-- A part of a set lies within it. -/
theorem kO(A B:Bb)(c d n:Nat)(hn:n<=700)(a b:List Bool)(ha:a.length=n)(hb:b.length=n)(hab:∀i,i<n->a.getD i false=true->b.getD i false=true)(w:Ba)(hA:BAt w w.heap.size A a)(hB:BAt w w.heap.size B b) :
  Calls Tryz.prog 31 #[.slice A n c,.slice B n d] w (jq w):=by
 have HA:=zH hA;have HB:=zH hB;have HLa:=zH ha;have HLb:=zH hb;have HAB:=zH hab;have e0:((n:Int) != (n:Int))=false:=by simp
 unfold jq;clear hA hB ha hb hab;go_enter Tryz.func31,Tryz.ntmps31;go_wp2_with fail
 go_loopw [13] (fun i wr=>∃k:Nat,k<=n/\i=.int .i64 (k:Int)/\Hid (Below w.heap.size w wr)) (fun i _=>n-(intOf i).toNat)
 case atStart=>exact⟨0,by omega,rfl,Lm _ _⟩
 case round=>
  obtain⟨k,hk,rfl,hbw⟩:=hrel
  by_cases hlt:k<n
  . obtain⟨b1,o1,rfl,hb1,z0⟩:=(HA.out.keep hbw.out).at_ k (by rw[HLa.out];exact hlt)
    obtain⟨b2,o2,rfl,hb2,z1⟩:=(HB.out.keep hbw.out).at_ k (by rw[HLb.out];exact hlt);have hat:=HAB.out k hlt;rw[<-zn (by rw[HLa.out];exact hlt) false] at z0;rw[<-zn (by rw[HLb.out];exact hlt) false] at z1;obtain⟨x,hx⟩:=Ki (a.getD k false);rw[hx] at z0 hat;obtain⟨y,hy⟩:=Ki (b.getD k false);rw[hy] at z1 hat;have hk0:(0:Int)<=(k:Int):=by omega
    have hk1:(k:Int)<(n:Int):=by omega
    clear hx hy
    cases x with
    | false=>
     clear hat;go_wp2_with fail
     go_roundw
     case rel=>exact⟨k+1,by omega,by go_num,hbw⟩
     case measure=>simp[intOf];omega
    | true=>
     obtain rfl:y=true:=hat rfl;clear hat;go_wp2_with fail
     go_roundw
     case rel=>exact⟨k+1,by omega,by go_num,hbw⟩
     case measure=>simp[intOf];omega
  . obtain rfl:n=k:=by omega
    have hk1:¬(n:Int)<(n:Int):=by omega
    clear HA HB HAB;go_wp2_with fail;go_ret;exact⟨rfl,hbw.out⟩
end
end Go.Proofs.YtjmckgoegfipeaaGreatDoor
