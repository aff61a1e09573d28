/- Parts KnwG Dag KnwJ FmlA FmlB FmlC AtmA AtmB AtmC AtmD AtmE. -/
import Derived.Test.YtohjmddnennajaaGreatDoorProg
import Derived.Test.YtohjmddnennajaaGreatDoorPg
import Derived.Test.YtohjmddnennajaaGreatDoorPc
import Derived.Carry
import Derived.WalkKit
import Derived.Orders
import Derived.Below
import Derived.Laws.OwnMore
import Derived.Test.YtohjmddnennajaaGreatDoorPf
import Derived.Deep.QuietTactic
import Derived.BigQuiet
import Derived.Deep.Cut
import Derived.Test.YtohjmddnennajaaGreatDoorPa
import Derived.Deep.RegionHeld3
import Derived.Deep.CutBlock
import Derived.Laws.EntriesVeiled
import Derived.Test.YtohjmddnennajaaGreatDoorPe
import Derived.Test.YtohjmddnennajaaGreatDoorPb

namespace Go.Proofs.YtohjmddnennajaaGreatDoor
abbrev Rl:=@List.filter_cons
abbrev Py:=@List.length_eq_zero_iff
abbrev Sb:=@Array.getD_eq_getD_getElem?
abbrev N3:=@Go.Proofs.Tryz.func140
abbrev NU:=@Go.Proofs.Tryz.ntmps140
set_option maxRecDepth 100000
set_option maxHeartbeats 4000000
section
open Go.RowKit Go.Shelf
attribute [local go_sem] Oper.semAt_some
def gA(R:List Bool×Int)(w:Ba)(e:Ending)(w':Ba):Prop:=∃A c,e=.returned (.tuple #[.slice A R.1.length c,.int .i64 R.2])/\BAt w' w'.heap.size A R.1/\Below w.heap.size w w'
def evyE(s:Sy)(g:Int)(set:List Bool):List Bool×Int:=if zN s g set≠0 then ([],zN s g set) else (evG s g set,0)
def dstE(s:Sy)(g:Int)(set:List Bool):List Bool×Int:=if zN s g set≠0 then ([],zN s g set) else (xU (ptn s) (kn s g) set,0)
def J6(s:Sy)(q:Int)(set:List Bool):List Bool×Int:=if zV s≠0 then ([],zV s) else if q<0\/s.n<=q then ([],2) else if set.length≠ptn s then ([],15) else (xU (ptn s) (yx s q.toNat) set,0)
theorem Qr{w:Ba}{base:Nat}{A:Bb}{n c:Nat}{xs:List Int}(h:Own w base (.slice A n c) xs):IAt w w.heap.size A xs:=own_on h (fun _ _ _=>rfl)
theorem map_cell{w:Ba}{mb m o:Nat}{F:Int->Option Value}(h:MapOf (Value.int .i64) w mb m F)(v:Value):w.cell? ⟨mb,o,none⟩≠some v:=by
 obtain⟨es,clock,hb,_⟩:=h;intro e;unfold World.cell? at e;rw[hb] at e;simp at e
section
variable {w w':Ba} {mb m:Nat} {F:Int->Option Value}
theorem jr(h:MapOf (Value.int .i64) w mb m F)(hg:w.grownBy w' (some mb)){b o:Nat}{v:Value}(hc:w.cell? ⟨b,o,none⟩=some v):w'.cell? ⟨b,o,none⟩=some v:=by
 have hne:b≠mb:=fun e=>map_cell h v (by rw[<-e];exact hc)
 have hlt:=Ri w _ hc;exact(LA (a:=⟨b,o,none⟩) (hg.block b hlt (fun e=>hne (by cases e;rfl)))).trans hc
theorem IAt.put{B:Nat}{A:Bb}{xs:List Int}(hx:IAt w B A xs)(h:MapOf (Value.int .i64) w mb m F)(hg:w.grownBy w' (some mb)):IAt w' B A xs:=fun h0=>by
 obtain⟨b,off,e,hlt,hc⟩:=hx h0;exact⟨b,off,e,hlt,fun i hi=>jr h hg (hc i hi)⟩
theorem BAt.put{B:Nat}{A:Bb}{xs:List Bool}(hx:BAt w B A xs)(h:MapOf (Value.int .i64) w mb m F)(hg:w.grownBy w' (some mb)):BAt w' B A xs:=fun h0=>by
 obtain⟨b,off,e,hlt,hc⟩:=hx h0;exact⟨b,off,e,hlt,fun i hi=>jr h hg (hc i hi)⟩
theorem KwAt.put{B bw n N:Nat}{cls:Nat->List Int}(hk:KwAt w B bw n N cls)(h:MapOf (Value.int .i64) w mb m F)(hg:w.grownBy w' (some mb)):KwAt w' B bw n N cls:=by
 obtain⟨b,off,cC,h1,h2,h3⟩:=hk.rows;refine⟨hk.lt,jr h hg hk.size,⟨b,off,cC,jr h hg h1,h2,fun q hq=>?_⟩,hk.len⟩;obtain⟨A,c,h4,h5⟩:=h3 q hq;exact⟨A,c,jr h hg h4,h5.put h hg⟩
end
structure KwD(s:Sy)(A SV AV AX:Bb)(kc ks kv kx B:Nat)(w:Ba)(bw mb m:Nat)(F:Int->Option Value):Prop where
 kw:KwAt w w.heap.size bw (ptn s) s.n.toNat (yx s)
 blk:∃AQ cQ,w.heap[bw]?=some (.cells #[.int .i64 s.p.t.n,.int .i64 s.p.t.ins,.int .i64 s.p.t.outs,.slice A s.p.t.cases.length kc,.int .i64 s.p.a.n,.slice SV s.p.a.sts.length ks,.int .i64 s.p.k,.int .i64 s.n,.slice AV s.vs.length kv,.slice AX s.xs.length kx,.int .i64 (ptn s:Int),.slice AQ s.n.toNat cQ,.map (some mb)] 77 (0,0))
 map:MapOf (Value.int .i64) w mb m F
 vals:∀g v,F g=some v->∃A c,v=.slice A (ptn s) c/\IAt w w.heap.size A (kn s g)
 sys:SyAt w B A SV AV AX s
 lowB:B<=w.heap.size
 low:B<=mb
section
variable {s:Sy} {A SV AV AX:Bb} {kc ks kv kx B:Nat} {w w':Ba} {bw mb m:Nat} {F:Int->Option Value}
theorem KwD.call(h:KwD s A SV AV AX kc ks kv kx B w bw mb m F)(hb:Below w.heap.size w w'):KwD s A SV AV AX kc ks kv kx B w' bw mb m F:=by
 obtain⟨AQ,cQ,h1⟩:=h.blk;refine⟨(h.kw.keep hb).more hb.size,⟨AQ,cQ,La hb h1⟩,h.map.same (hb.block _ h.map.lt),fun g v hv=>?_,h.sys.keep (hb.mono h.lowB),Lz h.lowB hb.size,h.low⟩;obtain⟨A',c',e,hI⟩:=h.vals g v hv;exact⟨A',c',e,(hI.keep hb).more hb.size⟩
theorem KwD.put(h:KwD s A SV AV AX kc ks kv kx B w bw mb m F)(hg:w.grownBy w' (some mb)){g:Int}{A':Bb}{c':Nat}(hI:IAt w w.heap.size A' (kn s g))(hm:MapOf (Value.int .i64) w' mb (m+1) (xf F g (.slice A' (ptn s) c'))) :
  KwD s A SV AV AX kc ks kv kx B w' bw mb (m+1) (xf F g (.slice A' (ptn s) c')):=by
 obtain⟨AQ,cQ,h1⟩:=h.blk;have hs:w.heap.size<=w'.heap.size:=hg.size
 have hne:bw≠mb:=fun e=>by
  obtain⟨es,clock,hb,_⟩:=h.map;rw[<-e,h1] at hb;cases hb
 have hB:Below B w w':=(Lo B w).grown hg h.lowB (fun k e=>by cases e;exact h.low);refine⟨(h.kw.put h.map hg).more hs,⟨AQ,cQ,(hg.block _ (zj h1) (fun e=>hne (by cases e;rfl))).trans h1⟩,hm,fun g' v hv=>?_,h.sys.keep hB,Lz h.lowB hs,h.low⟩;unfold xf at hv
 by_cases e:g'=g
 . subst e
   rw[Lh rfl] at hv
   cases hv
   exact⟨A',c',rfl,(hI.put h.map hg).more hs⟩
 . rw[Lg e] at hv
   obtain⟨A2,c2,e2,hI2⟩:=h.vals g' v hv;exact⟨A2,c2,e2,(hI2.put h.map hg).more hs⟩
end
theorem YS(s:Sy)(hs:LowS s)(hf:yR s.p)(A SV AV AX:Bb)(kc ks kv kx B:Nat)(g:Int)(hg0:zZ s g=0)(hp:ptn s<=100000)(AB:Bb)(kb:Nat)(set:List Bool)(hsl:set.length=ptn s)(bw mb m:Nat)(F:Int->Option Value)(w:Ba)(hK:KwD s A SV AV AX kc ks kv kx B w bw mb m F)(hB0:BAt w w.heap.size AB set) :
  Calls Tryz.prog 36 #[.pointer (some ⟨bw,0,none⟩),.int .i64 g,.slice AB (ptn s) kb] w fun e w'=>∃g' m' F',e=.returned (.slice (some ⟨g',0,none⟩) (ptn s) (ptn s))/\w.heap.size<=g'/\BRow w' g' (xU (ptn s) (kn s g) set)/\KwD s A SV AV AX kc ks kv kx B w' bw mb m' F'/\Wrote (fun z=>z=mb) w w':=by
 obtain⟨AQ,cQ,h1⟩:=hK.blk;have hT:togE s g=(kn s g,0):=Lg (by simpa using hg0);have hTL:(kn s g).length=ptn s:=togL_len s g;have HC:=zH (fun (X:Ba) (hX:SyAt X X.heap.size A SV AV AX s)=>Xg s hs hf g A SV AV AX kc ks kv kx X hX);rw[hT] at HC;unfold RetOE at HC;simp only[hTL] at HC;have HIN:=zH (fun (A:Bb) (c:Nat) (X:Ba) (hI:IAt X X.heap.size A (kn s g)) (hB:BAt X X.heap.size AB set)=>wV A AB c kb (ptn s) hp (kn s g) set hTL hsl X hI hB);unfold xe at HIN;simp only[yI] at HIN;have HK:=zH hK;have HB0:=zH hB0;have hz:∀W:Ba,(zeroValue 44).run Tryz.prog W=.ok (.slice none 0 0) W:=fun W=>by kernel_rfl
 have ht:Tryz.prog.underlying 75=some (.map 3 44):=Tryz.underlying75;have hlk:=hK.map.look2 yp ht (hz w) g;have HZ:=zH hz;have HT:=zH ht;have z12:w.cell? ⟨bw,12,none⟩=some (.map (some mb)):=zh h1 12 rfl;have lbw:=zj h1;clear hT hTL hK hB0 hz ht hs hf hg0 hp hsl;unfold Sy.vs_ at HC;obtain⟨n,hn⟩:=Ki (ptn s);have HNN:=zH hn;rw[hn] at h1 HC HIN ⊢;have H1:=zH h1;clear h1 hn;go_enter Tryz.func36,Tryz.ntmps36
 cases hFg:F g with
 | some v=>
  obtain⟨A4,c4,rfl,hI4⟩:=HK.out.vals g v hFg;rw[HNN.out] at hFg;rw[hFg] at hlk;simp only[Option.getD_some,Option.isSome_some] at hlk;have hlk2:=HK.out.map.look yp HT.out (HZ.out w) g;rw[hFg] at hlk2;simp only[Option.getD_some] at hlk2;have HC2:=zH (HIN.out A4 c4 w hI4 HB0.out);clear HC HIN hI4 hFg;go_wp2_with fail;refine HC2.out.mono ?_;rintro e w2 ⟨g2,rfl,hg2,hr2,hb2⟩;have HR2:=zH hr2;have HB2:=zH hb2;clear hr2 hb2 HC2;go_wp2_with fail;go_ret;exact⟨g2,m,F,rfl,hg2,HR2.out,HK.out.call HB2.out,Wrote.of_below HB2.out⟩
 | none=>
  rw[hFg] at hlk;simp only[Option.getD_none,Option.isSome_none] at hlk;have hKP:∀X,Below w.heap.size w X->X.heap[bw]?=some (.cells #[.int .i64 s.p.t.n,.int .i64 s.p.t.ins,.int .i64 s.p.t.outs,.slice A s.p.t.cases.length kc,.int .i64 s.p.a.n,.slice SV s.p.a.sts.length ks,.int .i64 s.p.k,.int .i64 s.n,.slice AV s.vs.length kv,.slice AX s.xs.length kx,.int .i64 (n:Int),.slice AQ s.n.toNat cQ,.map (some mb)] 77 (0,0)):=fun X hX=>Lb hX lbw H1.out
  have HKP:=zH hKP;clear hFg;go_upto_region 3 with fail
  refine zz [(0,true),(1,true),(2,true),(3,true),(4,true),(5,true),(6,true),(7,true),(8,true),(9,true),(10,false),(11,true),(12,true),(13,true),(14,false)] (fun X=>X.heap[bw]?=some (.cells #[.int .i64 s.p.t.n,.int .i64 s.p.t.ins,.int .i64 s.p.t.outs,.slice A s.p.t.cases.length kc,.int .i64 s.p.a.n,.slice SV s.p.a.sts.length ks,.int .i64 s.p.k,.int .i64 s.n,.slice AV s.vs.length kv,.slice AX s.xs.length kx,.int .i64 (n:Int),.slice AQ s.n.toNat cQ,.map (some mb)] 77 (0,0))) (by kernel_rfl) (by kernel_rfl) (HKP.out _ (Lo _ w).drew) ?_
  repeat
   apply zG rfl
   . rintro K' hK' X u
     have q0:=zh (u) 0 rfl;have q1:=zh (u) 1 rfl;have q2:=zh (u) 2 rfl;have q3:=zh (u) 3 rfl;have q4:=zh (u) 4 rfl;have q5:=zh (u) 5 rfl;have q6:=zh (u) 6 rfl;have q7:=zh (u) 7 rfl;have q8:=zh (u) 8 rfl;have q9:=zh (u) 9 rfl;have q10:=zh (u) 10 rfl;have q11:=zh (u) 11 rfl;have q12:=zh (u) 12 rfl;clear u;go_simp;exact hK'
  refine zE rfl ?_;intro K' hK';go_simp;refine(HC.out w.drew ((HK.out.sys.keep ((Lo _ w).drew.mono HK.out.lowB)).more HK.out.lowB)).mono ?_;rintro e w5 ⟨A5,c5,rfl,ho5,hb5⟩;have G5:Hid (Below w.heap.size w w5):=(Lo _ w).drew.trans hb5;have K5:=zH (HK.out.call G5.out);have HO5:=zH (Qr ho5);obtain⟨W6,hrun,hm6,hg6⟩:=K5.out.map.put yp HT.out g (.slice A5 n c5);have HM6:=zH hm6;have HG6:=zH hg6;have hlt5:=zj (HKP.out w5 G5.out)
  have hne:bw≠mb:=fun e=>by
   obtain⟨es,clock,hb,_⟩:=K5.out.map;rw[<-e,HKP.out w5 G5.out] at hb;cases hb
  have HK6:Hid (W6.heap[bw]?=some (.cells #[.int .i64 s.p.t.n,.int .i64 s.p.t.ins,.int .i64 s.p.t.outs,.slice A s.p.t.cases.length kc,.int .i64 s.p.a.n,.slice SV s.p.a.sts.length ks,.int .i64 s.p.k,.int .i64 s.n,.slice AV s.vs.length kv,.slice AX s.xs.length kx,.int .i64 (n:Int),.slice AQ s.n.toNat cQ,.map (some mb)] 77 (0,0))):=(hg6.block _ hlt5 (fun e=>hne (by cases e;rfl))).trans (HKP.out w5 G5.out);refine hK' _ _ (HKP.out w5 G5.out) ?_;clear hK' K' hb5 ho5 HC hm6 hg6 hlt5 hne
  repeat
   apply zG rfl
   . rintro K' hK' X u
     clear u;go_simp;exact hK'
  refine zE rfl ?_;intro K' hK';go_simp;refine hK' _ _ HK6.out ?_;clear hK' K';refine zQ ?_;have hK7:KwD s A SV AV AX kc ks kv kx B W6 bw mb (m+1) (xf F g (.slice A5 (ptn s) c5)):=K5.out.put HG6.out HO5.out (by rw[HNN.out];exact HM6.out);have HK7:=zH hK7;have hlk2:=hK7.map.look yp HT.out (HZ.out W6) g;rw[show xf F g (.slice A5 (ptn s) c5) g=some (.slice A5 (ptn s) c5) from Lh rfl,HNN.out] at hlk2;simp only[Option.getD_some] at hlk2;have z12:W6.cell? ⟨bw,12,none⟩=some (.map (some mb)):=zh HK6.out 12 rfl;have HB6:Hid (BAt W6 W6.heap.size AB set):=(((HB0.out.keep G5.out).more G5.out.size).put K5.out.map HG6.out).more HG6.out.size;have HC2:=zH (HIN.out A5 c5 W6 ((HO5.out.put K5.out.map HG6.out).more HG6.out.size) HB6.out);have hw6:Hid (Wrote (fun z=>z=mb) w W6):=(Wrote.of_below G5.out).trans (Wrote.of_grown HG6.out (fun z e _=>by cases e;rfl)) (fun _ _ h=>h);have hs6:w.heap.size<=W6.heap.size:=Lz G5.out.size HG6.out.size;clear hK7 HIN HB6 hrun HK6 HG6 HM6 K5 HO5;go_wp2_with fail;refine HC2.out.mono ?_;rintro e w8 ⟨g8,rfl,hg8,hr8,hb8⟩;have HR8:=zH hr8;have HB8:=zH hb8;have hg9:w.heap.size<=g8:=by omega
  clear hr8 hb8 HC2 hlk2 z12;go_wp2_with fail;go_ret;exact⟨g8,m+1,_,rfl,hg9,HR8.out,HK7.out.call HB8.out,hw6.out.trans (Wrote.of_below HB8.out) (fun _ _ h=>h)⟩
end
section
open Go.RowKit
def upd(l:Nat->Bool)(i:Nat):Nat->Bool:=fun j=>j==i||l j
theorem xQ(l:Nat->Bool)(i:Nat):upd l i i=true:=by simp[upd]
theorem zu{l:Nat->Bool}{i j:Nat}(h:j≠i):upd l i j=l j:=by simp[upd,h]
def yv(ops:Array Oper)(j:Nat):Option Tmp:=(ops[j]?).bind (·.dst)
def yu(ops:Array Oper)(l:Nat->Bool)(val:Nat->Value)(L:List Nat)(a:Act):Act:=L.foldl (fun a j=>if l j then a.put (yv ops j) (val j) else a) a
theorem Act.put_put_comm(a:Act){x y:Option Tmp}(v u:Value)(h:∀d,x=some d->y≠some d):(a.put x v).put y u=(a.put y u).put x v:=Act.put_comm a v u h
theorem vH{ops:Array Oper}{l:Nat->Bool}{val:Nat->Value}{x:Option Tmp}(v:Value) :
  ∀(L:List Nat) (a:Act),(∀j∈L,∀d,x=some d->yv ops j≠some d)->yu ops l val L (a.put x v)=(yu ops l val L a).put x v
 | [],_,_=>rfl
 | j::L,a,h=>by
  have hj:∀d,x=some d->yv ops j≠some d:=h j (by simp);have hL:∀k∈L,∀d,x=some d->yv ops k≠some d:=fun k hk=>h k (by simp[hk])
  show yu ops l val L (if l j then (a.put x v).put (yv ops j) (val j) else a.put x v)=(yu ops l val L (if l j then a.put (yv ops j) (val j) else a)).put x v
  by_cases hl:l j=true
  . rw[Lh hl,Lh hl,Act.put_put_comm a v (val j) hj]
    exact vH v L _ hL
  . rw[Lg hl,Lg hl]
    exact vH v L _ hL
theorem qN{ops:Array Oper}{l l':Nat->Bool}{val val':Nat->Value} :
  ∀(L:List Nat) (a:Act),(∀j∈L,l' j=l j/\(l j=true->val' j=val j))->yu ops l' val' L a=yu ops l val L a
 | [],_,_=>rfl
 | j::L,a,h=>by
  have hj:=h j (by simp);show yu ops l' val' L (if l' j then a.put (yv ops j) (val' j) else a)=yu ops l val L (if l j then a.put (yv ops j) (val j) else a);rw[hj.1]
  by_cases hl:l j=true
  . rw[Lh hl,Lh hl,hj.2 hl]
    exact qN L _ (fun k hk=>h k (by simp[hk]))
  . rw[Lg hl,Lg hl]
    exact qN L _ (fun k hk=>h k (by simp[hk]))
theorem jK{ops:Array Oper}{l:Nat->Bool}{val val':Nat->Value}{i:Nat} :
  ∀(L:List Nat) (a:Act),L.Nodup->i∈L->l i=false->(∀j∈L,j≠i->∀d,yv ops i=some d->yv ops j≠some d)->(∀j,l j=true->val' j=val j) ->
   yu ops (upd l i) val' L a=(yu ops l val L a).put (yv ops i) (val' i)
 | [],_,_,h,_,_,_=>by cases h
 | j::L,a,hn,hi,hli,hd,hv=>by
  obtain⟨hj,hn'⟩:=Pv.1 hn
  by_cases e:j=i
  . subst e
    show yu ops (upd l j) val' L (if upd l j j then a.put (yv ops j) (val' j) else a)=(yu ops l val L (if l j then a.put (yv ops j) (val j) else a)).put (yv ops j) (val' j);rw[xQ,Lh rfl,hli];rw[qN (l:=l) (l':=upd l j) (val:=val) (val':=val') L (a.put (yv ops j) (val' j)) (fun k hk=>⟨zu (by rintro rfl;exact hj hk),hv k⟩)];rw[Lg (by simp)];exact vH _ L a (fun k hk=>hd k (by simp[hk]) (fun e=>hj (e▸hk)))
  · have hi' : i ∈ L := by
     rcases L5.1 hi with h | h
     . exact absurd h.symm e
     . exact h
    show yu ops (upd l i) val' L (if upd l i j then a.put (yv ops j) (val' j) else a)=(yu ops l val L (if l j then a.put (yv ops j) (val j) else a)).put (yv ops i) (val' i);rw[zu e]
    by_cases hl:l j=true
    . rw[Lh hl,Lh hl,hv j hl]
      exact jK L _ hn' hi' hli (fun k hk=>hd k (by simp[hk])) hv
    . rw[Lg hl,Lg hl]
      exact jK L _ hn' hi' hli (fun k hk=>hd k (by simp[hk])) hv
theorem put_size(a:Act)(x:Option Tmp)(v:Value):(a.put x v).tmps.size=a.tmps.size:=by cases x<;>simp[Act.put]
theorem JF(a:Act){x:Option Tmp}(v:Value){k:Nat}(h:x≠some k):(a.put x v).tmps[k]?=a.tmps[k]?:=by
 cases x with
 | none=>rfl
 | some d=>exact LU (fun e=>h (by rw[e]))
theorem put_get(a:Act)(v:Value){k:Nat}(h:k<a.tmps.size):(a.put (some k) v).tmps[k]?=some v:=by simp[Act.put,h]
theorem vI{ops:Array Oper}{l:Nat->Bool}{val:Nat->Value}{k:Nat}:∀(L:List Nat) (a:Act),(∀j∈L,yv ops j≠some k)->(yu ops l val L a).tmps[k]?=a.tmps[k]?
 | [],_,_=>rfl
 | j::L,a,h=>by
  show(yu ops l val L (if l j then a.put (yv ops j) (val j) else a)).tmps[k]?=a.tmps[k]?;rw[vI L _ (fun i hi=>h i (by simp[hi]))]
  split
  . exact JF _ _ (h j (by simp))
  . rfl
theorem ZW{ops:Array Oper}{l:Nat->Bool}{val:Nat->Value}{k i:Nat}(hl:l i=true)(hd:yv ops i=some k) :
  ∀(L:List Nat) (a:Act),L.Nodup->i∈L->(∀j∈L,j≠i->yv ops j≠some k)->k<a.tmps.size->(yu ops l val L a).tmps[k]?=some (val i)
 | [],_,_,h,_,_=>by cases h
 | j::L,a,hn,hi,h,hk=>by
  obtain⟨hj,hn'⟩:=Pv.1 hn;show(yu ops l val L (if l j then a.put (yv ops j) (val j) else a)).tmps[k]?=some (val i)
  by_cases e:j=i
  . subst e
    rw[hl,Lh rfl,vI L _ (fun q hq=>h q (by simp[hq]) (fun e=>hj (e▸hq))),hd];exact put_get a _ hk
  · have hi' : i ∈ L := by
     rcases L5.1 hi with h' | h'
     . exact absurd h'.symm e
     . exact h'
    refine ZW hl hd L _ hn' hi' (fun q hq=>h q (by simp[hq])) ?_
    split
    . rw[put_size];exact hk
    . exact hk
structure Agr(ops:Array Oper)(a0:Act)(l:Nat->Bool)(val:Nat->Value)(a:Act):Prop where
 new:∀(i k:Nat),yv ops i=some k->l i=true->k<a0.tmps.size->a.eval (.tmp k)=val i
 old:∀(k:Nat),(List.range ops.size).all (fun j=>yv ops j != some k)=true->a.eval (.tmp k)=a0.eval (.tmp k)
theorem QY(a:Act)(k:Nat):a.eval (.tmp k)=(a.tmps[k]?).getD undef:=by simp[Act.eval]
theorem Agr.newD{ops:Array Oper}{a0:Act}{l:Nat->Bool}{val:Nat->Value}{a:Act}(h:Agr ops a0 l val a)(i k:Nat)(hd:yv ops i=some k)(hl:l i=true)(hk:k<a0.tmps.size):(a.tmps[k]?).getD undef=val i:=(QY a k).symm.trans (h.new i k hd hl hk)
theorem Agr.oldD{ops:Array Oper}{a0:Act}{l:Nat->Bool}{val:Nat->Value}{a:Act}(h:Agr ops a0 l val a)(k:Nat)(hd:(List.range ops.size).all (fun j=>yv ops j != some k)=true):(a.tmps[k]?).getD undef=a0.eval (.tmp k):=(QY a k).symm.trans (h.old k hd)
section
variable {P:Program} {G:Type}
def StepAt(P:Program)(ops:Array Oper)(Q:Exit->Act->Ba->Prop)(a0:Act)(val:G->Nat->Value)(J:(Nat->Bool)->G->Ba->Prop)(i:Nat)(o:Oper):Prop:=
 ∀(l:Nat->Bool) (g:G) (w:Ba) (a:Act),J l g w->l i=false->(∀e∈o.after.toList,Region.binds .any e=true->l e.on=true)->Agr ops a0 l (val g) a ->
  if Region.wanted o (yielded ops a.tmps) then o.wp P a w (fun a' w'=>∃g' v,a'=a.put o.dst v/\val g' i=v/\(∀j,l j=true->val g' j=val g j)/\J (upd l i) g' w') Q
  else ∃g',val g' i=undef/\(∀j,l j=true->val g' j=val g j)/\J (upd l i) g' w
def StepsFrom(P:Program)(ops:Array Oper)(Q:Exit->Act->Ba->Prop)(a0:Act)(val:G->Nat->Value)(J:(Nat->Bool)->G->Ba->Prop):Nat->List Oper->Prop
 | _,[]=>True
 | i,o::rest=>StepAt P ops Q a0 val J i o/\StepsFrom P ops Q a0 val J (i+1) rest
theorem StepsFrom.at_{ops:Array Oper}{Q:Exit->Act->Ba->Prop}{a0:Act}{val:G->Nat->Value}{J:(Nat->Bool)->G->Ba->Prop} :
  ∀(n:Nat) (os:List Oper),StepsFrom P ops Q a0 val J n os->∀i o,os[i]?=some o->StepAt P ops Q a0 val J (n+i) o
 | _,[],_,i,o,h=>by simp at h
 | n,o'::os,h,0,o,ho=>by
  simp at ho;subst ho;exact h.1
 | n,o'::os,h,i+1,o,ho=>by
  have:=StepsFrom.at_ (n+1) os h.2 i o (by simpa using ho);rwa[show n+(i+1)=n+1+i from by omega]
def dagB(ops:Array Oper):Bool:=
 (List.range ops.size).all fun i=>match ops[i]? with
  | some o=>o.after.toList.all (fun e=>!Region.binds .any e||decide (e.on<i))&&(List.range ops.size).all (fun j=>j==i||o.dst.isNone||yv ops j != o.dst)
  | none=>true
theorem Q1{ops:Array Oper}(h:dagB ops=true){i:Nat}{o:Oper}(ho:ops[i]?=some o):∀e∈o.after.toList,Region.binds .any e=true->e.on<i:=by
 intro e he hb;have hi:i<ops.size:=(Ln.1 ho).1;have:=LK.1 h i (by simpa using hi);simp only[ho,Bool.and_eq_true] at this;have:=LK.1 this.1 e he;simpa[hb] using this
theorem dag_dst{ops:Array Oper}(h:dagB ops=true){i j d:Nat}(hij:j≠i)(hj:j<ops.size)(hd:yv ops i=some d):yv ops j≠some d:=by
 unfold yv at hd
 cases ho:ops[i]? with
 | none=>simp[ho] at hd
 | some o=>
  simp[ho] at hd;have hi:i<ops.size:=(Ln.1 ho).1;have h1:=LK.1 h i (by simpa using hi);simp only[ho,Bool.and_eq_true] at h1;have h2:=LK.1 h1.2 j (by simpa using hj);simpa[hij,hd] using h2
def Zx(l:Nat->Bool)(n:Nat):Nat:=((List.range n).filter fun j=>!l j).length
theorem vn{α:Type}{p q:α->Bool}(h:∀x,q x=true->p x=true):∀(L:List α) (x:α),x∈L->p x=true->q x=false->(L.filter q).length<(L.filter p).length
 | [],_,hx,_,_=>by cases hx
 | y::L,x,hx,hp,hq=>by
  have hle:∀L:List α,(L.filter q).length<=(L.filter p).length:=by
   intro L
   induction L with
   | nil=>simp
   | cons z L ih=>
    rw[Rl,Rl]
    by_cases hz:q z=true
    . rw[Lh hz,Lh (h z hz)];simpa using ih
    . rw[Lg hz]
      split
      . simp only[List.length_cons];omega
      . exact ih
  rw[Rl,Rl];rcases L5.1 hx with rfl | hx
  . rw[hp,hq]
    have:=hle L;simp;omega
  . have ih:=vn h L x hx hp hq
    by_cases hz:q y=true
    . rw[Lh hz,Lh (h y hz)];simpa using ih
    . rw[Lg hz]
      split
      . simp only[List.length_cons];omega
      . exact ih
theorem openN_upd{l:Nat->Bool}{n i:Nat}(hi:i<n)(hl:l i=false):Zx (upd l i) n<Zx l n:=by
 unfold Zx;refine vn (fun x hx=>?_) _ i (by simpa using hi) (by simp[hl]) (by simp[upd]);simp[upd] at hx ⊢;exact hx.2
theorem JN{l:Nat->Bool}{n:Nat}(h:Zx l n=0){i:Nat}(hi:i<n):l i=true:=by
 unfold Zx at h;have:=Py.1 h;rw[List.filter_eq_nil_iff] at this;simpa using this i (by simpa using hi)
theorem wpAny_dag{ops:Array Oper}{Q:Exit->Act->Ba->Prop}{a0:Act}{val:G->Nat->Value}{J:(Nat->Bool)->G->Ba->Prop}(hd:dagB ops=true)
  (hs:StepsFrom P ops Q a0 val J 0 ops.toList)
  (hend:∀(l:Nat->Bool) (g:G) (w:Ba),(∀i,i<ops.size->l i=true)->J l g w->Q .normal (yu ops (fun _=>true) (val g) (List.range ops.size) a0) w) :
  ∀(fuel:Nat) (listed:Array Bool) (l:Nat->Bool) (g:G) (w:Ba),Zx l ops.size<=fuel->listed.size=ops.size->(∀i,i<ops.size->listed.getD i true=l i)->J l g w ->
   wpAny P .any ops Q fuel listed (yu ops l (val g) (List.range ops.size) a0) w:=by
 have fin:∀(listed:Array Bool) (l:Nat->Bool) (g:G) (w:Ba),listed.size=ops.size->(∀i,i<ops.size->listed.getD i true=l i)->J l g w->(∀i,i<ops.size->l i=true) ->
   Region.ready .any ops listed=[]/\Q .normal (yu ops l (val g) (List.range ops.size) a0) w:=by
  intro listed l g w hsz hl hJ hall;refine⟨?_,?_⟩
  . refine List.eq_nil_iff_forall_not_mem.2 fun i hi=>?_
    obtain⟨h0,o,ho,_⟩:=PV.1 hi;have hlt:i<ops.size:=(Ln.1 ho).1;rw[hl i hlt,hall i hlt] at h0
    cases h0
  . have:=hend l g w hall hJ
    rwa[qN (l:=l) (val:=val g) _ _ (fun j hj=>⟨(hall j (by simpa using hj)).symm,fun _=>rfl⟩)] at this
 intro fuel
 induction fuel with
 | zero=>
  intro listed l g w hf hsz hl hJ;exact fin listed l g w hsz hl hJ (fun i hi=>JN (by omega) hi)
 | succ fuel ih=>
  intro listed l g w hf hsz hl hJ;refine⟨fun hr=>?_,fun i hi=>?_⟩
  . refine(fin listed l g w hsz hl hJ fun i hi=>?_).2
    -- the least that is not in l would be ready
    refine Nat.strongRecOn (motive:=fun i=>i<ops.size->l i=true) i (fun i IH hi=>?_) hi
    cases hli:l i with
    | true=>rfl
    | false=>
     have:i∈Region.ready .any ops listed:=by
      refine PV.2 ⟨by rw[hl i hi,hli],ops[i],by simp[hi],fun e he hb=>?_⟩;have hlt:=Q1 hd (o:=ops[i]) (i:=i) (by simp[hi]) e (by simpa using he) hb;have h1:=IH e.on hlt (by omega);rw[<-hl e.on (by omega)] at h1;have h2:e.on<listed.size:=by omega
      simpa[Array.getD,h2] using h1
     rw[hr] at this
     cases this
  . obtain⟨h0,o,ho,hall⟩:=PV.1 hi
    have hlt:i<ops.size:=(Ln.1 ho).1;have hli:l i=false:=by rw[<-hl i hlt];exact h0
    have hst:=StepsFrom.at_ 0 ops.toList hs i o (by simpa using ho);rw[LH] at hst
    have hagr:Agr ops a0 l (val g) (yu ops l (val g) (List.range ops.size) a0):=by
     refine⟨fun j k hj hlj hk=>?_,fun k hk=>?_⟩
     · have hjs : j < ops.size := by
        unfold yv at hj;rcases RN j ops.size with h | h
        . exact h
        . simp[Array.getElem?_eq_none h] at hj
       have:=ZW (val:=val g) hlj hj (List.range ops.size) a0 List.nodup_range (by simpa using hjs) (fun q hq hqj=>dag_dst hd hqj (by simpa using hq) hj) hk;simp[Act.eval,Array.getD_eq_getD_getElem?,this]
     . have:=vI (ops:=ops) (l:=l) (val:=val g) (k:=k) (List.range ops.size) a0 (fun j hj=>by have:=LK.1 hk j hj;simpa using this)
       simp only[Act.eval,Array.getD_eq_getD_getElem?,this]
    have hst':=hst l g w _ hJ hli (fun e he hb=>by
     have h1:=hall e (by simpa using he) hb;have hlt':=Q1 hd ho e he hb;rw[<-hl e.on (by omega)];have h2:e.on<listed.size:=by omega
     simpa[Array.getD,h2] using h1) hagr
    have hdst:yv ops i=o.dst:=by simp[yv,ho]
    have go:∀(g':G) (w':Ba) (v:Value),val g' i=v->(∀j,l j=true->val g' j=val g j)->J (upd l i) g' w' ->
      wpAny P .any ops Q fuel (listed.setIfInBounds i true) ((yu ops l (val g) (List.range ops.size) a0).put o.dst v) w':=by
     intro g' w' v hv hval hJ'
     have e:=jK (ops:=ops) (l:=l) (val:=val g) (val':=val g') (i:=i) (List.range ops.size) a0 List.nodup_range (by simpa using hlt) hli
      (fun j hj hji d hd'=>dag_dst hd hji (by simpa using hj) hd') hval
     rw[hv,hdst] at e;rw[<-e];refine ih (listed.setIfInBounds i true) (upd l i) g' w' ?_ (by simpa using hsz) (fun j hj=>?_) hJ'
     . have:=openN_upd hlt hli;omega
     . by_cases hji:j=i
       . subst hji
         rw[xQ];have:j<listed.size:=by omega
         simp[Array.getD,this]
       . rw[zu hji,<-hl j hj]
         exact getD_set_ne true (fun e=>hji e.symm)
    unfold wpOp;simp only[ho]
    split
    . rename_i hw
      rw[Lh hw] at hst';refine .inl (RM (fun a' w' h=>?_) hst');obtain⟨g',v,rfl,hv,hval,hJ'⟩:=h;exact go g' w' v hv hval hJ'
    . rename_i hw
      rw[Lg hw] at hst';obtain⟨g',hv,hval,hJ'⟩:=hst';exact go g' w undef hv hval hJ'
theorem Z8{ops:Array Oper}{Q:Exit->Act->Ba->Prop}{a0:Act}{w0:Ba}{id:Nat}(hm:P.follows .mixedOrders=true)(val:G->Nat->Value)(J:(Nat->Bool)->G->Ba->Prop)
  (hd:dagB ops=true) (g0:G) (h0:J (fun _=>false) g0 w0.drew) (hs:StepsFrom P ops Q a0 val J 0 ops.toList)
  (hend:∀(l:Nat->Bool) (g:G) (w:Ba),(∀i,i<ops.size->l i=true)->J l g w->Q .normal (yu ops (fun _=>true) (val g) (List.range ops.size) a0) w) :
  (Code.region id ops true).wp P Q a0 w0:=by
 refine wp_region_any hm ?_
 have:=wpAny_dag hd hs hend ops.size (Array.replicate ops.size false) (fun _=>false) g0 w0.drew (by unfold Zx;exact Lz (List.length_filter_le _ _) (by simp)) (by simp)
  (fun i hi=>by simp[Array.getD,hi]) h0
 have e:yu ops (fun _=>false) (val g0) (List.range ops.size) a0=a0:=by
  generalize List.range ops.size=L
  induction L with
  | nil=>rfl
  | cons j L ih=>exact ih
 rw[e] at this;exact this
end
def YG:List (Option Tmp)->(Nat->Value)->Nat->Act->Act
 | [],_,_,a=>a
 | d::D,v,i,a=>YG D v (i+1) (a.put d (v i))
theorem putsL_nil(v:Nat->Value)(i:Nat)(a:Act):YG [] v i a=a:=rfl
theorem Zt(d:Option Tmp)(D:List (Option Tmp))(v:Nat->Value)(i:Nat)(a:Act):YG (d::D) v i a=YG D v (i+1) (a.put d (v i)):=rfl
theorem gh(ops:Array Oper)(val:Nat->Value):∀(n i:Nat) (a:Act),i+n=ops.size->yu ops (fun _=>true) val (List.range' i n) a=YG ((ops.toList.drop i).map (·.dst)) val i a
 | 0,i,a,h=>by
  have:ops.toList.drop i=[]:=List.drop_eq_nil_of_le (by simp;omega);rw[this];rfl
 | n+1,i,a,h=>by
  have hi:i<ops.toList.length:=by simp;omega
  rw[Ly hi,LT,Zt,List.range'_succ];have e:yv ops i=ops.toList[i].dst:=by simp[yv,show i<ops.size by omega]
  rw[<-e];exact gh ops val n (i+1) _ (by omega)
theorem XL{ops:Array Oper}{val:Nat->Value}{D:List (Option Tmp)}(hD:ops.toList.map (·.dst)=D)(a:Act):yu ops (fun _=>true) val (List.range ops.size) a=YG D val 0 a:=by
 rw[List.range_eq_range',gh ops val ops.size 0 a (by omega),L4,hD]
end
section
open Go.RowKit Go.Shelf
attribute [local go_sem] Oper.semAt_some
def Yp(k bw:Nat):Value:=.func (.func k) #[.pointer (some ⟨bw,0,none⟩)] #[]
def grF(c:Nat):Value:=.func (.func 69) #[] #[.pointer (some ⟨c,0,none⟩)]
def knF(b:Nat):Value:=.func (.func 70) #[] #[.pointer (some ⟨b,0,none⟩)]
def opQ(x2 x7 x12 x17:Bool)(b0 c1 c2 c3:Nat):Int->Option Value:=fun g=>if g=10 then (if x2 then some (knF b0) else none) else if g=11 then (if x7 then some (grF c1) else none) else if g=12 then (if x12 then some (grF c2) else none) else if g=13 then (if x17 then some (grF c3) else none) else none
def GrB(w:Ba)(c k bw:Nat):Prop:=w.heap[c]?=some (.cells #[Yp k bw] 80 (0,0))
theorem GrB.keep{w w':Ba}{c k bw:Nat}(h:GrB w c k bw)(hb:Below w.heap.size w w'):GrB w' c k bw:=La hb h
theorem GrB.put{w w':Ba}{c k bw mb m:Nat}{F:Int->Option Value}(h:GrB w c k bw)(hm:MapOf (Value.int .i64) w mb m F)(hg:w.grownBy w' (some mb)):GrB w' c k bw:=by
 refine(hg.block _ (zj h) (fun e=>?_)).trans h
 cases e
 obtain⟨es,clock,hb,_⟩:=hm;unfold GrB at h;rw[h] at hb;cases hb
structure GOp where
 mb:Nat
 c1:Nat
 c2:Nat
 c3:Nat
def kd(b0 bw:Nat)(g:GOp):Nat->Value
 | 0=>.map (some g.mb)
 | 1=>knF b0
 | 3=>.func (.func 68) #[] #[]
 | 4=>.pointer (some ⟨bw,0,none⟩)
 | 5=>Yp 26 bw
 | 6=>grF g.c1
 | 8=>.func (.func 68) #[] #[]
 | 9=>.pointer (some ⟨bw,0,none⟩)
 | 10=>Yp 36 bw
 | 11=>grF g.c2
 | 13=>.func (.func 68) #[] #[]
 | 14=>.pointer (some ⟨bw,0,none⟩)
 | 15=>Yp 71 bw
 | 16=>grF g.c3
 | 18=>.map (some g.mb)
 | 19=>.map (some g.mb)
 | _=>undef
theorem valO_mb{l:Nat->Bool}{b0 bw:Nat}{g:GOp}(x:Nat)(hl:l 0=false)(h18:l 18=true->l 0=true)(h19:l 19=true->l 0=true):∀j,l j=true->kd b0 bw { g with mb:=x } j=kd b0 bw g j
 | 0,hj=>absurd hj (by rw[hl];decide)
 | 1,_=>rfl
 | 2,_=>rfl
 | 3,_=>rfl
 | 4,_=>rfl
 | 5,_=>rfl
 | 6,_=>rfl
 | 7,_=>rfl
 | 8,_=>rfl
 | 9,_=>rfl
 | 10,_=>rfl
 | 11,_=>rfl
 | 12,_=>rfl
 | 13,_=>rfl
 | 14,_=>rfl
 | 15,_=>rfl
 | 16,_=>rfl
 | 17,_=>rfl
 | 18,hj=>absurd (h18 hj) (by rw[hl];decide)
 | 19,hj=>absurd (h19 hj) (by rw[hl];decide)
 | _+20,_=>rfl
theorem valO_c1{l:Nat->Bool}{b0 bw:Nat}{g:GOp}(x:Nat)(hl:l 6=false):∀j,l j=true->kd b0 bw { g with c1:=x } j=kd b0 bw g j
 | 0,_=>rfl
 | 1,_=>rfl
 | 2,_=>rfl
 | 3,_=>rfl
 | 4,_=>rfl
 | 5,_=>rfl
 | 6,hj=>absurd hj (by rw[hl];decide)
 | 7,_=>rfl
 | 8,_=>rfl
 | 9,_=>rfl
 | 10,_=>rfl
 | 11,_=>rfl
 | 12,_=>rfl
 | 13,_=>rfl
 | 14,_=>rfl
 | 15,_=>rfl
 | 16,_=>rfl
 | 17,_=>rfl
 | 18,_=>rfl
 | 19,_=>rfl
 | _+20,_=>rfl
theorem valO_c2{l:Nat->Bool}{b0 bw:Nat}{g:GOp}(x:Nat)(hl:l 11=false):∀j,l j=true->kd b0 bw { g with c2:=x } j=kd b0 bw g j
 | 0,_=>rfl
 | 1,_=>rfl
 | 2,_=>rfl
 | 3,_=>rfl
 | 4,_=>rfl
 | 5,_=>rfl
 | 6,_=>rfl
 | 7,_=>rfl
 | 8,_=>rfl
 | 9,_=>rfl
 | 10,_=>rfl
 | 11,hj=>absurd hj (by rw[hl];decide)
 | 12,_=>rfl
 | 13,_=>rfl
 | 14,_=>rfl
 | 15,_=>rfl
 | 16,_=>rfl
 | 17,_=>rfl
 | 18,_=>rfl
 | 19,_=>rfl
 | _+20,_=>rfl
theorem valO_c3{l:Nat->Bool}{b0 bw:Nat}{g:GOp}(x:Nat)(hl:l 16=false):∀j,l j=true->kd b0 bw { g with c3:=x } j=kd b0 bw g j
 | 0,_=>rfl
 | 1,_=>rfl
 | 2,_=>rfl
 | 3,_=>rfl
 | 4,_=>rfl
 | 5,_=>rfl
 | 6,_=>rfl
 | 7,_=>rfl
 | 8,_=>rfl
 | 9,_=>rfl
 | 10,_=>rfl
 | 11,_=>rfl
 | 12,_=>rfl
 | 13,_=>rfl
 | 14,_=>rfl
 | 15,_=>rfl
 | 16,hj=>absurd hj (by rw[hl];decide)
 | 17,_=>rfl
 | 18,_=>rfl
 | 19,_=>rfl
 | _+20,_=>rfl
structure JOp(W:Ba)(b0 bw:Nat)(l:Nat->Bool)(g:GOp)(w:Ba):Prop where
 low:Below W.heap.size W w
 map:l 0=true->W.heap.size<=g.mb/\∃m,MapOf (Value.int .i64) w g.mb m (opQ (l 2) (l 7) (l 12) (l 17) b0 g.c1 g.c2 g.c3)
 q1:l 6=true->GrB w g.c1 26 bw
 q2:l 11=true->GrB w g.c2 36 bw
 q3:l 16=true->GrB w g.c3 71 bw
 d2:l 2=true->l 0=true
 d7:l 7=true->l 0=true/\l 6=true
 d12:l 12=true->l 0=true/\l 11=true
 d17:l 17=true->l 0=true/\l 16=true
 d18:l 18=true->l 0=true
 d19:l 19=true->l 0=true
section
variable {W:Ba} {b0 bw:Nat} {l:Nat->Bool} {g:GOp} {w:Ba}
theorem bf{x y:Bool}(h:x=true->y=true)(hy:y=false):x=false:=by cases x with | false=>rfl | true=>rw[h rfl] at hy;cases hy
theorem JOp.below(h:JOp W b0 bw l g w){w':Ba}(hb:Below w.heap.size w w'):JOp W b0 bw l g w':=
 ⟨Lc h.low hb,fun e=>⟨(h.map e).1,by obtain⟨m,hm⟩:=(h.map e).2;exact⟨m,hm.same (hb.block _ hm.lt)⟩⟩,fun e=>(h.q1 e).keep hb,fun e=>(h.q2 e).keep hb,fun e=>(h.q3 e).keep hb,h.d2,h.d7,h.d12,h.d17,h.d18,h.d19⟩
theorem JOp.idle(h:JOp W b0 bw l g w){i:Nat}(hi:i≠0/\i≠2/\i≠6/\i≠7/\i≠11/\i≠12/\i≠16/\i≠17)(h1:i=18\/i=19->l 0=true):JOp W b0 bw (upd l i) g w:=by
 obtain⟨i0,i2,i6,i7,i11,i12,i16,i17⟩:=hi;have e0:upd l i 0=l 0:=zu (fun e=>i0 e.symm);have e2:upd l i 2=l 2:=zu (fun e=>i2 e.symm);have e6:upd l i 6=l 6:=zu (fun e=>i6 e.symm);have e7:upd l i 7=l 7:=zu (fun e=>i7 e.symm);have e11:upd l i 11=l 11:=zu (fun e=>i11 e.symm);have e12:upd l i 12=l 12:=zu (fun e=>i12 e.symm);have e16:upd l i 16=l 16:=zu (fun e=>i16 e.symm);have e17:upd l i 17=l 17:=zu (fun e=>i17 e.symm);refine⟨h.low,?_,?_,?_,?_,?_,?_,?_,?_,?_,?_⟩
 . rw[e0,e2,e7,e12,e17];exact h.map
 . rw[e6];exact h.q1
 . rw[e11];exact h.q2
 . rw[e16];exact h.q3
 . rw[e2,e0];exact h.d2
 . rw[e7,e0,e6];exact h.d7
 . rw[e12,e0,e11];exact h.d12
 . rw[e17,e0,e16];exact h.d17
 . rw[e0]
   intro e
   by_cases h9:i=18
   . exact h1 (.inl h9)
   . rw[zu (fun x=>h9 x.symm)] at e;exact h.d18 e
 . rw[e0]
   intro e
   by_cases h9:i=19
   . exact h1 (.inr h9)
   . rw[zu (fun x=>h9 x.symm)] at e;exact h.d19 e
theorem JOp.made(h:JOp W b0 bw l g w)(hl:l 0=false):JOp W b0 bw (upd l 0) { g with mb:=w.heap.size } (w.alloc (.map #[] 0)):=by
 have h':=h.below (zW w (.map #[] 0));have e2:upd l 0 2=l 2:=zu (by decide);have e6:upd l 0 6=l 6:=zu (by decide);have e7:upd l 0 7=l 7:=zu (by decide);have e11:upd l 0 11=l 11:=zu (by decide);have e12:upd l 0 12=l 12:=zu (by decide);have e16:upd l 0 16=l 16:=zu (by decide);have e17:upd l 0 17=l 17:=zu (by decide);have e18:upd l 0 18=l 18:=zu (by decide);have e19:upd l 0 19=l 19:=zu (by decide);have u:upd l 0 0=true:=xQ _ _;have f2:=bf h.d2 hl;have f7:=bf (fun e=>(h.d7 e).1) hl;have f12:=bf (fun e=>(h.d12 e).1) hl;have f17:=bf (fun e=>(h.d17 e).1) hl;refine⟨h'.low,fun _=>⟨h.low.size,0,?_⟩,?_,?_,?_,?_,?_,?_,?_,?_,?_⟩
 . rw[e2,e7,e12,e17,f2,f7,f12,f17]
   have e:opQ false false false false b0 g.c1 g.c2 g.c3=fun _=>none:=by funext k;simp[opQ]
   show MapOf (Value.int .i64) (w.alloc (.map #[] 0)) w.heap.size 0 (opQ false false false false b0 g.c1 g.c2 g.c3);rw[e];exact MapOf.made w
 . rw[e6];exact h'.q1
 . rw[e11];exact h'.q2
 . rw[e16];exact h'.q3
 . intro _;exact u
 . rw[e7,f7];intro e;cases e
 . rw[e12,f12];intro e;cases e
 . rw[e17,f17];intro e;cases e
 . intro _;exact u
 . intro _;exact u
theorem JOp.call1(h0:JOp W b0 bw l g w)(hl:l 6=false){w':Ba}(hb:Below w.heap.size w w'){x:Nat}(hq:GrB w' x 26 bw):JOp W b0 bw (upd l 6) { g with c1:=x } w':=by
 have h:=h0.below hb;have e0:upd l 6 0=l 0:=zu (by decide);have e2:upd l 6 2=l 2:=zu (by decide);have e7:upd l 6 7=l 7:=zu (by decide);have e11:upd l 6 11=l 11:=zu (by decide);have e12:upd l 6 12=l 12:=zu (by decide);have e16:upd l 6 16=l 16:=zu (by decide);have e17:upd l 6 17=l 17:=zu (by decide);have e18:upd l 6 18=l 18:=zu (by decide);have e19:upd l 6 19=l 19:=zu (by decide);have u:upd l 6 6=true:=xQ _ _;have fd:=bf (fun e=>(h.d7 e).2) hl;refine⟨h.low,?_,?_,?_,?_,?_,?_,?_,?_,?_,?_⟩
 . rw[e0,e2,e7,e12,e17,fd]
   intro e;obtain⟨h1,m,hm⟩:=h.map e;rw[fd] at hm;have ee:opQ (l 2) false (l 12) (l 17) b0 g.c1 g.c2 g.c3=opQ (l 2) false (l 12) (l 17) b0 x g.c2 g.c3:=by funext k;simp[opQ]
   rw[ee] at hm;exact⟨h1,m,hm⟩
 . intro _;exact hq
 . rw[e11];exact h.q2
 . rw[e16];exact h.q3
 . rw[e2,e0];exact h.d2
 . rw[e7,fd];intro e;cases e
 . rw[e12,e0,e11];exact h.d12
 . rw[e17,e0,e16];exact h.d17
 . rw[e18,e0];exact h.d18
 . rw[e19,e0];exact h.d19
theorem JOp.call2(h0:JOp W b0 bw l g w)(hl:l 11=false){w':Ba}(hb:Below w.heap.size w w'){x:Nat}(hq:GrB w' x 36 bw):JOp W b0 bw (upd l 11) { g with c2:=x } w':=by
 have h:=h0.below hb;have e0:upd l 11 0=l 0:=zu (by decide);have e2:upd l 11 2=l 2:=zu (by decide);have e6:upd l 11 6=l 6:=zu (by decide);have e7:upd l 11 7=l 7:=zu (by decide);have e12:upd l 11 12=l 12:=zu (by decide);have e16:upd l 11 16=l 16:=zu (by decide);have e17:upd l 11 17=l 17:=zu (by decide);have e18:upd l 11 18=l 18:=zu (by decide);have e19:upd l 11 19=l 19:=zu (by decide);have u:upd l 11 11=true:=xQ _ _;have fd:=bf (fun e=>(h.d12 e).2) hl;refine⟨h.low,?_,?_,?_,?_,?_,?_,?_,?_,?_,?_⟩
 . rw[e0,e2,e7,e12,e17,fd]
   intro e;obtain⟨h1,m,hm⟩:=h.map e;rw[fd] at hm;have ee:opQ (l 2) (l 7) false (l 17) b0 g.c1 g.c2 g.c3=opQ (l 2) (l 7) false (l 17) b0 g.c1 x g.c3:=by funext k;simp[opQ]
   rw[ee] at hm;exact⟨h1,m,hm⟩
 . rw[e6];exact h.q1
 . intro _;exact hq
 . rw[e16];exact h.q3
 . rw[e2,e0];exact h.d2
 . rw[e7,e0,e6];exact h.d7
 . rw[e12,fd];intro e;cases e
 . rw[e17,e0,e16];exact h.d17
 . rw[e18,e0];exact h.d18
 . rw[e19,e0];exact h.d19
theorem JOp.call3(h0:JOp W b0 bw l g w)(hl:l 16=false){w':Ba}(hb:Below w.heap.size w w'){x:Nat}(hq:GrB w' x 71 bw):JOp W b0 bw (upd l 16) { g with c3:=x } w':=by
 have h:=h0.below hb;have e0:upd l 16 0=l 0:=zu (by decide);have e2:upd l 16 2=l 2:=zu (by decide);have e6:upd l 16 6=l 6:=zu (by decide);have e7:upd l 16 7=l 7:=zu (by decide);have e11:upd l 16 11=l 11:=zu (by decide);have e12:upd l 16 12=l 12:=zu (by decide);have e17:upd l 16 17=l 17:=zu (by decide);have e18:upd l 16 18=l 18:=zu (by decide);have e19:upd l 16 19=l 19:=zu (by decide);have u:upd l 16 16=true:=xQ _ _;have fd:=bf (fun e=>(h.d17 e).2) hl;refine⟨h.low,?_,?_,?_,?_,?_,?_,?_,?_,?_,?_⟩
 . rw[e0,e2,e7,e12,e17,fd]
   intro e;obtain⟨h1,m,hm⟩:=h.map e;rw[fd] at hm;have ee:opQ (l 2) (l 7) (l 12) false b0 g.c1 g.c2 g.c3=opQ (l 2) (l 7) (l 12) false b0 g.c1 g.c2 x:=by funext k;simp[opQ]
   rw[ee] at hm;exact⟨h1,m,hm⟩
 . rw[e6];exact h.q1
 . rw[e11];exact h.q2
 . intro _;exact hq
 . rw[e2,e0];exact h.d2
 . rw[e7,e0,e6];exact h.d7
 . rw[e12,e0,e11];exact h.d12
 . rw[e17,fd];intro e;cases e
 . rw[e18,e0];exact h.d18
 . rw[e19,e0];exact h.d19
theorem JOp.put2(h:JOp W b0 bw l g w)(l0:l 0=true){w':Ba}{m m':Nat}{F:Int->Option Value}(hm:MapOf (Value.int .i64) w g.mb m F)(hg:w.grownBy w' (some g.mb))(hm':MapOf (Value.int .i64) w' g.mb m' (xf (opQ (l 2) (l 7) (l 12) (l 17) b0 g.c1 g.c2 g.c3) 10 (knF b0))):JOp W b0 bw (upd l 2) g w':=by
 have e0:upd l 2 0=l 0:=zu (by decide);have e6:upd l 2 6=l 6:=zu (by decide);have e7:upd l 2 7=l 7:=zu (by decide);have e11:upd l 2 11=l 11:=zu (by decide);have e12:upd l 2 12=l 12:=zu (by decide);have e16:upd l 2 16=l 16:=zu (by decide);have e17:upd l 2 17=l 17:=zu (by decide);have e18:upd l 2 18=l 18:=zu (by decide);have e19:upd l 2 19=l 19:=zu (by decide);have u:upd l 2 2=true:=xQ _ _;refine⟨h.low.grown hg h.low.size (fun k e=>by cases e;exact(h.map l0).1),fun _=>⟨(h.map l0).1,m',?_⟩,?_,?_,?_,?_,?_,?_,?_,?_,?_⟩
 . rw[u,e7,e12,e17]
   have ee:xf (opQ (l 2) (l 7) (l 12) (l 17) b0 g.c1 g.c2 g.c3) 10 (knF b0)=opQ true (l 7) (l 12) (l 17) b0 g.c1 g.c2 g.c3:=by
    funext k
    unfold xf opQ
    by_cases hk:k=10
    . subst hk;simp
    . simp[hk]
   rw[ee] at hm';exact hm'
 . rw[e6];exact fun e=>(h.q1 e).put hm hg
 . rw[e11];exact fun e=>(h.q2 e).put hm hg
 . rw[e16];exact fun e=>(h.q3 e).put hm hg
 . rw[e0];intro _;exact l0
 . rw[e7,e0,e6];exact h.d7
 . rw[e12,e0,e11];exact h.d12
 . rw[e17,e0,e16];exact h.d17
 . rw[e18,e0];exact h.d18
 . rw[e19,e0];exact h.d19
theorem JOp.put7(h:JOp W b0 bw l g w)(l0:l 0=true)(h6:l 6=true){w':Ba}{m m':Nat}{F:Int->Option Value}(hm:MapOf (Value.int .i64) w g.mb m F)(hg:w.grownBy w' (some g.mb))(hm':MapOf (Value.int .i64) w' g.mb m' (xf (opQ (l 2) (l 7) (l 12) (l 17) b0 g.c1 g.c2 g.c3) 11 (grF g.c1))):JOp W b0 bw (upd l 7) g w':=by
 have e0:upd l 7 0=l 0:=zu (by decide);have e2:upd l 7 2=l 2:=zu (by decide);have e6:upd l 7 6=l 6:=zu (by decide);have e11:upd l 7 11=l 11:=zu (by decide);have e12:upd l 7 12=l 12:=zu (by decide);have e16:upd l 7 16=l 16:=zu (by decide);have e17:upd l 7 17=l 17:=zu (by decide);have e18:upd l 7 18=l 18:=zu (by decide);have e19:upd l 7 19=l 19:=zu (by decide);have u:upd l 7 7=true:=xQ _ _;refine⟨h.low.grown hg h.low.size (fun k e=>by cases e;exact(h.map l0).1),fun _=>⟨(h.map l0).1,m',?_⟩,?_,?_,?_,?_,?_,?_,?_,?_,?_⟩
 . rw[e2,u,e12,e17]
   have ee:xf (opQ (l 2) (l 7) (l 12) (l 17) b0 g.c1 g.c2 g.c3) 11 (grF g.c1)=opQ (l 2) true (l 12) (l 17) b0 g.c1 g.c2 g.c3:=by
    funext k
    unfold xf opQ
    by_cases hk:k=11
    . subst hk;simp
    . simp[hk]
   rw[ee] at hm';exact hm'
 . rw[e6];exact fun e=>(h.q1 e).put hm hg
 . rw[e11];exact fun e=>(h.q2 e).put hm hg
 . rw[e16];exact fun e=>(h.q3 e).put hm hg
 . rw[e2,e0];exact h.d2
 . rw[e0,e6];intro _;exact⟨l0,h6⟩
 . rw[e12,e0,e11];exact h.d12
 . rw[e17,e0,e16];exact h.d17
 . rw[e18,e0];exact h.d18
 . rw[e19,e0];exact h.d19
theorem JOp.put12(h:JOp W b0 bw l g w)(l0:l 0=true)(h6:l 11=true){w':Ba}{m m':Nat}{F:Int->Option Value}(hm:MapOf (Value.int .i64) w g.mb m F)(hg:w.grownBy w' (some g.mb))(hm':MapOf (Value.int .i64) w' g.mb m' (xf (opQ (l 2) (l 7) (l 12) (l 17) b0 g.c1 g.c2 g.c3) 12 (grF g.c2))):JOp W b0 bw (upd l 12) g w':=by
 have e0:upd l 12 0=l 0:=zu (by decide);have e2:upd l 12 2=l 2:=zu (by decide);have e6:upd l 12 6=l 6:=zu (by decide);have e7:upd l 12 7=l 7:=zu (by decide);have e11:upd l 12 11=l 11:=zu (by decide);have e16:upd l 12 16=l 16:=zu (by decide);have e17:upd l 12 17=l 17:=zu (by decide);have e18:upd l 12 18=l 18:=zu (by decide);have e19:upd l 12 19=l 19:=zu (by decide);have u:upd l 12 12=true:=xQ _ _;refine⟨h.low.grown hg h.low.size (fun k e=>by cases e;exact(h.map l0).1),fun _=>⟨(h.map l0).1,m',?_⟩,?_,?_,?_,?_,?_,?_,?_,?_,?_⟩
 . rw[e2,e7,u,e17]
   have ee:xf (opQ (l 2) (l 7) (l 12) (l 17) b0 g.c1 g.c2 g.c3) 12 (grF g.c2)=opQ (l 2) (l 7) true (l 17) b0 g.c1 g.c2 g.c3:=by
    funext k
    unfold xf opQ
    by_cases hk:k=12
    . subst hk;simp
    . simp[hk]
   rw[ee] at hm';exact hm'
 . rw[e6];exact fun e=>(h.q1 e).put hm hg
 . rw[e11];exact fun e=>(h.q2 e).put hm hg
 . rw[e16];exact fun e=>(h.q3 e).put hm hg
 . rw[e2,e0];exact h.d2
 . rw[e7,e0,e6];exact h.d7
 . rw[e0,e11];intro _;exact⟨l0,h6⟩
 . rw[e17,e0,e16];exact h.d17
 . rw[e18,e0];exact h.d18
 . rw[e19,e0];exact h.d19
theorem JOp.put17(h:JOp W b0 bw l g w)(l0:l 0=true)(h6:l 16=true){w':Ba}{m m':Nat}{F:Int->Option Value}(hm:MapOf (Value.int .i64) w g.mb m F)(hg:w.grownBy w' (some g.mb))(hm':MapOf (Value.int .i64) w' g.mb m' (xf (opQ (l 2) (l 7) (l 12) (l 17) b0 g.c1 g.c2 g.c3) 13 (grF g.c3))):JOp W b0 bw (upd l 17) g w':=by
 have e0:upd l 17 0=l 0:=zu (by decide);have e2:upd l 17 2=l 2:=zu (by decide);have e6:upd l 17 6=l 6:=zu (by decide);have e7:upd l 17 7=l 7:=zu (by decide);have e11:upd l 17 11=l 11:=zu (by decide);have e12:upd l 17 12=l 12:=zu (by decide);have e16:upd l 17 16=l 16:=zu (by decide);have e18:upd l 17 18=l 18:=zu (by decide);have e19:upd l 17 19=l 19:=zu (by decide);have u:upd l 17 17=true:=xQ _ _;refine⟨h.low.grown hg h.low.size (fun k e=>by cases e;exact(h.map l0).1),fun _=>⟨(h.map l0).1,m',?_⟩,?_,?_,?_,?_,?_,?_,?_,?_,?_⟩
 . rw[e2,e7,e12,u]
   have ee:xf (opQ (l 2) (l 7) (l 12) (l 17) b0 g.c1 g.c2 g.c3) 13 (grF g.c3)=opQ (l 2) (l 7) (l 12) true b0 g.c1 g.c2 g.c3:=by
    funext k
    unfold xf opQ
    by_cases hk:k=13
    . subst hk;simp
    . simp[hk]
   rw[ee] at hm';exact hm'
 . rw[e6];exact fun e=>(h.q1 e).put hm hg
 . rw[e11];exact fun e=>(h.q2 e).put hm hg
 . rw[e16];exact fun e=>(h.q3 e).put hm hg
 . rw[e2,e0];exact h.d2
 . rw[e7,e0,e6];exact h.d7
 . rw[e12,e0,e11];exact h.d12
 . rw[e0,e16];intro _;exact⟨l0,h6⟩
 . rw[e18,e0];exact h.d18
 . rw[e19,e0];exact h.d19
theorem JOp.start(g:GOp):JOp W b0 bw (fun _=>false) g W.drew:=
 ⟨(Lo _ W).drew,fun h=>by simp at h,fun h=>by simp at h,fun h=>by simp at h,fun h=>by simp at h,fun h=>by simp at h,fun h=>by simp at h,fun h=>by simp at h,fun h=>by simp at h,fun h=>by simp at h,fun h=>by simp at h⟩
end
theorem yz{P:Program}{G:Type}{ops:Array Oper}{Q:Exit->Act->Ba->Prop}{val:G->Nat->Value}{J:(Nat->Bool)->G->Ba->Prop}{i:Nat}{o:Oper}{l:Nat->Bool}{g:G}{w:Ba}{a:Act}{E:Prop}(hgd:o.guard=none)
  (h:∀K:Act->Ba->Prop,(∀(g':G) (v:Value) (w':Ba),val g' i=v->(∀j,l j=true->val g' j=val g j)->J (upd l i) g' w'->K (a.put o.dst v) w')->o.wp P a w K Q) :
  if Region.wanted o (yielded ops a.tmps) then o.wp P a w (fun a' w'=>∃g' v,a'=a.put o.dst v/\val g' i=v/\(∀j,l j=true->val g' j=val g j)/\J (upd l i) g' w') Q else E:=by
 have hw:Region.wanted o (yielded ops a.tmps)=true:=by simp[Region.wanted,hgd]
 rw[Lh hw];exact h _ fun g' v w' h1 h2 h3=>⟨g',v,rfl,h1,h2,h3⟩
theorem jt(k bw:Nat)(w:Ba) :
  Calls Tryz.prog 68 #[.func (.func k) #[.pointer (some ⟨bw,0,none⟩)] #[]] w fun e w'=>e=.returned (grF w.heap.size)/\GrB w' w.heap.size k bw/\Below w.heap.size w w':=by
 obtain⟨w1,hw1,d0,hs1,hB⟩:=zn w #[.func (.func k) #[.pointer (some ⟨bw,0,none⟩)] #[]] 80;have HW1:=zH hw1;have D0:=zH d0;have HB:=zH hB;clear hw1 d0 hB;go_enter Tryz.func68,Tryz.ntmps68;go_wp2_with fail;rw[HW1.out];go_wp2_with fail;go_ret;exact⟨rfl,D0.out,HB.out⟩
def opG(b0 c1 c2 c3:Nat):Int->Option Value:=opQ true true true true b0 c1 c2 c3
structure OpsAt(w:Ba)(bw b0 c1 c2 c3:Nat):Prop where
 b0:w.heap[b0]?=some (.cells #[.pointer (some ⟨bw,0,none⟩)] 67 (0,0))
 c1:GrB w c1 26 bw
 c2:GrB w c2 36 bw
 c3:GrB w c3 71 bw
theorem kops_any(bw:Nat)(w:Ba) :
  Calls Tryz.prog 41 #[.pointer (some ⟨bw,0,none⟩)] w fun e w'=>∃mb m c1 c2 c3,e=.returned (.map (some mb))/\w.heap.size<=mb/\MapOf (Value.int .i64) w' mb m (opG w.heap.size c1 c2 c3)/\OpsAt w' bw w.heap.size c1 c2 c3/\Below w.heap.size w w':=by
 obtain⟨w1,hw1,d0,hs1,hB⟩:=zn w #[.pointer (some ⟨bw,0,none⟩)] 67;have hc1:=zh d0 0 rfl;have hlt1:=zj d0;have ht:Tryz.prog.underlying 103=some (.map 3 135):=Tryz.underlying103;have HW1:=zH hw1;have D0:=zH d0;have HB:=zH hB;clear hw1 d0 hB;go_enter Tryz.func41,Tryz.ntmps41;go_upto_region 1 with fail
 rw[HW1.out];go_upto_region 2 with fail
 refine Z8 (by kernel_rfl) (kd w.heap.size bw) (JOp w1 w.heap.size bw) (by kernel_rfl) ⟨0,0,0,0⟩ (JOp.start _) ?_ ?_
 . refine⟨?_,?_,?_,?_,?_,?_,?_,?_,?_,?_,?_,?_,?_,?_,?_,?_,?_,?_,?_,?_,trivial⟩
   . intro l g W a hJ hli hdep hagr
     clear hagr hdep;refine yz rfl fun K hK=>?_
     have hmm:=@run_makeMap Tryz.prog 103 W;go_simp;exact hK { g with mb:=W.heap.size } _ _ rfl (valO_mb _ hli hJ.d18 hJ.d19) (hJ.made hli)
   . intro l g W a hJ hli hdep hagr
     have e1:(a.tmps[1]?).getD undef=.pointer (some ⟨w.heap.size,0,none⟩):=hagr.oldD 1 rfl;clear hagr hdep;refine yz rfl fun K hK=>?_
     go_simp;exact hK g _ _ rfl (fun _ _=>rfl) (hJ.idle (i:=1) (by decide) (fun e=>by simp at e))
   . intro l g W a hJ hli hdep hagr
     have l0:=hdep ⟨0,.data⟩ (by simp) rfl;have l1:=hdep ⟨1,.data⟩ (by simp) rfl;have e4:=hagr.newD 0 4 rfl l0 (by show 4<19;decide);have e5:=hagr.newD 1 5 rfl l1 (by show 5<19;decide);simp only[kd] at e4 e5;clear hagr hdep;refine yz rfl fun K hK=>?_
     obtain⟨m,hm⟩:=(hJ.map l0).2;obtain⟨w',u,m',g'⟩:=hm.put yp ht 10 (knF w.heap.size);go_simp;exact hK g _ _ rfl (fun _ _=>rfl) (hJ.put2 l0 hm g' m')
   . intro l g W a hJ hli hdep hagr
     have e3:(a.tmps[3]?).getD undef=.func (.func 68) #[] #[]:=hagr.oldD 3 rfl;clear hagr hdep;refine yz rfl fun K hK=>?_
     go_simp;exact hK g _ _ rfl (fun _ _=>rfl) (hJ.idle (i:=3) (by decide) (fun e=>by simp at e))
   . intro l g W a hJ hli hdep hagr
     have e1:(a.tmps[1]?).getD undef=.pointer (some ⟨w.heap.size,0,none⟩):=hagr.oldD 1 rfl;clear hagr hdep;refine yz rfl fun K hK=>?_
     have c1:=(hJ.low.cell (p:=⟨w.heap.size,0,none⟩) hlt1).trans hc1;go_simp;exact hK g _ _ rfl (fun _ _=>rfl) (hJ.idle (i:=4) (by decide) (fun e=>by simp at e))
   . intro l g W a hJ hli hdep hagr
     have l4:=hdep ⟨4,.data⟩ (by simp) rfl;have e7:=hagr.newD 4 7 rfl l4 (by show 7<19;decide);simp only[kd] at e7;clear hagr hdep;refine yz rfl fun K hK=>?_
     go_simp;exact hK g _ _ rfl (fun _ _=>rfl) (hJ.idle (i:=5) (by decide) (fun e=>by simp at e))
   . intro l g W a hJ hli hdep hagr
     have l3:=hdep ⟨3,.data⟩ (by simp) rfl;have l5:=hdep ⟨5,.data⟩ (by simp) rfl;have e6:=hagr.newD 3 6 rfl l3 (by show 6<19;decide);have e8:=hagr.newD 5 8 rfl l5 (by show 8<19;decide);simp only[kd] at e6 e8;clear hagr hdep;refine yz rfl fun K hK=>?_
     unfold Yp at *;go_simp;refine(jt 26 bw _).mono ?_;rintro e w' ⟨rfl,hq,hb⟩;exact hK { g with c1:=W.heap.size } _ _ rfl (valO_c1 _ hli) (hJ.call1 hli hb hq)
   . intro l g W a hJ hli hdep hagr
     have l0:=hdep ⟨0,.data⟩ (by simp) rfl;have l6:=hdep ⟨6,.data⟩ (by simp) rfl;have e4:=hagr.newD 0 4 rfl l0 (by show 4<19;decide);have e9:=hagr.newD 6 9 rfl l6 (by show 9<19;decide);simp only[kd] at e4 e9;clear hagr hdep;refine yz rfl fun K hK=>?_
     obtain⟨m,hm⟩:=(hJ.map l0).2;obtain⟨w',u,m',g'⟩:=hm.put yp ht 11 (grF g.c1);go_simp;exact hK g _ _ rfl (fun _ _=>rfl) (hJ.put7 l0 l6 hm g' m')
   . intro l g W a hJ hli hdep hagr
     have e3:(a.tmps[3]?).getD undef=.func (.func 68) #[] #[]:=hagr.oldD 3 rfl;clear hagr hdep;refine yz rfl fun K hK=>?_
     go_simp;exact hK g _ _ rfl (fun _ _=>rfl) (hJ.idle (i:=8) (by decide) (fun e=>by simp at e))
   . intro l g W a hJ hli hdep hagr
     have e1:(a.tmps[1]?).getD undef=.pointer (some ⟨w.heap.size,0,none⟩):=hagr.oldD 1 rfl;clear hagr hdep;refine yz rfl fun K hK=>?_
     have c1:=(hJ.low.cell (p:=⟨w.heap.size,0,none⟩) hlt1).trans hc1;go_simp;exact hK g _ _ rfl (fun _ _=>rfl) (hJ.idle (i:=9) (by decide) (fun e=>by simp at e))
   . intro l g W a hJ hli hdep hagr
     have l9:=hdep ⟨9,.data⟩ (by simp) rfl;have e11:=hagr.newD 9 11 rfl l9 (by show 11<19;decide);simp only[kd] at e11;clear hagr hdep;refine yz rfl fun K hK=>?_
     go_simp;exact hK g _ _ rfl (fun _ _=>rfl) (hJ.idle (i:=10) (by decide) (fun e=>by simp at e))
   . intro l g W a hJ hli hdep hagr
     have l8:=hdep ⟨8,.data⟩ (by simp) rfl;have l10:=hdep ⟨10,.data⟩ (by simp) rfl;have e10:=hagr.newD 8 10 rfl l8 (by show 10<19;decide);have e12:=hagr.newD 10 12 rfl l10 (by show 12<19;decide);simp only[kd] at e10 e12;clear hagr hdep;refine yz rfl fun K hK=>?_
     unfold Yp at *;go_simp;refine(jt 36 bw _).mono ?_;rintro e w' ⟨rfl,hq,hb⟩;exact hK { g with c2:=W.heap.size } _ _ rfl (valO_c2 _ hli) (hJ.call2 hli hb hq)
   . intro l g W a hJ hli hdep hagr
     have l0:=hdep ⟨0,.data⟩ (by simp) rfl;have l11:=hdep ⟨11,.data⟩ (by simp) rfl;have e4:=hagr.newD 0 4 rfl l0 (by show 4<19;decide);have e13:=hagr.newD 11 13 rfl l11 (by show 13<19;decide);simp only[kd] at e4 e13;clear hagr hdep;refine yz rfl fun K hK=>?_
     obtain⟨m,hm⟩:=(hJ.map l0).2;obtain⟨w',u,m',g'⟩:=hm.put yp ht 12 (grF g.c2);go_simp;exact hK g _ _ rfl (fun _ _=>rfl) (hJ.put12 l0 l11 hm g' m')
   . intro l g W a hJ hli hdep hagr
     have e3:(a.tmps[3]?).getD undef=.func (.func 68) #[] #[]:=hagr.oldD 3 rfl;clear hagr hdep;refine yz rfl fun K hK=>?_
     go_simp;exact hK g _ _ rfl (fun _ _=>rfl) (hJ.idle (i:=13) (by decide) (fun e=>by simp at e))
   . intro l g W a hJ hli hdep hagr
     have e1:(a.tmps[1]?).getD undef=.pointer (some ⟨w.heap.size,0,none⟩):=hagr.oldD 1 rfl;clear hagr hdep;refine yz rfl fun K hK=>?_
     have c1:=(hJ.low.cell (p:=⟨w.heap.size,0,none⟩) hlt1).trans hc1;go_simp;exact hK g _ _ rfl (fun _ _=>rfl) (hJ.idle (i:=14) (by decide) (fun e=>by simp at e))
   . intro l g W a hJ hli hdep hagr
     have l14:=hdep ⟨14,.data⟩ (by simp) rfl;have e15:=hagr.newD 14 15 rfl l14 (by show 15<19;decide);simp only[kd] at e15;clear hagr hdep;refine yz rfl fun K hK=>?_
     go_simp;exact hK g _ _ rfl (fun _ _=>rfl) (hJ.idle (i:=15) (by decide) (fun e=>by simp at e))
   . intro l g W a hJ hli hdep hagr
     have l13:=hdep ⟨13,.data⟩ (by simp) rfl;have l15:=hdep ⟨15,.data⟩ (by simp) rfl;have e14:=hagr.newD 13 14 rfl l13 (by show 14<19;decide);have e16:=hagr.newD 15 16 rfl l15 (by show 16<19;decide);simp only[kd] at e14 e16;clear hagr hdep;refine yz rfl fun K hK=>?_
     unfold Yp at *;go_simp;refine(jt 71 bw _).mono ?_;rintro e w' ⟨rfl,hq,hb⟩;exact hK { g with c3:=W.heap.size } _ _ rfl (valO_c3 _ hli) (hJ.call3 hli hb hq)
   . intro l g W a hJ hli hdep hagr
     have l0:=hdep ⟨0,.data⟩ (by simp) rfl;have l16:=hdep ⟨16,.data⟩ (by simp) rfl;have e4:=hagr.newD 0 4 rfl l0 (by show 4<19;decide);have e17:=hagr.newD 16 17 rfl l16 (by show 17<19;decide);simp only[kd] at e4 e17;clear hagr hdep;refine yz rfl fun K hK=>?_
     obtain⟨m,hm⟩:=(hJ.map l0).2;obtain⟨w',u,m',g'⟩:=hm.put yp ht 13 (grF g.c3);go_simp;exact hK g _ _ rfl (fun _ _=>rfl) (hJ.put17 l0 l16 hm g' m')
   . intro l g W a hJ hli hdep hagr
     have l0:=hdep ⟨0,.data⟩ (by simp) rfl;have e4:=hagr.newD 0 4 rfl l0 (by show 4<19;decide);simp only[kd] at e4;clear hagr hdep;refine yz rfl fun K hK=>?_
     go_simp;exact hK g _ _ rfl (fun _ _=>rfl) (hJ.idle (i:=18) (by decide) (fun _=>l0))
   . intro l g W a hJ hli hdep hagr
     have l18:=hdep ⟨18,.data⟩ (by simp) rfl;have e18:=hagr.newD 18 18 rfl l18 (by show 18<19;decide);simp only[kd] at e18;clear hagr hdep;refine yz rfl fun K hK=>?_
     have l0:=hJ.d18 l18;go_simp;exact hK g _ _ rfl (fun _ _=>rfl) (hJ.idle (i:=19) (by decide) (fun _=>l0))
 . intro l g W hall hJ
   rw[XL (D:=[some 4,some 5,none,some 6,some 7,some 8,some 9,none,some 10,some 11,some 12,some 13,none,some 14,some 15,some 16,some 17,none,some 18,some 2]) rfl];simp only[Zt,putsL_nil,kd];obtain⟨hmb,m,hm⟩:=hJ.map (hall 0 (by decide));rw[hall 2 (by decide),hall 7 (by decide),hall 12 (by decide),hall 17 (by decide)] at hm;have HM:=zH hm;have HO:Hid (OpsAt W bw w.heap.size g.c1 g.c2 g.c3):=⟨Lb hJ.low hlt1 D0.out,hJ.q1 (hall 6 (by decide)),hJ.q2 (hall 11 (by decide)),hJ.q3 (hall 16 (by decide))⟩;have HL:=zH (Lc HB.out hJ.low);have hms:w.heap.size<=g.mb:=by have:=HB.out.size;omega
   clear hall hJ hm;go_simp;go_wp2_with fail;go_ret;exact⟨g.mb,m,g.c1,g.c2,g.c3,rfl,hms,HM.out,HO.out,HL.out⟩
end
section
open Go.RowKit Go.Shelf
attribute [local go_sem] Oper.semAt_some
theorem gz(a b c:Int)(w:Ba):Calls Tryz.prog 102 #[.int .i64 a,.int .i64 b,.int .i64 c] w fun e w'=>e=.returned (.bool (decide (b<=a/\a<=c)))/\w'=w:=by
 have hd:∀x:Bool,x=decide (b<=a/\a<=c)->Ending.returned (.bool x)=.returned (.bool (decide (b<=a/\a<=c))):=fun x h=>by rw[h]
 go_enter Tryz.func102,Tryz.ntmps102
 by_cases h1:b<=a
 . by_cases h2:a<=c
   . have e:decide (b<=a/\a<=c)=true:=by simp[h1,h2]
     rw[e];clear hd e;go_wp2_with fail;go_ret;exact⟨rfl,rfl⟩
   . have e:decide (b<=a/\a<=c)=false:=by simp[h2]
     rw[e];clear hd e;go_wp2_with fail;go_ret;exact⟨rfl,rfl⟩
 . have e:decide (b<=a/\a<=c)=false:=by simp[h1]
   rw[e];clear hd e;go_wp2_with fail;go_ret;exact⟨rfl,rfl⟩
theorem Jn(n d:Nat)(w:Ba):Calls Tryz.prog 103 #[.int .i64 (n:Int),.int .i64 (d:Int)] w fun e w'=>e=.returned (.int .i64 (gI (n,d)))/\w'=w:=by
 by_cases h1:128<n
 . have e:gI (n,d)=5:=Lh h1
   have e1:(128:Int)<(n:Int):=by omega
   rw[e];go_enter Tryz.func103,Tryz.ntmps103;go_wp2_with fail;go_ret;exact⟨rfl,rfl⟩
 by_cases h2:24<d
 . have e:gI (n,d)=12:=by unfold gI;rw[Lg h1,Lh h2]
   have e1:¬(128:Int)<(n:Int):=by omega
   have e2:(24:Int)<(d:Int):=by omega
   rw[e];go_enter Tryz.func103,Tryz.ntmps103;go_wp2_with fail;go_ret;exact⟨rfl,rfl⟩
 . have e:gI (n,d)=0:=by unfold gI;rw[Lg h1,Lg h2]
   have e1:¬(128:Int)<(n:Int):=by omega
   have e2:¬(24:Int)<(d:Int):=by omega
   rw[e];go_enter Tryz.func103,Tryz.ntmps103;go_wp2_with fail;go_ret;exact⟨rfl,rfl⟩
theorem ZP(f:Fm)(R:Fm->Nat×Nat)(A:Bb)(c:Nat)(w:Ba)(hl:f.args.length<=1000000)(hb:(yZ R f.args).1<=1000000/\(yZ R f.args).2<=1000000)
  (hrec:RecAt w A f.args fun cs x X=>Calls Tryz.prog 104 #[.agg cs] X fun e w'=>e=.returned (.tuple #[.int .i64 ((R x).1:Int),.int .i64 ((R x).2:Int)])/\Below X.heap.size X w') :
  Calls Tryz.prog 104 #[.agg (f.vs A c)] w fun e w'=>e=.returned (.tuple #[.int .i64 ((yZ R f.args).1:Int),.int .i64 (((yZ R f.args).2+1:Nat):Int)])/\Below w.heap.size w w':=by
 obtain⟨w1,hw1,d0,hs1,hB⟩:=zn w (f.vs A c) 66;have HREC:=zH hrec;have HTK:=zH (fun k=>YA R f.args k);have HSN:=zH (fun k (h:k<f.args.length)=>(by rw[Lu h,YB]:yZ R (f.args.take (k+1))=((yZ R (f.args.take k)).1+(R f.args[k]).1,max (yZ R (f.args.take k)).2 (R f.args[k]).2)));have HEND:Hid (yZ R (f.args.take f.args.length)=yZ R f.args):=by rw[Hid,LG]
 have HHB:=zH hb;unfold Fm.vs at hw1 d0 HREC ⊢;obtain⟨l,hll⟩:=Ki f.args;rw[hll] at hw1 d0 HREC HTK HSN HEND HHB hl ⊢;obtain⟨T,hT⟩:=Ki (yZ R l);rw[hT] at HTK HEND HHB ⊢;obtain⟨n,hn⟩:=Ki l.length;have HN:=zH hn;rw[hn] at hw1 d0 HEND hl ⊢;have HW1:=zH hw1;have HB:=zH hB;obtain⟨p0,p1,p2,p3,p4,p5,_⟩:=Kg d0;clear hw1 d0 hB hrec hb hll hT hn;go_enter Tryz.func104,Tryz.ntmps104;go_wp2_with fail;rw[HW1.out];go_wp2_with fail
 go_loopw [4,5,13] (fun a b i wr=>∃k:Nat,k<=n/\i=.int .i64 (k:Int)/\a=.int .i64 ((yZ R (l.take k)).1:Int)/\b=.int .i64 ((yZ R (l.take k)).2:Int)/\Hid (Below w1.heap.size w1 wr)) (fun _ _ i _=>n-(intOf i).toNat)
 case atStart=>exact⟨0,by omega,rfl,rfl,rfl,Lo _ _⟩
 case round=>
  obtain⟨k,hk,rfl,rfl,rfl,hbr⟩:=hrel;clear p0 p1 p2 p3 p4 p5 HW1;obtain⟨a,ha⟩:=Ki ((yZ R (l.take k)).1);obtain⟨b,hb⟩:=Ki ((yZ R (l.take k)).2)
  have ha6:a<=1000000/\b<=1000000:=by
   have h1:=HTK.out k;have h2:=HHB.out;omega
  by_cases hlt:k<n
  . have hkl:k<l.length:=by have:=HN.out;omega
    have hsn:=HSN.out k hkl;have htk:=HTK.out (k+1);obtain⟨bb,o,A',c',eA,hbb,hcell,hcall⟩:=HREC.out k hkl;subst eA;obtain⟨x,hx⟩:=Ki (l[k]);rw[hx] at hcell hcall hsn;obtain⟨Rx,hRx⟩:=Ki (R x);dsimp only at hcall;rw[hRx] at hcall hsn;rw[ha,hb] at hsn;have hE1:(yZ R (l.take (k+1))).1=a+Rx.1:=by rw[hsn]
    have hE2:(yZ R (l.take (k+1))).2=max b Rx.2:=by rw[hsn]
    have HE1:=zH hE1;have HE2:=zH hE2
    have hs6:a+Rx.1<=1000000/\max b Rx.2<=1000000:=by
     have h2:=HHB.out;omega
    obtain⟨xh,xl⟩:=x;obtain⟨h0,h1,h2,h3,h4⟩:=xh;have hc:∀j v,#[Value.int .i64 h0,.int .i64 h1,.int .i64 h2,.int .i64 h3,.int .i64 h4,.slice A' xl.length c'][j]?=some v->wr.cell? ⟨bb,o+k*6+j,none⟩=some v:=hcell wr (HB.out.trans (hbr.out.mono (by have:=HB.out.size;omega)));have z0:wr.cell? ⟨bb,o+k*6,none⟩=some (.int .i64 h0):=hc 0 _ rfl;have z1:wr.cell? ⟨bb,o+k*6+1,none⟩=some (.int .i64 h1):=hc 1 _ rfl;have z2:wr.cell? ⟨bb,o+k*6+2,none⟩=some (.int .i64 h2):=hc 2 _ rfl;have z3:wr.cell? ⟨bb,o+k*6+3,none⟩=some (.int .i64 h3):=hc 3 _ rfl;have z4:wr.cell? ⟨bb,o+k*6+4,none⟩=some (.int .i64 h4):=hc 4 _ rfl;have z5:wr.cell? ⟨bb,o+k*6+5,none⟩=some (.slice A' xl.length c'):=hc 5 _ rfl;have hk0:(0:Int)<=(k:Int):=by omega
    have hk1:(k:Int)<(n:Int):=by omega
    have hbw:bb<wr.heap.size:=by have:=hbr.out.size;have:=HB.out.size;omega
    have HC:=zH hcall;have HHR:=zH hbr.out;simp only[Fm.vs,Fm.args,Fm.h] at HC;clear hcell hcall hx hRx hsn htk hE1 hE2 hc hbr;go_upto_region 5 with fail
    obtain⟨W2,hW2,d2,hs2,hb2⟩:=zn wr #[.int .i64 h0,.int .i64 h1,.int .i64 h2,.int .i64 h3,.int .i64 h4,.slice A' xl.length c'] 66;rw[hW2];have hbs:=HB.out.size;have HB2:=zH (Lc HHR.out hb2);have HC2:=zH (HC.out W2 (HB.out.trans (HB2.out.mono hbs)));obtain⟨y0,y1,y2,y3,y4,y5,_⟩:=Kg d2;clear hW2 d2 hb2 z0 z1 z2 z3 z4 z5 HC;obtain⟨r1,r2⟩:=Rx;dsimp only at HC2 HE1 HE2 hs6;go_wp2_with fail;refine HC2.out.mono ?_;rintro e w3 ⟨rfl,hb3⟩;have HB3:=zH (Lc HB2.out hb3);have hw1:IntKind.i64.wrap ((a:Int)+(r1:Int))=((a+r1:Nat):Int):=by rw[Lp];omega
    have hmx:max (b:Int) (r2:Int)=((max b r2:Nat):Int):=by omega
    clear hb3 HC2 y0 y1 y2 y3 y4 y5;go_wp2_with fail
    go_roundw
    case rel=>exact⟨k+1,by omega,by go_num,by first | (rw[HE1.out];done) | (rw[HE1.out];go_num),by first | (rw[HE2.out];done) | (rw[HE2.out];go_num),HB3⟩
    case measure=>simp[intOf];omega
  . obtain rfl:k=n:=by omega
    have h1:Hid (a=T.1):=by rw[Hid,<-ha,HEND.out]
    have h2:Hid (b=T.2):=by rw[Hid,<-hb,HEND.out]
    have hBF:=zH (HB.out.trans (hbr.out.mono (by have:=HB.out.size;omega)));have hw1:IntKind.i64.wrap ((b:Int)+1)=((b+1:Nat):Int):=by rw[Lp];omega
    clear HTK HSN HEND HHB HREC;go_wp2_with fail
    go_ret2
    refine⟨?_,hBF.out⟩;show Ending.returned (.tuple #[.int .i64 ((yZ R (l.take k)).1:Int),.int .i64 ((b:Int)+1)])=_;rw[<-h1.out,<-h2.out,ha];rfl
theorem YX:∀(d:Nat) (f:Fm) (A:Bb) (c:Nat) (w:Ba),FsAt w w.heap.size d A f.args->(xI d f).1<=1000000 ->
  Calls Tryz.prog 104 #[.agg (f.vs A c)] w fun e w'=>e=.returned (.tuple #[.int .i64 ((xI d f).1:Int),.int .i64 ((xI d f).2:Int)])/\Below w.heap.size w w'
 | 0,f,A,c,w,hA,hb=>by
  have h0:f.args=[]:=hA;exact ZP f (fun _=>(0,0)) A c w (by rw[h0];decide) (by rw[h0];decide) (RecAt.none hA)
 | d+1,f,A,c,w,hA,hb=>by
  have h1:(yZ (xI d) f.args).1<=1000000:=hb;have h2:(yZ (xI d) f.args).2+1<=(yZ (xI d) f.args).1:=YC (d+1) f;have h3:=ux (xI d) (Zg d) f.args;refine ZP f (xI d) A c w (by omega) (by omega) (RecAt.of hA fun x A' c' X hx hX=>YX d x A' c' X hX ?_);exact Lz (Zf (xI d) hx) h1
def qh(op:Int):List Nat:=if op=1\/op=5 then [1,3] else if op=2 then [3] else if op=3 then [1,2] else if op=4\/op=10 then [1] else if op=6 then [3] else if op=11\/op=12\/op=13 then [4] else []
def QR(n:Nat)(op:Int):List Int:=if op=1\/op=5 then [(n:Int)-1,7] else if op=2 then [7] else if op=3 then [(n:Int)-1,(n:Int)-1] else if op=4\/op=10 then [(n:Int)-1] else if op=6 then [6] else if op=11\/op=12\/op=13 then [(2:Int)^n-1] else []
def ka(os:List Nat)(ms:List Int)(b:Nat)(w:Ba)(e:Ending)(w':Ba):Prop:=
 ∃A1 A2,e=.returned (.tuple #[.slice A1 os.length os.length,.slice A2 os.length os.length])/\Below w.heap.size w w' /\
  ∀k (h:k<os.length),∃g1 g2,A1=some ⟨g1,0,none⟩/\A2=some ⟨g2,0,none⟩/\w.heap.size<=g1/\w.heap.size<=g2/\g1<w'.heap.size/\g2<w'.heap.size/\w'.cell? ⟨g1,k,none⟩=some (.pointer (some ⟨b,os[k],none⟩))/\w'.cell? ⟨g2,k,none⟩=some (.int .i64 (ms.getD k 0))
theorem jQ{w w':Ba}{b:Nat}{o1 o2:Nat}{m1 m2:Int}{t1 t2:TypeId}{g1 g2:Nat}(hb:Below w.heap.size w w')(h1:w.heap.size<=g1)(h2:w.heap.size<=g2)
  (d1:w'.heap[g1]?=some (.cells #[.pointer (some ⟨b,o1,none⟩),.pointer (some ⟨b,o2,none⟩)] t1 (0,0))) (d2:w'.heap[g2]?=some (.cells #[.int .i64 m1,.int .i64 m2] t2 (0,0))) :
  ka [o1,o2] [m1,m2] b w (.returned (.tuple #[.slice (some ⟨g1,0,none⟩) 2 2,.slice (some ⟨g2,0,none⟩) 2 2])) w':=by
 refine⟨_,_,rfl,hb,fun k hk=>⟨g1,g2,rfl,rfl,h1,h2,zj d1,zj d2,?_⟩⟩;have hk2:k<2:=hk;obtain rfl | rfl:k=0\/k=1:=by omega
 . exact⟨zh d1 0 rfl,zh d2 0 rfl⟩
 . exact⟨zh d1 1 rfl,zh d2 1 rfl⟩
theorem qx{w w':Ba}{b:Nat}{o1:Nat}{m1:Int}{t1 t2:TypeId}{g1 g2:Nat}(hb:Below w.heap.size w w')(h1:w.heap.size<=g1)(h2:w.heap.size<=g2)
  (d1:w'.heap[g1]?=some (.cells #[.pointer (some ⟨b,o1,none⟩)] t1 (0,0))) (d2:w'.heap[g2]?=some (.cells #[.int .i64 m1] t2 (0,0))) :
  ka [o1] [m1] b w (.returned (.tuple #[.slice (some ⟨g1,0,none⟩) 1 1,.slice (some ⟨g2,0,none⟩) 1 1])) w':=by
 refine⟨_,_,rfl,hb,fun k hk=>⟨g1,g2,rfl,rfl,h1,h2,zj d1,zj d2,?_⟩⟩;have hk2:k<1:=hk;obtain rfl:k=0:=by omega
 exact⟨zh d1 0 rfl,zh d2 0 rfl⟩
theorem jf(n:Nat)(hn:n<=5)(w:Ba):Calls Tryz.prog 152 #[.int .i64 (n:Int)] w fun e w'=>e=.returned (.int .i64 ((2:Int)^n-1))/\w'=w:=by
 obtain rfl | rfl | rfl | rfl | rfl | rfl:n=0\/n=1\/n=2\/n=3\/n=4\/n=5:=by omega
 all_goals
  go_enter Tryz.func152,Tryz.ntmps152;go_wp2;go_ret;exact⟨rfl,rfl⟩
theorem yX(w:Ba)(c1 c2:Array Value)(t1 t2:TypeId):(((w.alloc (.cells c1 t1)).alloc (.cells c2 t2)).heap[w.heap.size]?=some (.cells c1 t1 (0,0)))/\(((w.alloc (.cells c1 t1)).alloc (.cells c2 t2)).heap[w.heap.size+1]?=some (.cells c2 t2 (0,0)))/\Below w.heap.size w ((w.alloc (.cells c1 t1)).alloc (.cells c2 t2)):=by
 obtain⟨W,h,h1,h2,_,h3⟩:=yB w c1 c2 t1 t2;rw[h];exact⟨h1,h2,h3⟩
theorem fields_1(h:Fh)(A:Bb)(len c n:Nat)(hn:n<=5)(b:Nat)(w:Ba)(hb:w.heap[b]?=some (.cells #[.int .i64 h.op,.int .i64 h.p,.int .i64 h.o,.int .i64 h.v,.int .i64 h.g,.slice A len c] 66 (0,0)))(ho:h.op=1) :
  Calls Tryz.prog 140 #[.pointer (some ⟨b,0,none⟩),.int .i64 (n:Int)] w (ka [1,3] [(n:Int)-1,7] b w):=by
 have p0:=zh hb 0 rfl;have hbl:=zj hb;rw[ho] at p0;have hw1:IntKind.i64.wrap ((n:Int)-1)=(n:Int)-1:=by rw[Lp];omega
 clear hb ho;go_enter N3,NU;go_wp2_with fail;have hTT:(fun _:Ba=>True) w:=trivial
 go_region_held3 (fun _=>True) (exact trivial) (fail)
 all_goals
  go_wp2_with fail
  go_ret2
 all_goals
  first
  | (obtain ⟨H1, H2, H3⟩ := yX w #[.pointer (some ⟨b, 1, none⟩), .pointer (some ⟨b, 3, none⟩)] #[.int .i64 ((n : Int) - 1), .int .i64 (7)] 219 3
     exact jQ H3.drew (by omega) (by omega) H1 H2)
  | (obtain ⟨H1, H2, H3⟩ := yX w #[.int .i64 ((n : Int) - 1), .int .i64 (7)] #[.pointer (some ⟨b, 1, none⟩), .pointer (some ⟨b, 3, none⟩)] 3 219
     exact jQ H3.drew (by omega) (by omega) H2 H1)
theorem fields_5(h:Fh)(A:Bb)(len c n:Nat)(hn:n<=5)(b:Nat)(w:Ba)(hb:w.heap[b]?=some (.cells #[.int .i64 h.op,.int .i64 h.p,.int .i64 h.o,.int .i64 h.v,.int .i64 h.g,.slice A len c] 66 (0,0)))(ho:h.op=5) :
  Calls Tryz.prog 140 #[.pointer (some ⟨b,0,none⟩),.int .i64 (n:Int)] w (ka [1,3] [(n:Int)-1,7] b w):=by
 have p0:=zh hb 0 rfl;have hbl:=zj hb;rw[ho] at p0;have hw1:IntKind.i64.wrap ((n:Int)-1)=(n:Int)-1:=by rw[Lp];omega
 clear hb ho;go_enter N3,NU;go_wp2_with fail;have hTT:(fun _:Ba=>True) w:=trivial
 go_region_held3 (fun _=>True) (exact trivial) (fail)
 all_goals
  go_wp2_with fail
  go_ret2
 all_goals
  first
  | (obtain ⟨H1, H2, H3⟩ := yX w #[.pointer (some ⟨b, 1, none⟩), .pointer (some ⟨b, 3, none⟩)] #[.int .i64 ((n : Int) - 1), .int .i64 (7)] 219 3
     exact jQ H3.drew (by omega) (by omega) H1 H2)
  | (obtain ⟨H1, H2, H3⟩ := yX w #[.int .i64 ((n : Int) - 1), .int .i64 (7)] #[.pointer (some ⟨b, 1, none⟩), .pointer (some ⟨b, 3, none⟩)] 3 219
     exact jQ H3.drew (by omega) (by omega) H2 H1)
theorem fields_2(h:Fh)(A:Bb)(len c n:Nat)(hn:n<=5)(b:Nat)(w:Ba)(hb:w.heap[b]?=some (.cells #[.int .i64 h.op,.int .i64 h.p,.int .i64 h.o,.int .i64 h.v,.int .i64 h.g,.slice A len c] 66 (0,0)))(ho:h.op=2) :
  Calls Tryz.prog 140 #[.pointer (some ⟨b,0,none⟩),.int .i64 (n:Int)] w (ka [3] [7] b w):=by
 have p0:=zh hb 0 rfl;have hbl:=zj hb;rw[ho] at p0;have hw1:IntKind.i64.wrap ((n:Int)-1)=(n:Int)-1:=by rw[Lp];omega
 clear hb ho;go_enter N3,NU;go_wp2_with fail
 go_ret2
 obtain⟨H1,H2,H3⟩:=yX w #[.pointer (some ⟨b,3,none⟩)] #[.int .i64 (7)] 219 3;exact qx H3 (by omega) (by omega) H1 H2
theorem fields_3(h:Fh)(A:Bb)(len c n:Nat)(hn:n<=5)(b:Nat)(w:Ba)(hb:w.heap[b]?=some (.cells #[.int .i64 h.op,.int .i64 h.p,.int .i64 h.o,.int .i64 h.v,.int .i64 h.g,.slice A len c] 66 (0,0)))(ho:h.op=3) :
  Calls Tryz.prog 140 #[.pointer (some ⟨b,0,none⟩),.int .i64 (n:Int)] w (ka [1,2] [(n:Int)-1,(n:Int)-1] b w):=by
 have p0:=zh hb 0 rfl;have hbl:=zj hb;rw[ho] at p0;have hw1:IntKind.i64.wrap ((n:Int)-1)=(n:Int)-1:=by rw[Lp];omega
 clear hb ho;go_enter N3,NU;go_wp2_with fail;have hTT:(fun _:Ba=>True) w:=trivial
 go_region_held3 (fun _=>True) (exact trivial) (fail)
 all_goals
  go_wp2_with fail
  go_ret2
 all_goals
  first
  | (obtain ⟨H1, H2, H3⟩ := yX w #[.pointer (some ⟨b, 1, none⟩), .pointer (some ⟨b, 2, none⟩)] #[.int .i64 ((n : Int) - 1), .int .i64 ((n : Int) - 1)] 219 3
     exact jQ H3.drew (by omega) (by omega) H1 H2)
  | (obtain ⟨H1, H2, H3⟩ := yX w #[.int .i64 ((n : Int) - 1), .int .i64 ((n : Int) - 1)] #[.pointer (some ⟨b, 1, none⟩), .pointer (some ⟨b, 2, none⟩)] 3 219
     exact jQ H3.drew (by omega) (by omega) H2 H1)
theorem fields_4(h:Fh)(A:Bb)(len c n:Nat)(hn:n<=5)(b:Nat)(w:Ba)(hb:w.heap[b]?=some (.cells #[.int .i64 h.op,.int .i64 h.p,.int .i64 h.o,.int .i64 h.v,.int .i64 h.g,.slice A len c] 66 (0,0)))(ho:h.op=4) :
  Calls Tryz.prog 140 #[.pointer (some ⟨b,0,none⟩),.int .i64 (n:Int)] w (ka [1] [(n:Int)-1] b w):=by
 have p0:=zh hb 0 rfl;have hbl:=zj hb;rw[ho] at p0;have hw1:IntKind.i64.wrap ((n:Int)-1)=(n:Int)-1:=by rw[Lp];omega
 clear hb ho;go_enter N3,NU;go_wp2_with fail
 go_ret2
 obtain⟨H1,H2,H3⟩:=yX w #[.pointer (some ⟨b,1,none⟩)] #[.int .i64 ((n:Int)-1)] 219 3;exact qx H3 (by omega) (by omega) H1 H2
theorem fields_10(h:Fh)(A:Bb)(len c n:Nat)(hn:n<=5)(b:Nat)(w:Ba)(hb:w.heap[b]?=some (.cells #[.int .i64 h.op,.int .i64 h.p,.int .i64 h.o,.int .i64 h.v,.int .i64 h.g,.slice A len c] 66 (0,0)))(ho:h.op=10) :
  Calls Tryz.prog 140 #[.pointer (some ⟨b,0,none⟩),.int .i64 (n:Int)] w (ka [1] [(n:Int)-1] b w):=by
 have p0:=zh hb 0 rfl;have hbl:=zj hb;rw[ho] at p0;have hw1:IntKind.i64.wrap ((n:Int)-1)=(n:Int)-1:=by rw[Lp];omega
 clear hb ho;go_enter N3,NU;go_wp2_with fail
 go_ret2
 obtain⟨H1,H2,H3⟩:=yX w #[.pointer (some ⟨b,1,none⟩)] #[.int .i64 ((n:Int)-1)] 219 3;exact qx H3 (by omega) (by omega) H1 H2
theorem fields_6(h:Fh)(A:Bb)(len c n:Nat)(hn:n<=5)(b:Nat)(w:Ba)(hb:w.heap[b]?=some (.cells #[.int .i64 h.op,.int .i64 h.p,.int .i64 h.o,.int .i64 h.v,.int .i64 h.g,.slice A len c] 66 (0,0)))(ho:h.op=6) :
  Calls Tryz.prog 140 #[.pointer (some ⟨b,0,none⟩),.int .i64 (n:Int)] w (ka [3] [6] b w):=by
 have p0:=zh hb 0 rfl;have hbl:=zj hb;rw[ho] at p0;have hw1:IntKind.i64.wrap ((n:Int)-1)=(n:Int)-1:=by rw[Lp];omega
 clear hb ho;go_enter N3,NU;go_wp2_with fail
 go_ret2
 obtain⟨H1,H2,H3⟩:=yX w #[.pointer (some ⟨b,3,none⟩)] #[.int .i64 (6)] 219 3;exact qx H3 (by omega) (by omega) H1 H2
theorem fields_11(h:Fh)(A:Bb)(len c n:Nat)(hn:n<=5)(b:Nat)(w:Ba)(hb:w.heap[b]?=some (.cells #[.int .i64 h.op,.int .i64 h.p,.int .i64 h.o,.int .i64 h.v,.int .i64 h.g,.slice A len c] 66 (0,0)))(ho:h.op=11) :
  Calls Tryz.prog 140 #[.pointer (some ⟨b,0,none⟩),.int .i64 (n:Int)] w (ka [4] [(2:Int)^n-1] b w):=by
 have p0:=zh hb 0 rfl;have hbl:=zj hb;rw[ho] at p0;have hw1:IntKind.i64.wrap ((n:Int)-1)=(n:Int)-1:=by rw[Lp];omega
 have HE:=zH (fun W=>jf n hn W);clear hb ho;go_enter N3,NU;go_wp2_with fail;have hTT:(fun _:Ba=>True) w:=trivial
 go_region_held3 (fun _=>True) (exact trivial) ((go_at_call 152;refine(HE.out _).mono ?_;rintro e w2 ⟨rfl,rfl⟩))
 all_goals
  go_wp2_with fail
  go_ret2
 all_goals
  first
  | (obtain ⟨H1, H2, H3⟩ := yX w #[.pointer (some ⟨b, 4, none⟩)] #[.int .i64 ((2 : Int) ^ n - 1)] 219 3
     exact qx H3.drew (by omega) (by omega) H1 H2)
  | (obtain ⟨H1, H2, H3⟩ := yX w #[.int .i64 ((2 : Int) ^ n - 1)] #[.pointer (some ⟨b, 4, none⟩)] 3 219
     exact qx H3.drew (by omega) (by omega) H2 H1)
theorem fields_12(h:Fh)(A:Bb)(len c n:Nat)(hn:n<=5)(b:Nat)(w:Ba)(hb:w.heap[b]?=some (.cells #[.int .i64 h.op,.int .i64 h.p,.int .i64 h.o,.int .i64 h.v,.int .i64 h.g,.slice A len c] 66 (0,0)))(ho:h.op=12) :
  Calls Tryz.prog 140 #[.pointer (some ⟨b,0,none⟩),.int .i64 (n:Int)] w (ka [4] [(2:Int)^n-1] b w):=by
 have p0:=zh hb 0 rfl;have hbl:=zj hb;rw[ho] at p0;have hw1:IntKind.i64.wrap ((n:Int)-1)=(n:Int)-1:=by rw[Lp];omega
 have HE:=zH (fun W=>jf n hn W);clear hb ho;go_enter N3,NU;go_wp2_with fail;have hTT:(fun _:Ba=>True) w:=trivial
 go_region_held3 (fun _=>True) (exact trivial) ((go_at_call 152;refine(HE.out _).mono ?_;rintro e w2 ⟨rfl,rfl⟩))
 all_goals
  go_wp2_with fail
  go_ret2
 all_goals
  first
  | (obtain ⟨H1, H2, H3⟩ := yX w #[.pointer (some ⟨b, 4, none⟩)] #[.int .i64 ((2 : Int) ^ n - 1)] 219 3
     exact qx H3.drew (by omega) (by omega) H1 H2)
  | (obtain ⟨H1, H2, H3⟩ := yX w #[.int .i64 ((2 : Int) ^ n - 1)] #[.pointer (some ⟨b, 4, none⟩)] 3 219
     exact qx H3.drew (by omega) (by omega) H2 H1)
theorem fields_13(h:Fh)(A:Bb)(len c n:Nat)(hn:n<=5)(b:Nat)(w:Ba)(hb:w.heap[b]?=some (.cells #[.int .i64 h.op,.int .i64 h.p,.int .i64 h.o,.int .i64 h.v,.int .i64 h.g,.slice A len c] 66 (0,0)))(ho:h.op=13) :
  Calls Tryz.prog 140 #[.pointer (some ⟨b,0,none⟩),.int .i64 (n:Int)] w (ka [4] [(2:Int)^n-1] b w):=by
 have p0:=zh hb 0 rfl;have hbl:=zj hb;rw[ho] at p0;have hw1:IntKind.i64.wrap ((n:Int)-1)=(n:Int)-1:=by rw[Lp];omega
 have HE:=zH (fun W=>jf n hn W);clear hb ho;go_enter N3,NU;go_wp2_with fail;have hTT:(fun _:Ba=>True) w:=trivial
 go_region_held3 (fun _=>True) (exact trivial) ((go_at_call 152;refine(HE.out _).mono ?_;rintro e w2 ⟨rfl,rfl⟩))
 all_goals
  go_wp2_with fail
  go_ret2
 all_goals
  first
  | (obtain ⟨H1, H2, H3⟩ := yX w #[.pointer (some ⟨b, 4, none⟩)] #[.int .i64 ((2 : Int) ^ n - 1)] 219 3
     exact qx H3.drew (by omega) (by omega) H1 H2)
  | (obtain ⟨H1, H2, H3⟩ := yX w #[.int .i64 ((2 : Int) ^ n - 1)] #[.pointer (some ⟨b, 4, none⟩)] 3 219
     exact qx H3.drew (by omega) (by omega) H2 H1)
theorem fields_no(h:Fh)(A:Bb)(len c n:Nat)(b:Nat)(w:Ba)(hb:w.heap[b]?=some (.cells #[.int .i64 h.op,.int .i64 h.p,.int .i64 h.o,.int .i64 h.v,.int .i64 h.g,.slice A len c] 66 (0,0)))(ho:¬(h.op=1\/h.op=5\/h.op=2\/h.op=3\/h.op=4\/h.op=10\/h.op=6\/h.op=11\/h.op=12\/h.op=13)) :
  Calls Tryz.prog 140 #[.pointer (some ⟨b,0,none⟩),.int .i64 (n:Int)] w (ka [] [] b w):=by
 have p0:=zh hb 0 rfl;have hbl:=zj hb;have n1:¬h.op=1:=by omega
 have n5:¬h.op=5:=by omega
 have n2:¬h.op=2:=by omega
 have n3:¬h.op=3:=by omega
 have n4:¬h.op=4:=by omega
 have n10:¬h.op=10:=by omega
 have n6:¬h.op=6:=by omega
 have n11:¬h.op=11:=by omega
 have n12:¬h.op=12:=by omega
 have n13:¬h.op=13:=by omega
 clear hb ho;go_enter N3,NU;go_wp2_with fail
 go_ret2
 exact⟨none,none,rfl,Lo _ _,fun k hk=>absurd hk (by simp)⟩
theorem fields_any(h:Fh)(A:Bb)(len c n:Nat)(hn:n<=5)(b:Nat)(w:Ba)(hb:w.heap[b]?=some (.cells #[.int .i64 h.op,.int .i64 h.p,.int .i64 h.o,.int .i64 h.v,.int .i64 h.g,.slice A len c] 66 (0,0))) :
  Calls Tryz.prog 140 #[.pointer (some ⟨b,0,none⟩),.int .i64 (n:Int)] w (ka (qh h.op) (QR n h.op) b w):=by
 by_cases e1:h.op=1
 . have:=fields_1 h A len c n hn b w hb e1
   rw[e1];exact this
 by_cases e5:h.op=5
 . have:=fields_5 h A len c n hn b w hb e5
   rw[e5];exact this
 by_cases e2:h.op=2
 . have:=fields_2 h A len c n hn b w hb e2
   rw[e2];exact this
 by_cases e3:h.op=3
 . have:=fields_3 h A len c n hn b w hb e3
   rw[e3];exact this
 by_cases e4:h.op=4
 . have:=fields_4 h A len c n hn b w hb e4
   rw[e4];exact this
 by_cases e10:h.op=10
 . have:=fields_10 h A len c n hn b w hb e10
   rw[e10];exact this
 by_cases e6:h.op=6
 . have:=fields_6 h A len c n hn b w hb e6
   rw[e6];exact this
 by_cases e11:h.op=11
 . have:=fields_11 h A len c n hn b w hb e11
   rw[e11];exact this
 by_cases e12:h.op=12
 . have:=fields_12 h A len c n hn b w hb e12
   rw[e12];exact this
 by_cases e13:h.op=13
 . have:=fields_13 h A len c n hn b w hb e13
   rw[e13];exact this
 have h1:qh h.op=[]:=by unfold qh;simp[e1,e5,e2,e3,e4,e10,e6,e11,e12,e13]
 have h2:QR n h.op=[]:=by unfold QR;simp[e1,e5,e2,e3,e4,e10,e6,e11,e12,e13]
 rw[h1,h2];exact fields_no h A len c n b w hb (by omega)
theorem Yu{w w':Ba}{b B:Nat}(h:Wrote (fun z=>z=b) w w')(hb:B<=b)(hl:B<=w.heap.size):Below B w w':=⟨h.os,h.tape,h.output,h.size,fun k hk=>h.block k (by omega) (by show ¬k=b;omega)⟩
def Fh.at(h:Fh)(a:Nat):Int:=if a=1 then h.p else if a=2 then h.o else if a=3 then h.v else h.g
def Fh.zero(h:Fh)(a:Nat):Fh:=if a=1 then { h with p:=0 } else if a=2 then { h with o:=0 } else if a=3 then { h with v:=0 } else { h with g:=0 }
def zF(h:Fh)(os:List Nat):Nat->Fh
 | 0=>h
 | k+1=>(zF h os k).zero (os.getD k 0)
def fcs(h:Fh)(A:Bb)(len c:Nat):Array Value:=#[.int .i64 h.op,.int .i64 h.p,.int .i64 h.o,.int .i64 h.v,.int .i64 h.g,.slice A len c]
theorem fcs_cell{w:Ba}{b:Nat}{h:Fh}{A:Bb}{len c:Nat}(hb:w.heap[b]?=some (.cells (fcs h A len c) 66 (0,0))){a:Nat}(h1:1<=a)(h4:a<=4):w.cell? ⟨b,a,none⟩=some (.int .i64 (h.at a)):=by
 obtain rfl | rfl | rfl | rfl:a=1\/a=2\/a=3\/a=4:=by omega
 . exact zh hb 1 rfl
 . exact zh hb 2 rfl
 . exact zh hb 3 rfl
 . exact zh hb 4 rfl
theorem fcs_set(h:Fh)(A:Bb)(len c:Nat){a:Nat}(h1:1<=a)(h4:a<=4):(fcs h A len c).set! a (.int .i64 0)=fcs (h.zero a) A len c:=by
 obtain rfl | rfl | rfl | rfl:a=1\/a=2\/a=3\/a=4:=by omega
 all_goals rfl
theorem fld_ok(op:Int):(qh op).length<=2/\(∀k (h:k<(qh op).length),1<=(qh op)[k]/\(qh op)[k]<=4):=by
 have key:∀l:List Nat,l∈[[1,3],[3],[1,2],[1],[4],[]]->l.length<=2/\∀k (h:k<l.length),1<=l[k]/\l[k]<=4:=by
  intro l hl;simp only[List.mem_cons,List.not_mem_nil,or_false] at hl
  have h2:(∀a∈l,1<=a/\a<=4)/\l.length<=2:=by
   rcases hl with rfl | rfl | rfl | rfl | rfl | rfl<;>decide
  exact⟨h2.2,fun k hk=>h2.1 _ (Ld hk)⟩
 refine key _ ?_;unfold qh
 repeat' split
 all_goals simp
theorem nod_prog{n:Nat}{h:Fh}{m:Nat}(h0:0<=h.op)(h17:h.op<=17)(hm:(m:Int)=arN h.op) :
  (∀k (hk:k<(qh h.op).length),((zF h (qh h.op) k).at (qh h.op)[k]<0\/(QR n h.op).getD k 0<(zF h (qh h.op) k).at (qh h.op)[k])->qL n h m=2) /\
  ((∀k (hk:k<(qh h.op).length),0<=(zF h (qh h.op) k).at (qh h.op)[k]/\(zF h (qh h.op) k).at (qh h.op)[k]<=(QR n h.op).getD k 0) ->
   qL n h m=if (zF h (qh h.op) (qh h.op).length).p≠0\/(zF h (qh h.op) (qh h.op).length).o≠0\/(zF h (qh h.op) (qh h.op).length).v≠0\/(zF h (qh h.op) (qh h.op).length).g≠0 then 3 else 0):=by
 obtain⟨op,p,o,v,g⟩:=h;dsimp only at h0 h17 hm ⊢;have e1:¬(op<0\/17<op):=by omega
 have e2:¬((m:Int)≠arN op):=by simp[hm]
 unfold qL;dsimp only;rw[Lg e1,Lg e2];clear e1 e2 hm;have hl2:=(fld_ok op).1;obtain rfl | rfl | rfl | rfl | rfl | rfl | rfl | rfl | rfl | rfl | rfl | rfl | rfl | rfl | rfl | rfl | rfl | rfl:op=0\/op=1\/op=2\/op=3\/op=4\/op=5\/op=6\/op=7\/op=8\/op=9\/op=10\/op=11\/op=12\/op=13\/op=14\/op=15\/op=16\/op=17:=by omega
 all_goals
  refine⟨fun k hk hh=>?_,fun hh=>?_⟩
  . have hk2:k=0\/k=1:=by omega
    simp only[usP,usO,usV,usG,mxV];rcases hk2 with rfl | rfl
    all_goals
     simp[qh,QR,zF,Fh.at,Fh.zero] at hk hh ⊢
     try omega
  . have h0:=hh 0
    have h1:=hh 1;simp only[usP,usO,usV,usG,mxV];clear hh;simp[qh,QR,zF,Fh.at,Fh.zero] at h0 h1 ⊢
    try omega
theorem gd(n:Nat)(_hn1:1<=n)(hn:n<=5)(f:Fm)(R:Fm->Int)(A:Bb)(c:Nat)(w:Ba)(hl:f.args.length<=1000000)
  (hrec:RecAt w A f.args fun cs x X=>Calls Tryz.prog 105 #[.agg cs,.int .i64 (n:Int)] X fun e w'=>e=.returned (.int .i64 (R x))/\Below X.heap.size X w') :
  Calls Tryz.prog 105 #[.agg (f.vs A c),.int .i64 (n:Int)] w fun e w'=>e=.returned (.int .i64 (Qu n R f))/\Below w.heap.size w w':=by
 obtain⟨w1,hw1,d0,hs1,hB⟩:=zn w (f.vs A c) 66;have HREC:=zH hrec;have HS1:=zH hs1;clear hs1;have HBT:=zH (fun a b c W=>gz a b c W);obtain⟨⟨op,hp,ho,hv,hg⟩,l⟩:=f;obtain⟨E,hE⟩:=Ki (Qu n R (.mk ⟨op,hp,ho,hv,hg⟩ l));have HE:Hid (E=if qL n ⟨op,hp,ho,hv,hg⟩ l.length≠0 then qL n ⟨op,hp,ho,hv,hg⟩ l.length else Ym (l.map R)):=hE.symm;rw[hE];simp only[Fm.vs,Fm.args,Fm.h] at hw1 d0 HREC hl HE ⊢;obtain⟨m,hm⟩:=Ki l.length;have HM:=zH hm;rw[hm] at hw1 d0 hl HE ⊢;have HW1:=zH hw1;have HB:=zH hB;have HD0:=zH d0;obtain⟨p0,p1,p2,p3,p4,p5,_⟩:=Kg d0;clear hw1 d0 hB hrec hm hE;go_enter Tryz.func105,Tryz.ntmps105;go_wp2_with fail;rw[HW1.out];go_wp2_with fail;refine(HBT.out _ _ _ _).mono ?_;rintro e w2 ⟨rfl,hw2⟩;obtain rfl:=hw2
 by_cases hop:0<=op/\op<=17
 case neg=>
  have e0:decide (0<=op/\op<=17)=false:=Li hop
  have hEE:Hid (E=1):=by
   have h1:qL n ⟨op,hp,ho,hv,hg⟩ m=1:=Lh (by show op<0\/17<op;omega);rw[Hid,HE.out,h1];rfl
  clear HE HREC hop;go_wp2_with fail;go_ret;rw[hEE.out];exact⟨rfl,HB.out⟩
 have e0:decide (0<=op/\op<=17)=true:=Lk hop
 go_upto_block 0 with fail
 go_cut [0,5] from 14 (fun s0 s5 wx=>s0=.agg #[.int .i64 op,.int .i64 hp,.int .i64 ho,.int .i64 hv,.int .i64 hg,.slice A m c]/\s5=.int .i64 (arN op)/\wx=w2)
 case first=>
  clear HE HREC;obtain rfl | rfl | rfl | rfl | rfl | rfl | rfl | rfl | rfl | rfl | rfl | rfl | rfl | rfl | rfl | rfl | rfl | rfl:op=0\/op=1\/op=2\/op=3\/op=4\/op=5\/op=6\/op=7\/op=8\/op=9\/op=10\/op=11\/op=12\/op=13\/op=14\/op=15\/op=16\/op=17:=by omega
  all_goals
   go_wp2_with fail
   go_meet
   exact⟨rfl,rfl,rfl⟩
 case rest=>
  obtain⟨rfl,rfl,rfl⟩:=hcut
  by_cases hm:(m:Int)=arN op
  case neg=>
   have hEE:Hid (E=15):=by
    have h1:qL n ⟨op,hp,ho,hv,hg⟩ m=15:=by unfold qL;rw[Lg (by show ¬(op<0\/17<op);omega),Lh hm]
    rw[Hid,HE.out,h1];rfl
   have e1:((m:Int) != arN op)=true:=by simpa using hm
   clear HE HREC hop;go_wp2_with fail;go_ret;rw[hEE.out];exact⟨rfl,HB.out⟩
  have e1:((m:Int) != arN op)=false:=by simpa using hm
  go_upto_region 20 with fail
  obtain⟨W2,hW2,d2,hs2,hb2⟩:=zn wc #[.int .i64 op,.int .i64 hp,.int .i64 ho,.int .i64 hv,.int .i64 hg,.slice A m c] 66;rw[hW2];have hBs:=HB.out.size;have HS2:=zH hs2;clear hs2;have HB2:=zH (HB.out.trans (hb2.mono hBs));have HF:=zH (fields_any ⟨op,hp,ho,hv,hg⟩ A m c n hn wc.heap.size W2 d2);obtain⟨hfl,hfo⟩:=fld_ok op;obtain⟨hN2,hN3⟩:=nod_prog (n:=n) (h:=⟨op,hp,ho,hv,hg⟩) (m:=m) hop.1 hop.2 hm;have HD0:=zH (La hb2 HD0.out);have HD2:=zH d2;dsimp only at HF hN2 hN3 hfl hfo
  revert HF hN2 hN3 hfl hfo
  generalize qh op=os
  generalize QR n op=ms
  intro HF hfl hfo hN2 hN3;have HN2:=zH hN2;have HN3:=zH hN3;have HFO:=zH hfo;unfold ka at HF;obtain⟨q,hq⟩:=Ki os.length;have HQ:=zH hq;rw[hq] at hfl;simp only[hq] at HF;clear hW2 d2 hb2 hN2 hN3 hfo p0 p1 p2 p3 p4 p5 e0 e1 hm;go_wp2_with fail;refine HF.out.mono ?_;rintro e W3 ⟨A1,A2,rfl,hb3,hcells⟩;have hs3:=hb3.size;have HB3:=zH (HB2.out.trans (hb3.mono (by have:=HS2.out;omega)));have HCL:=zH hcells;have HD0:=zH (La hb3 HD0.out);have HD3:Hid (W3.heap[wc.heap.size]?=some (.cells (fcs (zF ⟨op,hp,ho,hv,hg⟩ os 0) A m c) 66 (0,0))):=La hb3 HD2.out;have HR3:Hid (∀X,Wrote (fun z=>z=wc.heap.size) W3 X->X.heap[w.heap.size]?=some (.cells #[.int .i64 op,.int .i64 hp,.int .i64 ho,.int .i64 hv,.int .i64 hg,.slice A m c] 66 (0,0))):=fun X hX=>(hX.block _ (zj HD0.out) (by have:=HS1.out;omega)).trans HD0.out
  clear hb3 hcells HF HD2 HD0;go_wp2_with fail
  go_loopw [45] (fun i wr=>∃k:Nat,k<=q/\i=.int .i64 (k:Int)/\Hid (∀j (hj:j<os.length),j<k->0<=(zF ⟨op,hp,ho,hv,hg⟩ os j).at os[j]/\(zF ⟨op,hp,ho,hv,hg⟩ os j).at os[j]<=ms.getD j 0)/\Hid (wr.heap[wc.heap.size]?=some (.cells (fcs (zF ⟨op,hp,ho,hv,hg⟩ os k) A m c) 66 (0,0)))/\Hid (Wrote (fun z=>z=wc.heap.size) W3 wr)) (fun i _=>q-(intOf i).toNat)
  case atStart=>exact⟨0,by omega,rfl,fun j _ h=>absurd h (by omega),HD3,Wrote.refl _ _⟩
  case round=>
   obtain⟨k,hk,rfl,hgood,hZ,hWr⟩:=hrel;clear HD3
   by_cases hkq:k<q
   . have hko:k<os.length:=by have:=HQ.out;omega
     obtain⟨g1,g2,rfl,rfl,hg1,hg2,hl1,hl2,c1,c2⟩:=HCL.out k (by have:=HQ.out;omega);obtain⟨ha1,ha4⟩:=HFO.out k hko;have hE2:=HN2.out k hko;obtain⟨a,ha⟩:=Ki (os[k]);have hga:os.getD k 0=a:=by rw[zt hko];exact ha
     obtain⟨Z,hZZ⟩:=Ki (zF ⟨op,hp,ho,hv,hg⟩ os k);have hZ1:zF ⟨op,hp,ho,hv,hg⟩ os (k+1)=Z.zero a:=by rw[zF,hZZ,hga]
     obtain⟨mx,hmx⟩:=Ki (ms.getD k 0)
     have HGK:Hid (0<=Z.at a/\Z.at a<=mx->∀j (hj:j<os.length),j<k+1->0<=(zF ⟨op,hp,ho,hv,hg⟩ os j).at os[j]/\(zF ⟨op,hp,ho,hv,hg⟩ os j).at os[j]<=ms.getD j 0):=fun h j hj hjk=>by
      by_cases e:j=k
      . subst e;rw[hZZ,ha,hmx];exact h
      . exact hgood.out j hj (by omega)
     simp only[ha,hZZ,hmx] at hE2 c1 c2 ha1 ha4;rw[hZZ] at hZ;have u1:=(LA (a:=⟨g1,k,none⟩) (hWr.out.block g1 hl1 (by show ¬g1=wc.heap.size;have:=HS2.out;omega))).trans c1;have u2:=(LA (a:=⟨g2,k,none⟩) (hWr.out.block g2 hl2 (by show ¬g2=wc.heap.size;have:=HS2.out;omega))).trans c2;have z0:=fcs_cell hZ.out ha1 ha4;have zf:=zi hZ.out a;have zl:=zj hZ.out;have hset:=kZ hZ.out a (.int .i64 0);rw[fcs_set Z A m c ha1 ha4,<-hZ1] at hset;have HST:=zH hset.1;obtain⟨y,hy⟩:=Ki (Z.at a);rw[hy] at z0;simp only[hy] at HGK hE2;have HE2:=zH hE2;have hk0:(0:Int)<=(k:Int):=by omega
     have hk1:(k:Int)<(q:Int):=by omega
     have hWn:Hid (Wrote (fun z=>z=wc.heap.size) W3 (wr.setCell ⟨wc.heap.size,a,none⟩ (.int .i64 0)).drew):=(hWr.out.trans (Wrote.of_grown (zS wr wc.heap.size a _) (fun z e _=>by cases e;rfl)) (fun _ _ h=>h)).trans (Wrote.of_below ((Lo _ _).drew)) (fun _ _ h=>h);have HBY:Hid (∃bt:Bool,(bt=true↔(0<=y/\y<=mx))/\∀W,Calls Tryz.prog 102 #[.int .i64 y,.int .i64 0,.int .i64 mx] W fun e w'=>e=.returned (.bool bt)/\w'=W):=⟨_,by simp,fun W=>HBT.out y 0 mx W⟩;obtain⟨bt,hbt,hcb⟩:=HBY.out;have HCB:=zH hcb;have HBV:=zH hbt;clear HBY hcb hbt;clear c1 c2 hZ hset ha hga hZZ hZ1 hmx hgood hy hE2;go_upto_region 24 with fail
     refine zz [(0,true),(1,true),(2,true),(3,true),(4,true),(5,true),(6,true),(7,false),(8,true)] (fun X=>X=wr.drew) (by kernel_rfl) (by kernel_rfl) rfl ?_
     repeat
      apply zG rfl
      . rintro K' hK' X rfl
        go_simp;exact hK'
     refine zE rfl ?_;intro K' hK';go_simp;refine(HCB.out _).mono ?_;rintro e w5 ⟨rfl,rfl⟩;refine hK' _ _ rfl ?_;clear hK' K'
     repeat
      apply zG rfl
      . rintro K' hK' X rfl
        go_simp;exact hK'
     refine zQ ?_;clear HCB
     cases bt with
     | false=>
      have hEE:Hid (E=2):=by
       have h1:=HE2.out (by
        have:=HBV.out;simp at this
        omega)
       rw[Hid,HE.out,h1];rfl
      have hBF:Hid (Below w.heap.size w wr.drew):=(HB3.out.trans (Yu hWr.out (by omega) (by have:=HB3.out.size;omega))).drew;clear HE2 HE HREC HBV HGK HST hWn hWr;go_wp2_with fail;go_ret;rw[hEE.out];exact⟨rfl,hBF.out⟩
     | true=>
     have HG2:=zH (HGK.out (HBV.out.1 rfl));have HST2:Hid ((wr.setCell ⟨wc.heap.size,a,none⟩ (.int .i64 0)).drew.heap[wc.heap.size]?=some (.cells (fcs (zF ⟨op,hp,ho,hv,hg⟩ os (k+1)) A m c) 66 (0,0))):=HST.out;clear HE2 HBV HGK HST hWr;go_wp2_with fail
     go_roundw
     case rel=>exact⟨k+1,by omega,by go_num,HG2,HST2,hWn⟩
     case measure=>simp[intOf];omega
   . obtain rfl:q=k:=by omega
     have hNE:=HN3.out fun j hj=>hgood.out j hj (by have:=HQ.out;omega)
     rw[HQ.out] at hNE;obtain⟨⟨zo0,zp,zo,zv,zg⟩,hZZ⟩:∃Z,zF ⟨op,hp,ho,hv,hg⟩ os q=Z:=⟨_,rfl⟩;rw[hZZ] at hNE hZ;dsimp only at hNE;have z1:wr.cell? ⟨wc.heap.size,1,none⟩=some (.int .i64 zp):=zh hZ.out 1 rfl;have z2:wr.cell? ⟨wc.heap.size,2,none⟩=some (.int .i64 zo):=zh hZ.out 2 rfl;have z3:wr.cell? ⟨wc.heap.size,3,none⟩=some (.int .i64 zv):=zh hZ.out 3 rfl;have z4:wr.cell? ⟨wc.heap.size,4,none⟩=some (.int .i64 zg):=zh hZ.out 4 rfl;have HNE:=zH hNE;have hBF:Hid (Below w.heap.size w wr):=HB3.out.trans (Yu hWr.out (by omega) (by have:=HB3.out.size;omega));have HD5:=zH (HR3.out wr hWr.out);clear hNE hZZ hZ hgood HN2 HN3 HFO HCL HR3 hWr hkq hk
     by_cases hnz:zp≠0\/zo≠0\/zv≠0\/zg≠0
     case pos=>
      have hEE:Hid (E=3):=by
       have h1:=HNE.out;rw[Lh hnz] at h1;rw[Hid,HE.out,h1];rfl
      clear HE HREC HNE
      by_cases i1:zp=0
      . by_cases i2:zo=0
        . by_cases i3:zv=0
          . have i4:¬zg=0:=by omega
            clear hnz;go_wp2_with fail;go_ret;rw[hEE.out];exact⟨rfl,hBF.out⟩
          . clear hnz
            go_wp2_with fail;go_ret;rw[hEE.out];exact⟨rfl,hBF.out⟩
        . clear hnz
          go_wp2_with fail;go_ret;rw[hEE.out];exact⟨rfl,hBF.out⟩
      . clear hnz
        go_wp2_with fail;go_ret;rw[hEE.out];exact⟨rfl,hBF.out⟩
     have HE9:Hid (E=Ym (l.map R)):=by
      have h1:=HNE.out;rw[Lg hnz] at h1;rw[Hid,HE.out,h1];rfl
     obtain rfl:zp=0:=by omega
     obtain rfl:zo=0:=by omega
     obtain rfl:zv=0:=by omega
     obtain rfl:zg=0:=by omega
     have p5:=zh HD5.out 5 rfl;clear hnz HE HNE HD5;go_wp2_with fail
     go_loopw [83] (fun i wx=>∃k:Nat,k<=m/\i=.int .i64 (k:Int)/\Hid (∀j (hj:j<l.length),j<k->R l[j]=0)/\Hid (Below w.heap.size w wx)) (fun i _=>m-(intOf i).toNat)
     case atStart=>exact⟨0,by omega,rfl,fun j _ h=>absurd h (by omega),hBF⟩
     case round=>
      obtain⟨k,hk,rfl,hzero,hbr⟩:=hrel;clear z1 z2 z3 z4 p5 hBF
      by_cases hlt:k<m
      . have hkl:k<l.length:=by have:=HM.out;omega
        obtain⟨bb,o,A',c',eA,hbb,hcell,hcall⟩:=HREC.out k hkl;subst eA;obtain⟨x,hx⟩:=Ki (l[k]);have hsn:Hid (R l[k]=R x):=by rw[Hid,hx]
        rw[hx] at hcell hcall;obtain⟨Rx,hRx⟩:=Ki (R x);dsimp only at hcall;simp only[hRx] at hcall hsn;obtain⟨⟨h0,h1,h2,h3,h4⟩,xl⟩:=x;have hc:∀j v,#[Value.int .i64 h0,.int .i64 h1,.int .i64 h2,.int .i64 h3,.int .i64 h4,.slice A' xl.length c'][j]?=some v->wr.cell? ⟨bb,o+k*6+j,none⟩=some v:=hcell wr hbr.out;have z0:wr.cell? ⟨bb,o+k*6,none⟩=some (.int .i64 h0):=hc 0 _ rfl;have z1:wr.cell? ⟨bb,o+k*6+1,none⟩=some (.int .i64 h1):=hc 1 _ rfl;have z2:wr.cell? ⟨bb,o+k*6+2,none⟩=some (.int .i64 h2):=hc 2 _ rfl;have z3:wr.cell? ⟨bb,o+k*6+3,none⟩=some (.int .i64 h3):=hc 3 _ rfl;have z4:wr.cell? ⟨bb,o+k*6+4,none⟩=some (.int .i64 h4):=hc 4 _ rfl;have z5:wr.cell? ⟨bb,o+k*6+5,none⟩=some (.slice A' xl.length c'):=hc 5 _ rfl;have hk0:(0:Int)<=(k:Int):=by omega
        have hk1:(k:Int)<(m:Int):=by omega
        have hbw:bb<wr.heap.size:=by have:=hbr.out.size;omega
        have HC:=zH hcall;simp only[Fm.vs,Fm.args,Fm.h] at HC;clear hcell hcall hx hRx hc;go_upto_region 33 with fail
        obtain⟨W5,hW5,d5,hs5,hb5⟩:=zn wr #[.int .i64 h0,.int .i64 h1,.int .i64 h2,.int .i64 h3,.int .i64 h4,.slice A' xl.length c'] 66;rw[hW5];have hbs:=hbr.out.size;have HB5:=zH (hbr.out.trans (hb5.mono hbs));have HC2:=zH (HC.out W5 HB5.out);obtain⟨y0,y1,y2,y3,y4,y5,_⟩:=Kg d5;clear hW5 d5 hb5 z0 z1 z2 z3 z4 z5 HC hs5;go_wp2_with fail;refine HC2.out.mono ?_;rintro e w6 ⟨rfl,hb6⟩;have HB6:=zH (Lc HB5.out hb6);clear hb6 HC2 y0 y1 y2 y3 y4 y5
        by_cases hr:Rx=0
        · have hz2 : Hid (∀ j (hj : j < l.length), j < k + 1 → R l[j] = 0) := fun j hj hjk => by
           by_cases e:j=k
           . subst e;rw[hsn.out];exact hr
           . exact hzero.out j hj (by omega)
          have er:(Rx != 0)=false:=by simpa using hr
          subst hr;clear hsn hzero;go_wp2_with fail
          go_roundw
          case rel=>exact⟨k+1,by omega,by go_num,hz2,HB6⟩
          case measure=>simp[intOf];omega
        · have hEE : Hid (E = Rx) := by
           rw[Hid,HE9.out];refine(ffsE_at (l:=l.map R) (k:=k) (by simpa using hkl) (fun j hj hjk=>?_) ?_).trans ?_
           . rw[LZ];exact hzero.out j (by simpa using hj) hjk
           . rw[LZ,hsn.out];exact hr
           . rw[LZ,hsn.out]
          have er:(Rx != 0)=true:=by simpa using hr
          clear hsn hzero HE9;go_wp2_with fail;go_ret;rw[hEE.out];exact⟨rfl,HB6.out⟩
      . obtain rfl:m=k:=by omega
        have hEE:Hid (E=0):=by
         rw[Hid,HE9.out];refine ffsE_none fun e he=>?_
         obtain⟨x,hx,rfl⟩:=LX.1 he;obtain⟨j,hj,rfl⟩:=LQ hx;exact hzero.out j hj (by have:=HM.out;omega)
        clear HE9 hzero;go_wp2_with fail;go_ret;rw[hEE.out];exact⟨rfl,hbr.out⟩
theorem ZQ(n:Nat)(hn1:1<=n)(hn:n<=5):∀(d:Nat) (f:Fm) (A:Bb) (c:Nat) (w:Ba),FsAt w w.heap.size d A f.args->(xI d f).1<=1000000 ->
  Calls Tryz.prog 105 #[.agg (f.vs A c),.int .i64 (n:Int)] w fun e w'=>e=.returned (.int .i64 (kK n d f))/\Below w.heap.size w w'
 | 0,f,A,c,w,hA,_=>by
  have h0:f.args=[]:=hA;exact gd n hn1 hn f (fun _=>0) A c w (by rw[h0];decide) (RecAt.none hA)
 | d+1,f,A,c,w,hA,hb=>by
  have h1:(yZ (xI d) f.args).1<=1000000:=hb;have h3:=ux (xI d) (Zg d) f.args;exact gd n hn1 hn f (kK n d) A c w (by omega) (RecAt.of hA fun x A' c' X hx hX=>ZQ n hn1 hn d x A' c' X hX (Lz (Zf (xI d) hx) h1))
theorem checkF_any(n:Int)(d:Nat)(f:Fm)(A:Bb)(c:Nat)(w:Ba)(hA:FsAt w w.heap.size d A f.args)(hb:(xI d f).1<=1000000) :
  Calls Tryz.prog 64 #[.agg (f.vs A c),.int .i64 n] w fun e w'=>e=.returned (.int .i64 (qW n d f))/\Below w.heap.size w w':=by
 obtain⟨w1,hw1,d0,hs1,hB⟩:=zn w (f.vs A c) 66;have HBT:=zH (fun a b c W=>gz a b c W);have HSZ:=zH (fun a b W=>Jn a b W);have HA:=zH hA;have HFS:=zH (fun (X:Ba) (hX:Below w.heap.size w X)=>YX d f A c X ((hA.keep hX).more hX.size) hb);have HFN:=zH (fun (k:Nat) (h1:1<=k) (h5:k<=5) (X:Ba) (hX:Below w.heap.size w X)=>ZQ k h1 h5 d f A c X ((hA.keep hX).more hX.size) hb);have HE:Hid (qW n d f=if n<1\/5<n then 2 else if gI (xI d f)≠0 then gI (xI d f) else kK n.toNat d f):=rfl;obtain⟨E,hE⟩:=Ki (qW n d f);rw[hE] at HE ⊢;obtain⟨⟨z1,z2⟩,hz⟩:∃z,xI d f=z:=⟨_,rfl⟩;rw[hz] at HFS HE;unfold Fm.vs at hw1 d0 HFS HFN ⊢;have HW1:=zH hw1;have HB:=zH hB;have HD0:=zH d0;clear hw1 d0 hB hE hA hb hz hs1;have HBY:Hid (∃bt:Bool,(bt=true↔(1<=n/\n<=5))/\∀W,Calls Tryz.prog 102 #[.int .i64 n,.int .i64 1,.int .i64 5] W fun e w'=>e=.returned (.bool bt)/\w'=W):=⟨_,by simp,fun W=>HBT.out n 1 5 W⟩;obtain⟨bt,hbt,hcb⟩:=HBY.out;have HCB:=zH hcb;have HBV:=zH hbt;clear HBY hcb hbt;go_enter Tryz.func64,Tryz.ntmps64;go_wp2_with fail;rw[HW1.out];go_wp2_with fail;refine(HCB.out _).mono ?_;rintro e w2 ⟨rfl,hw2⟩;obtain rfl:=hw2;clear HCB
 cases bt with
 | false=>
  have hEE:Hid (E=2):=by
   have:=HBV.out;simp at this;rw[Hid,HE.out,Lh (by omega)]
  clear HE HBV HFS HFN;go_wp2_with fail;go_ret;rw[hEE.out];exact⟨rfl,HB.out⟩
 | true=>
 have hn:=HBV.out.1 rfl;obtain⟨k,rfl⟩:=Lr (show 0<=n by omega);have HE2:=zH (HE.out.trans (Lg (by omega)));rw[Ls] at HE2;have HFN2:=zH (HFN.out k (by omega) (by omega));have HC:=zH (HFS.out w2 HB.out);obtain⟨p0,p1,p2,p3,p4,p5,_⟩:=Kg HD0.out;clear HE HBV HFS HFN hn;go_wp2_with fail;refine HC.out.mono ?_;rintro e w3 ⟨rfl,hb3⟩;have HB3:=zH (Lc HB.out hb3);have HD3:=zH (La hb3 HD0.out);have HC2:=zH (HSZ.out z1 z2 w3);obtain⟨r,hr⟩:=Ki (gI (z1,z2));rw[hr] at HC2 HE2;clear hb3 HC p0 p1 p2 p3 p4 p5 HSZ hr HD0;go_wp2_with fail;refine HC2.out.mono ?_;rintro e w4 ⟨rfl,hw4⟩;obtain rfl:=hw4;clear HC2
 by_cases h0:r=0
 . subst h0
   have HC:=zH (HFN2.out w4 HB3.out);have HE3:Hid (E=kK k d f):=HE2.out.trans (Lg (by simp));obtain⟨p0,p1,p2,p3,p4,p5,_⟩:=Kg HD3.out;clear HE2 HFN2;go_wp2_with fail;refine HC.out.mono ?_;rintro e w5 ⟨rfl,hb5⟩;have HB5:=zH (Lc HB3.out hb5);clear hb5 HC p0 p1 p2 p3 p4 p5;go_wp2_with fail;go_ret;rw[HE3.out];exact⟨rfl,HB5.out⟩
 . have HE3:Hid (E=r):=HE2.out.trans (Lh h0)
   have e0:(r != 0)=true:=by simpa using h0
   clear HE2 HFN2;go_wp2_with fail;go_ret;rw[HE3.out];exact⟨rfl,HB3.out⟩
theorem ZU(n:Int)(d:Nat)(f:Fm)(A:Bb)(c:Nat)(w:Ba)(hA:FsAt w w.heap.size d A f.args)(hb:(xI d f).1<=1000000) :
  Calls Tryz.prog 38 #[.agg (f.vs A c),.int .i64 n] w fun e w'=>e=.returned (.int .i64 (qW n d f))/\Below w.heap.size w w':=by
 obtain⟨w1,hw1,d0,hs1,hB⟩:=zn w (f.vs A c) 66;have HC:=zH (checkF_any n d f A c w1 ((hA.keep hB).more hB.size) hb);unfold Fm.vs at hw1 d0 HC ⊢;have HW1:=zH hw1;have HB:=zH hB;obtain⟨p0,p1,p2,p3,p4,p5,_⟩:=Kg d0;clear hw1 d0 hB hA hb hs1;go_enter Tryz.func38,Tryz.ntmps38;go_wp2_with fail;rw[HW1.out];go_wp2_with fail;refine HC.out.mono ?_;rintro e w2 ⟨rfl,hb2⟩;have HB2:=zH (Lc HB.out hb2);clear hb2 HC p0 p1 p2 p3 p4 p5;go_wp2_with fail;go_ret;exact⟨rfl,HB2.out⟩
end
section
open Go.RowKit Go.Shelf
attribute [local go_sem] Oper.semAt_some
structure AtW(s:Sy)(A SV AV AX:Bb)(kc ks kv kx:Nat)(h:Fh)(AF:Bb)(lf cf:Nat)(out:List Int)(AR:Bb)(cr bS bF bR bH bV bI gH:Nat)(W:Ba):Prop where
 xs:XAt W W.heap.size AX s.xs
 cs:CAt W W.heap.size A s.p.t.cases
 ro:IAt W W.heap.size AR out
 hS:W.heap[bS]?=some (.cells (s.vs_ A kc SV ks AV kv AX kx) 35 (0,0))
 hF:W.heap[bF]?=some (.cells (fcs h AF lf cf) 66 (0,0))
 hR:W.heap[bR]?=some (.cells #[.slice AR out.length cr] 63 (0,0))
 hH:W.heap[bH]?=some (.cells #[.slice (some ⟨gH,0,none⟩) s.vs.length s.vs.length] 44 (0,0))
 hG:RowAt W gH (qD s.vs s.vs.length)
 hV:W.heap[bV]?=some (.cells #[.func (.func 108) #[] #[.pointer (some ⟨bS,0,none⟩),.pointer (some ⟨bF,0,none⟩)]] 160 (0,0))
 hI:W.heap[bI]?=some (.cells #[.func (.func 109) #[] #[.pointer (some ⟨bS,0,none⟩)]] 186 (0,0))
section
variable {s:Sy} {A SV AV AX:Bb} {kc ks kv kx:Nat} {h:Fh} {AF:Bb} {lf cf:Nat} {out:List Int} {AR:Bb} {cr bS bF bR bH bV bI gH:Nat} {W W':Ba}
theorem AtW.keep(H:AtW s A SV AV AX kc ks kv kx h AF lf cf out AR cr bS bF bR bH bV bI gH W)(hb:Below W.heap.size W W'):AtW s A SV AV AX kc ks kv kx h AF lf cf out AR cr bS bF bR bH bV bI gH W':=
 have k:∀ {b:Nat} {o:Obj},W.heap[b]?=some o->W'.heap[b]?=some o:=fun e=>(hb.block _ (Ln.1 e).1).trans e
 ⟨(H.xs.keep hb).more hb.size,(H.cs.keep hb).more hb.size,(H.ro.keep hb).more hb.size,k H.hS,k H.hF,k H.hR,k H.hH,k H.hG,k H.hV,k H.hI⟩
end
theorem atv_any(s:Sy)(K N:Nat)(hF:Fine s K N)(h:Fh)(e k q:Nat)(he:e<s.xs.length)(hk:k<=K)(hq:q<N)(hhp:h.p=(q:Int))(A SV AV AX AF AR:Bb)(kc ks kv kx lf cf:Nat)(out:List Int)(cr bS bF bR bH bV bI gH:Nat)(w:Ba)
  (hW:AtW s A SV AV AX kc ks kv kx h AF lf cf out AR cr bS bF bR bH bV bI gH w) :
  Calls Tryz.prog 108 #[.agg #[.int .i64 (e:Int),.int .i64 (k:Int)],.pointer (some ⟨bS,0,none⟩),.pointer (some ⟨bF,0,none⟩)] w fun r w'=>r=.returned (.int .i64 (xw s.xs[e] k q))/\Below w.heap.size w w':=by
 have hX:=hW.xs;have hb:=hW.hS;have hp:=hW.hF;clear hW;unfold fcs at hp;rw[hhp] at hp;obtain⟨w1,hw1,d0,hs1,hB⟩:=zn w #[.int .i64 (e:Int),.int .i64 (k:Int)] 159;have hxm:=Ld he;obtain⟨hvl,hrow⟩:=hF.views _ hxm;obtain⟨bx,ox,A1,c1,A2,c2,eX,hbx,x0,x1,x2,hRw,hLv⟩:=(hX.keep hB).row e he;subst eX;obtain⟨x,hx⟩:∃x,x=s.xs[e]:=⟨_,rfl⟩;rw[<-hx] at hvl hrow x2 hLv ⊢;obtain⟨bl,ol,A3,c3,eL,hbl,y1,hI⟩:=hLv.at_ k (by omega);subst eL;obtain⟨hl,hpos⟩:=hrow _ (Ld (by omega:k<x.views.length));have hxw:∀row,x.views[k]'(by omega)=row->xw x k q=row.getD q 0:=fun row hr=>by unfold xw;rw[zt (by omega:k<x.views.length),hr]
 obtain⟨row,hrw⟩:=Ki (x.views[k]'(by omega));rw[hxw row hrw];rw[hrw] at y1 hI hl;obtain⟨b4,o4,e4,hb4,z4⟩:=hI.at_ q (by omega);subst e4;have hval:row[q]'(by omega)=row.getD q 0:=by rw[Lj,Lm (by omega)];rfl
 rw[hval] at z4;obtain⟨u,hu⟩:=Ki (row.getD q 0);rw[hu] at z4 ⊢;obtain⟨nv,hnv⟩:=Ki x.views.length;rw[hnv] at x2 hvl;obtain⟨nr,hnr⟩:=Ki row.length;rw[hnr] at y1 hl;have HW1:=zH hw1;have HB:=zH hB;obtain⟨g0,g1,_⟩:=Ka d0;have p0:w1.cell? ⟨bF,1,none⟩=some (.int .i64 (q:Int)):=zh (La hB hp) 1 rfl;have p9:w1.cell? ⟨bS,9,none⟩=some (.slice (some ⟨bx,ox,none⟩) s.xs.length kx):=zh (La hB hb) 9 rfl;have h1:(0:Int)<=(e:Int):=by omega
 have h2:(e:Int)<(s.xs.length:Int):=by omega
 have h3:(0:Int)<=(k:Int):=by omega
 have h4:(k:Int)<(nv:Int):=by omega
 have h5:(0:Int)<=(q:Int):=by omega
 have h6:(q:Int)<(nr:Int):=by omega
 have lbs:=zj hb;have lbp:=zj hp;clear hw1 d0 hB hX hb hp hF hval hu hnv hnr hx hRw hLv hI hpos hrow hxm hxw hrw x0 x1 hl hvl hhp;go_enter Tryz.func108,Tryz.ntmps108;go_wp2_with fail;rw[HW1.out];go_quiet (fail);go_wp2_with fail;go_ret;exact⟨rfl,zT HB.out _⟩
theorem ati_any(s:Sy)(h:Fh)(e k c:Nat)(he:e<s.xs.length)(hc:s.xs[e].c=(c:Int))(hcl:c<s.p.t.cases.length)(A SV AV AX AF AR:Bb)(kc ks kv kx lf cf:Nat)(out:List Int)(cr bS bF bR bH bV bI gH:Nat)(w:Ba)
  (hW:AtW s A SV AV AX kc ks kv kx h AF lf cf out AR cr bS bF bR bH bV bI gH w) :
  Calls Tryz.prog 109 #[.agg #[.int .i64 (e:Int),.int .i64 (k:Int)],.pointer (some ⟨bS,0,none⟩)] w fun r w'=>∃A' c',r=.returned (.slice A' (yt s.p c).length c')/\IAt w' w.heap.size A' (yt s.p c)/\Below w.heap.size w w':=by
 have hX:=hW.xs;have hC:=hW.cs;have hb:=hW.hS;clear hW;obtain⟨w1,hw1,d0,hs1,hB⟩:=zn w #[.int .i64 (e:Int),.int .i64 (k:Int)] 159;obtain⟨bx,ox,A1,c1,A2,c2,eX,hbx,x0,x1,x2,hRw,hLv⟩:=(hX.keep hB).row e he;subst eX;rw[hc] at x0;obtain⟨bc,oc,A3,c3,A4,c4,A5,c5,eC,hbc,y0,y1,y2,hI,_,_⟩:=(hC.keep hB).row c hcl;subst eC;have hin:yt s.p c=s.p.t.cases[c].inp:=by unfold yt;rw[Lj,Lm hcl];rfl
 rw[<-hin] at y0 hI;obtain⟨L,hL⟩:=Ki (yt s.p c);rw[hL] at y0 hI ⊢;obtain⟨nl,hnl⟩:=Ki L.length;rw[hnl] at y0 ⊢;have HI:=zH hI;have HW1:=zH hw1;have HB:=zH hB;obtain⟨g0,g1,_⟩:=Ka d0;have p3:w1.cell? ⟨bS,3,none⟩=some (.slice (some ⟨bc,oc,none⟩) s.p.t.cases.length kc):=zh (La hB hb) 3 rfl;have p9:w1.cell? ⟨bS,9,none⟩=some (.slice (some ⟨bx,ox,none⟩) s.xs.length kx):=zh (La hB hb) 9 rfl;have h1:(0:Int)<=(e:Int):=by omega
 have h2:(e:Int)<(s.xs.length:Int):=by omega
 have h3:(0:Int)<=(c:Int):=by omega
 have h4:(c:Int)<(s.p.t.cases.length:Int):=by omega
 have lbs:=zj hb;clear hw1 d0 hB hX hC hb hc hRw hLv hI hin hL hnl x1 x2 y1 y2;go_enter Tryz.func109,Tryz.ntmps109;go_wp2_with fail;rw[HW1.out];go_quiet (fail);go_wp2_with fail;go_ret;exact⟨_,_,rfl,IAt.keep HI.out (zT (Lo w.heap.size w1) _),zT HB.out _⟩
end
section
open Go.RowKit Go.Shelf
attribute [local go_sem] Oper.semAt_some
theorem at0_any(s:Sy)(h:Fh)(e k:Nat)(_he:e<s.xs.length)(hop:h.op=0)(A SV AV AX AF AR:Bb)(kc ks kv kx lf cf:Nat)(out:List Int)(cr bS bF bR bH bV bI gH:Nat)(w:Ba)
  (_hW:AtW s A SV AV AX kc ks kv kx h AF lf cf out AR cr bS bF bR bH bV bI gH w) :
  Calls Tryz.prog 110 #[.agg #[.int .i64 (e:Int),.int .i64 (k:Int)]] w fun r w'=>r=.returned (.bool (xP s out h (e,k)))/\Below w.heap.size w w':=by
 obtain⟨w1,hw1,d0,hs1,hB⟩:=zn w #[.int .i64 (e:Int),.int .i64 (k:Int)] 159;have hE:xP s out h (e,k)=true:=by unfold xP;rw[Lh hop]
 rw[hE];have HW1:=zH hw1;have HB:=zH hB;clear hw1 d0 hB _hW hE hop _he hs1;go_enter Tryz.func110,Tryz.ntmps110;go_wp2_with fail;rw[HW1.out];go_wp2_with fail;go_ret;exact⟨rfl,HB.out⟩
theorem at1_any(s:Sy)(h:Fh)(e k:Nat)(he:e<s.xs.length)(c q:Nat)(hc:s.xs[e].c=(c:Int))(hcl:c<s.p.t.cases.length)(hq:q<(yt s.p c).length)(hhp:h.p=(q:Int))(hop:h.op=1)(A SV AV AX AF AR:Bb)(kc ks kv kx lf cf:Nat)(out:List Int)(cr bS bF bR bH bV bI gH:Nat)(w:Ba)
  (hW:AtW s A SV AV AX kc ks kv kx h AF lf cf out AR cr bS bF bR bH bV bI gH w) :
  Calls Tryz.prog 111 #[.agg #[.int .i64 (e:Int),.int .i64 (k:Int)],.pointer (some ⟨bI,0,none⟩),.pointer (some ⟨bF,0,none⟩)] w fun r w'=>r=.returned (.bool (xP s out h (e,k)))/\Below w.heap.size w w':=by
 obtain⟨w1,hw1,d0,hs1,hB⟩:=zn w #[.int .i64 (e:Int),.int .i64 (k:Int)] 159
 have hE:xP s out h (e,k)=decide ((yt s.p c).getD q 0=h.v):=by
  unfold xP;rw[Lg (by rw[hop];decide),Lh hop];dsimp only;rw[zt he,hc,hhp,Ls,Ls]
 rw[hE];have HC:=zH (ati_any s h e k c he hc hcl A SV AV AX AF AR kc ks kv kx lf cf out cr bS bF bR bH bV bI gH w1.drew (hW.keep hB.drew));have hF:=hW.hF;unfold fcs at hF;rw[hhp] at hF;obtain⟨vv,hoo⟩:=Ki h.v;rw[hoo] at hF ⊢;obtain⟨L,hL⟩:=Ki (yt s.p c);rw[hL] at HC hq ⊢;obtain⟨y,hy⟩:=Ki (L.getD q 0);have HY:Hid (L[q]=y):=by rw[Hid,<-hy,zt hq]
 rw[hy];have hIw:=hW.hI;have lF:=zj hF;have lI:=zj hIw
 have HKP:Hid (∀X,Below w1.heap.size w1 X->X.heap[bF]?=some (.cells #[.int .i64 h.op,.int .i64 (q:Int),.int .i64 h.o,.int .i64 vv,.int .i64 h.g,.slice AF lf cf] 66 (0,0))/\X.heap[bI]?=some (.cells #[.func (.func 109) #[] #[.pointer (some ⟨bS,0,none⟩)]] 186 (0,0))/\X.heap[w.heap.size]?=some (.cells #[.int .i64 (e:Int),.int .i64 (k:Int)] 159 (0,0))):=
  fun X hX=>⟨Lb hX (by omega) (Lb hB lF hF),Lb hX (by omega) (Lb hB lI hIw),Lb hX (by omega) d0⟩
 have HW1:=zH hw1;have HB:=zH hB;have HS1:=zH hs1;obtain⟨n,hn⟩:=Ki L.length;have HN:=zH hn;have hqn:q<n:=by omega
 rw[hn] at HC;have h5:(0:Int)<=(q:Int):=by omega
 have h6:(q:Int)<(n:Int):=by omega
 clear hw1 d0 hB hW hF hIw hE hL hoo hop hhp hc hcl he hs1 hy hn;go_enter Tryz.func111,Tryz.ntmps111;go_wp2_with fail;rw[HW1.out];refine zz [(0,true),(1,true),(3,true),(4,true),(7,true),(8,true),(2,false),(5,false),(6,false),(9,false),(10,false)] (fun X=>X.heap[bF]?=some (.cells #[.int .i64 h.op,.int .i64 (q:Int),.int .i64 h.o,.int .i64 vv,.int .i64 h.g,.slice AF lf cf] 66 (0,0))/\X.heap[bI]?=some (.cells #[.func (.func 109) #[] #[.pointer (some ⟨bS,0,none⟩)]] 186 (0,0))/\X.heap[w.heap.size]?=some (.cells #[.int .i64 (e:Int),.int .i64 (k:Int)] 159 (0,0))) (by kernel_rfl) (by kernel_rfl) (HKP.out _ (Lo _ _).drew) ?_
 repeat
  apply zG rfl
  . rintro K' hK' X ⟨u1,u2,u3⟩
    have q1:=zh u1 1 rfl;have q3:=zh u1 3 rfl;have i0:=zh u2 0 rfl;obtain⟨g0,g1,_⟩:=Ka u3;clear u1 u2 u3;go_simp;exact hK'
 refine zE rfl ?_;intro K' hK';go_simp;refine HC.out.mono ?_;rintro r w5 ⟨A',c',rfl,hI5,hb5⟩;have hb5:Below w1.heap.size w1 w5:=(Lo _ w1).drew.trans (hb5.mono (Le _));have HB5:=zH (Lc HB.out hb5);have HK5:=zH (HKP.out w5 hb5);obtain⟨b4,o4,rfl,hb4,z4⟩:=hI5.at_ q (by rw[HN.out];exact hqn);rw[HY.out] at z4;have HZ4:=zH z4;clear hI5 HC hb5 z4;refine hK' _ _ HK5.out ?_;clear hK' K';have z4:=HZ4.out;refine zE rfl ?_;intro K' hK';go_simp;refine hK' _ _ HK5.out ?_;clear hK' K';refine zE rfl ?_;intro K' hK';go_simp;refine hK' _ _ HK5.out ?_;clear hK' K';refine zE rfl ?_;intro K' hK';go_simp;refine hK' _ _ HK5.out ?_;clear hK' K';refine zE rfl ?_;intro K' hK';go_simp;refine hK' _ _ HK5.out ?_;clear hK' K';refine zQ ?_;clear HKP HK5 z4 HZ4;go_wp2_with fail;go_ret;exact⟨zm (by first | rfl | simp),HB5.out⟩
theorem at2_any(s:Sy)(h:Fh)(e k:Nat)(he:e<s.xs.length)(c:Nat)(hc:s.xs[e].c=(c:Int))(hcl:c<s.p.t.cases.length)(hLl:(yt s.p c).length<=5)(hop:h.op=2)(A SV AV AX AF AR:Bb)(kc ks kv kx lf cf:Nat)(out:List Int)(cr bS bF bR bH bV bI gH:Nat)(w:Ba)
  (hW:AtW s A SV AV AX kc ks kv kx h AF lf cf out AR cr bS bF bR bH bV bI gH w) :
  Calls Tryz.prog 112 #[.agg #[.int .i64 (e:Int),.int .i64 (k:Int)],.pointer (some ⟨bI,0,none⟩),.pointer (some ⟨bF,0,none⟩)] w fun r w'=>r=.returned (.bool (xP s out h (e,k)))/\Below w.heap.size w w':=by
 obtain⟨w1,hw1,d0,hs1,hB⟩:=zn w #[.int .i64 (e:Int),.int .i64 (k:Int)] 159
 have hE:xP s out h (e,k)=decide (h.v∈yt s.p c):=by
  unfold xP;rw[Lg (by rw[hop];decide),Lg (by rw[hop];decide),Lh hop];dsimp only;rw[zt he,hc,Ls]
 rw[hE];have HC:=zH (ati_any s h e k c he hc hcl A SV AV AX AF AR kc ks kv kx lf cf out cr bS bF bR bH bV bI gH w1 (hW.keep hB));have hF:=hW.hF;unfold fcs at hF;obtain⟨vv,hoo⟩:=Ki h.v;rw[hoo] at hF ⊢;obtain⟨L,hL⟩:=Ki (yt s.p c);rw[hL] at HC hLl ⊢;have hIw:=hW.hI;have lF:=zj hF;have lI:=zj hIw;have HKP:Hid (∀X,Below w1.heap.size w1 X->X.cell? ⟨bF,3,none⟩=some (.int .i64 vv)):=fun X hX=>zh (Lb hX (by omega) (Lb hB lF hF)) 3 rfl
 have i0:=zh (Lb hB lI hIw) 0 rfl;obtain⟨g0,g1,_⟩:=Ka d0;have HW1:=zH hw1;have HB:=zH hB;obtain⟨n,hn⟩:=Ki L.length;have HN:=zH hn;rw[hn] at HC hLl;clear hw1 d0 hB hW hF hIw hE hL hoo hop hc hcl he hs1 hn;go_enter Tryz.func112,Tryz.ntmps112;go_upto_region 1 with fail
 rw[HW1.out];go_wp2_with fail;refine HC.out.mono ?_;rintro r w5 ⟨A',c',rfl,hI5,hb5⟩;have hb5:Below w1.heap.size w1 w5:=hb5;have HB5:=zH (Lc HB.out hb5);have p3:=HKP.out w5 hb5;have HI5:=zH hI5;have lF5:bF<w5.heap.size:=by have:=HB5.out.size;omega
 clear hI5 HC hb5 i0 g0 g1;go_wp2_with fail
 go_loop [11] (fun i=>∃m:Nat,m<=n/\i=.int .i64 (m:Int)/\Hid (∀j (h:j<L.length),j<m->¬L[j]=vv)) (fun i=>n-(intOf i).toNat)
 case atStart=>exact⟨0,by omega,rfl,fun j _ h=>absurd h (by omega)⟩
 case round=>
  obtain⟨m,hm,rfl,hno⟩:=hrel
  by_cases hlt:m<n
  . have hml:m<L.length:=by have:=HN.out;omega
    obtain⟨b,off,rfl,hbl,z0⟩:=HI5.out.at_ m hml;obtain⟨x,hx⟩:=Ki (L[m]);have HX:=zH hx;rw[hx] at z0;have hk0:(0:Int)<=(m:Int):=by omega
    have hk1:(m:Int)<(n:Int):=by omega
    clear hx
    by_cases hxv:x=vv
    . subst hxv
      have hin:Hid (decide (x∈L)=true):=Lk (by rw[<-HX.out];exact Ld hml);clear hno HX;go_wp2_with fail;go_ret;exact⟨zm hin.out.symm,HB5.out⟩
    · have hno2 : Hid (∀ j (h : j < L.length), j < m + 1 → ¬ L[j] = vv) := fun j h h2 => by
       by_cases e:j=m
       . subst e;rw[HX.out];exact hxv
       . exact hno.out j h (by omega)
      clear HX hno;go_wp2_with fail
      go_round
      case rel=>exact⟨m+1,by omega,by go_num,hno2⟩
      case measure=>simp[intOf];omega
  . obtain rfl:n=m:=by omega
    have hni:Hid (decide (vv∈L)=false):=Li fun h=>by
     obtain⟨j,hj,e⟩:=LQ h;exact hno.out j hj (by have:=HN.out;omega) e
    clear hno;go_wp2_with fail;go_ret;exact⟨zm hni.out.symm,HB5.out⟩
theorem at3_any(s:Sy)(h:Fh)(e k:Nat)(he:e<s.xs.length)(K N q o' S u:Nat)(hFi:Fine s K N)(hk:k<=K)(hq:q<N)(hhp:h.p=(q:Int))(ho:h.o=(o':Int))(ho5:o'<5)(hu:xw s.xs[e] k q=(u:Int))(hul:u<s.vs.length)(hS:(qD s.vs s.vs.length).getD u 0=(S:Int))(hS32:S<32)(hop:h.op=3)(A SV AV AX AF AR:Bb)(kc ks kv kx lf cf:Nat)(out:List Int)(cr bS bF bR bH bV bI gH:Nat)(w:Ba)
  (hW:AtW s A SV AV AX kc ks kv kx h AF lf cf out AR cr bS bF bR bH bV bI gH w) :
  Calls Tryz.prog 113 #[.agg #[.int .i64 (e:Int),.int .i64 (k:Int)],.pointer (some ⟨bH,0,none⟩),.pointer (some ⟨bV,0,none⟩),.pointer (some ⟨bF,0,none⟩)] w fun r w'=>r=.returned (.bool (xP s out h (e,k)))/\Below w.heap.size w w':=by
 obtain⟨w1,hw1,d0,hs1,hB⟩:=zn w #[.int .i64 (e:Int),.int .i64 (k:Int)] 159
 have hE:xP s out h (e,k)=S.testBit o':=by
  unfold xP;rw[Lg (by rw[hop];decide),Lg (by rw[hop];decide),Lg (by rw[hop];decide),Lh hop];dsimp only;rw[zt he,hhp,Ls,hu,Ls,hS,Ls,ho,Ls]
 rw[hE];have hC:=atv_any s K N hFi h e k q he hk hq hhp A SV AV AX AF AR kc ks kv kx lf cf out cr bS bF bR bH bV bI gH w1.drew (hW.keep hB.drew);rw[hu] at hC;have HC:=zH hC;have hF:=hW.hF;unfold fcs at hF;rw[ho] at hF;have hHw:=hW.hH;have hVw:=hW.hV;have hGw:=hW.hG;have z0:=hGw.cell u (by rw[kO];exact hul);have e0:(qD s.vs s.vs.length)[u]'(by rw[kO];exact hul)=(S:Int):=by rw[<-hS,zt (by rw[kO];exact hul)]
 rw[e0] at z0;obtain⟨n,hn⟩:=Ki s.vs.length;rw[hn] at hHw hul;have lF:=zj hF;have lH:=zj hHw;have lV:=zj hVw;have lG:=hGw.lt
 have HKP:Hid (∀X,Below w1.heap.size w1 X->X.heap[bF]?=some (.cells #[.int .i64 h.op,.int .i64 h.p,.int .i64 (o':Int),.int .i64 h.v,.int .i64 h.g,.slice AF lf cf] 66 (0,0))/\X.heap[bH]?=some (.cells #[.slice (some ⟨gH,0,none⟩) n n] 44 (0,0))/\X.heap[bV]?=some (.cells #[.func (.func 108) #[] #[.pointer (some ⟨bS,0,none⟩),.pointer (some ⟨bF,0,none⟩)]] 160 (0,0))/\X.heap[w.heap.size]?=some (.cells #[.int .i64 (e:Int),.int .i64 (k:Int)] 159 (0,0))):=
  fun X hX=>⟨Lb hX (by omega) (Lb hB lF hF),Lb hX (by omega) (Lb hB lH hHw),Lb hX (by omega) (Lb hB lV hVw),Lb hX (by omega) d0⟩
 have HZ0:Hid (∀X,Below w1.heap.size w1 X->X.cell? ⟨gH,u,none⟩=some (.int .i64 (S:Int))):=fun X hX=>(hX.cell (p:=⟨gH,u,none⟩) (by show gH<w1.heap.size;omega)).trans ((hB.cell (p:=⟨gH,u,none⟩) lG).trans z0)
 have HW1:=zH hw1;have HB:=zH hB;have hb1:=wi hS32 ho5;have h5:(0:Int)<=(u:Int):=by omega
 have h6:(u:Int)<(n:Int):=by omega
 have hoi0:(0:Int)<=(o':Int):=by omega
 have hG00:(0:Int)<=(S:Int):=by omega
 have hmn:min o' 64=o':=by omega
 obtain⟨bt,hbt⟩:=Ki (S.testBit o');rw[hbt] at hb1 ⊢;clear hw1 d0 hB hW hF hHw hVw hGw hE hop hhp ho he hs1 hu hS z0 e0 hFi hC hk hq hbt hn;go_enter Tryz.func113,Tryz.ntmps113;go_wp2_with fail;rw[HW1.out];refine zz [(0,true),(1,true),(2,true),(6,true),(7,true),(3,false),(4,false),(5,false),(8,false),(9,false),(10,false),(11,false)] (fun X=>X.heap[bF]?=some (.cells #[.int .i64 h.op,.int .i64 h.p,.int .i64 (o':Int),.int .i64 h.v,.int .i64 h.g,.slice AF lf cf] 66 (0,0))/\X.heap[bH]?=some (.cells #[.slice (some ⟨gH,0,none⟩) n n] 44 (0,0))/\X.heap[bV]?=some (.cells #[.func (.func 108) #[] #[.pointer (some ⟨bS,0,none⟩),.pointer (some ⟨bF,0,none⟩)]] 160 (0,0))/\X.heap[w.heap.size]?=some (.cells #[.int .i64 (e:Int),.int .i64 (k:Int)] 159 (0,0))) (by kernel_rfl) (by kernel_rfl) (HKP.out _ (Lo _ _).drew) ?_
 repeat
  apply zG rfl
  . rintro K' hK' X ⟨u1,u2,u3,u4⟩
    have q2:=zh u1 2 rfl;have j0:=zh u2 0 rfl;have i0:=zh u3 0 rfl;obtain⟨g0,g1,_⟩:=Ka u4;clear u1 u2 u3 u4;go_simp;exact hK'
 refine zE rfl ?_;intro K' hK';go_simp;refine HC.out.mono ?_;rintro r w5 ⟨rfl,hb5⟩;have hb5:Below w1.heap.size w1 w5:=(Lo _ w1).drew.trans (hb5.mono (Le _));have HB5:=zH (Lc HB.out hb5);have HK5:=zH (HKP.out w5 hb5);have z4:=HZ0.out w5 hb5;clear HC hb5 HZ0;refine hK' _ _ HK5.out ?_;clear hK' K';refine zE rfl ?_;intro K' hK';go_simp;refine hK' _ _ HK5.out ?_;clear hK' K';refine zE rfl ?_;intro K' hK';go_simp;refine hK' _ _ HK5.out ?_;clear hK' K';refine zE rfl ?_;intro K' hK';go_simp;refine hK' _ _ HK5.out ?_;clear hK' K';refine zE rfl ?_;intro K' hK';go_simp;refine hK' _ _ HK5.out ?_;clear hK' K';refine zE rfl ?_;intro K' hK';go_simp;refine hK' _ _ HK5.out ?_;clear hK' K';refine zE rfl ?_;intro K' hK';go_simp;refine hK' _ _ HK5.out ?_;clear hK' K';refine zQ ?_;clear HKP HK5 z4;go_wp2_with fail;go_ret;exact⟨rfl,HB5.out⟩
theorem at4_any(s:Sy)(h:Fh)(e k:Nat)(he:e<s.xs.length)(K N q:Nat)(hFi:Fine s K N)(hk:k<=K)(hq5:q<5)(hhp:h.p=(q:Int))(hfl:∀r∈s.xs[e].word,∃F:Nat,r.f=(F:Int)/\F<32)(hop:h.op=4)(A SV AV AX AF AR:Bb)(kc ks kv kx lf cf:Nat)(out:List Int)(cr bS bF bR bH bV bI gH:Nat)(w:Ba)
  (hW:AtW s A SV AV AX kc ks kv kx h AF lf cf out AR cr bS bF bR bH bV bI gH w) :
  Calls Tryz.prog 114 #[.agg #[.int .i64 (e:Int),.int .i64 (k:Int)],.pointer (some ⟨bS,0,none⟩),.pointer (some ⟨bF,0,none⟩)] w fun r w'=>r=.returned (.bool (xP s out h (e,k)))/\Below w.heap.size w w':=by
 obtain⟨w1,hw1,d0,hs1,hB⟩:=zn w #[.int .i64 (e:Int),.int .i64 (k:Int)] 159
 have hE:xP s out h (e,k)=(decide (0<k)&&((s.xs[e].word.getD (k-1) default).f).toNat.testBit q):=by
  unfold xP;rw[Lg (by rw[hop];decide),Lg (by rw[hop];decide),Lg (by rw[hop];decide),Lg (by rw[hop];decide),Lh hop];dsimp only;rw[zt he,hhp,Ls]
 rw[hE];have hF:=hW.hF;unfold fcs at hF;rw[hhp] at hF;have hSw:=hW.hS;have lF:=zj hF;have lS:=zj hSw;have hF1:=Lb hB lF hF;have hS1:=Lb hB lS hSw;obtain⟨g0,g1,_⟩:=Ka d0;have q1:=zh hF1 1 rfl;obtain⟨bx,ox,A1,c1,A2,c2,eX,hbx,x0,x1,x2,hRw,hLw⟩:=(hW.xs.keep hB).row e he;subst eX;have p9:w1.cell? ⟨bS,9,none⟩=some (.slice (some ⟨bx,ox,none⟩) s.xs.length kx):=zh hS1 9 rfl;have h1:(0:Int)<=(e:Int):=by omega
 have h2:(e:Int)<(s.xs.length:Int):=by omega
 obtain⟨x,hx⟩:∃x,x=s.xs[e]:=⟨_,rfl⟩;have hwl:=(hFi.word _ (Ld he)).1;rw[<-hx] at hfl hwl x1 hRw ⊢;have HW1:=zH hw1;have HB:=zH hB;have hs1':=hs1;clear hw1 d0 hB hW hF hF1 hSw hS1 hE hop hhp x0 x2 hx hLw
 by_cases hkz:0<k
 case neg=>
  have hE2:(decide (0<k)&&((x.word.getD (k-1) default).f).toNat.testBit q)=false:=by rw[Li hkz];rfl
  rw[hE2];have hk1:decide ((k:Int)>0)=false:=Li (by omega);obtain⟨ki,hki⟩:∃ki:Int,(k:Int)=ki:=⟨_,rfl⟩;rw[hki] at hk1 HW1 g1 ⊢;clear hfl hRw x1 hE2 hkz hki;go_enter Tryz.func114,Tryz.ntmps114;go_wp2_with fail;rw[HW1.out];refine zz [(0,true),(1,true),(2,true),(3,true),(4,true),(5,true),(6,true),(7,true),(8,true),(9,true),(10,true),(11,true),(12,true),(13,true),(14,true),(15,true),(16,true),(17,true),(18,true),(19,true),(20,true),(21,true),(22,true),(23,true)] (fun X=>X=w1.drew) (by kernel_rfl) (by kernel_rfl) rfl ?_
  repeat
   apply zG rfl
   . rintro K' hK' X rfl
     go_simp;exact hK'
  refine zQ ?_;go_wp2_with fail;go_ret;exact⟨rfl,HB.out.drew⟩
 case pos=>
  obtain⟨k,rfl⟩:∃j,k=j+1:=⟨k-1,by omega⟩;obtain⟨bw,ow,eW,hbw,y0,y1,y2,y3,y4,y5,y6⟩:=hRw.row k (by omega);subst eW;have hgw:x.word.getD k default=x.word[k]'(by omega):=zt (by omega) default;obtain⟨F,hFf,hF32⟩:=hfl _ (Ld (by omega:k<x.word.length));rw[hFf] at y6
  have hE2:(decide (0<k+1)&&((x.word.getD (k+1-1) default).f).toNat.testBit q)=F.testBit q:=by
   rw[NQ,hgw,hFf,Ls];simp
  rw[hE2];have hb1:=wi hF32 hq5;obtain⟨bt,hbt⟩:=Ki (F.testBit q);rw[hbt] at hb1 ⊢;obtain⟨nw,hnw⟩:=Ki x.word.length;rw[hnw] at x1 hwl;have hk0:decide (((k+1:Nat):Int)>0)=true:=Lk (by omega);have hw0:IntKind.i64.wrap (((k+1:Nat):Int)-1)=(k:Int):=by have:=hFi.k6;rw[Lp];omega
  have h3:(0:Int)<=(k:Int):=by omega
  have h4:(k:Int)<(nw:Int):=by omega
  have hoi0:(0:Int)<=(q:Int):=by omega
  have hG00:(0:Int)<=(F:Int):=by omega
  have hmn:min q 64=q:=by omega
  obtain⟨k1,hk1⟩:∃k1:Int,((k+1:Nat):Int)=k1:=⟨_,rfl⟩;rw[hk1] at hk0 hw0 g1 HW1 ⊢;clear hfl hRw hgw hFf hE2 hbt hnw y0 y1 y2 y3 y4 y5 hFi hwl he hk1 hk;go_enter Tryz.func114,Tryz.ntmps114;go_wp2_with fail;rw[HW1.out];refine zz [(0,true),(1,true),(2,true),(3,true),(4,true),(5,true),(6,true),(7,true),(8,true),(9,true),(10,true),(11,true),(12,true),(13,true),(14,true),(15,true),(16,true),(17,true),(18,true),(19,true),(20,true),(21,true),(22,true),(23,true)] (fun X=>X=w1.drew) (by kernel_rfl) (by kernel_rfl) rfl ?_
  repeat
   apply zG rfl
   . rintro K' hK' X rfl
     go_simp;exact hK'
  refine zQ ?_;go_wp2_with fail;go_ret;exact⟨rfl,HB.out.drew⟩
theorem at5_any(s:Sy)(h:Fh)(e k:Nat)(he:e<s.xs.length)(K N q u:Nat)(hFi:Fine s K N)(hk:k<=K)(hq:q<N)(hhp:h.p=(q:Int))(hu:xw s.xs[e] k q=(u:Int))(hul:u<s.vs.length)(hop:h.op=5)(A SV AV AX AF AR:Bb)(kc ks kv kx lf cf:Nat)(out:List Int)(cr bS bF bR bH bV bI gH:Nat)(w:Ba)
  (hW:AtW s A SV AV AX kc ks kv kx h AF lf cf out AR cr bS bF bR bH bV bI gH w) (hol:0<out.length->out.length=s.vs.length) :
  Calls Tryz.prog 115 #[.agg #[.int .i64 (e:Int),.int .i64 (k:Int)],.pointer (some ⟨bR,0,none⟩),.pointer (some ⟨bV,0,none⟩),.pointer (some ⟨bF,0,none⟩)] w fun r w'=>r=.returned (.bool (xP s out h (e,k)))/\Below w.heap.size w w':=by
 obtain⟨w1,hw1,d0,hs1,hB⟩:=zn w #[.int .i64 (e:Int),.int .i64 (k:Int)] 159
 have hE:xP s out h (e,k)=(decide (0<out.length)&&decide (out.getD u 0=h.v)):=by
  unfold xP;rw[Lg (by rw[hop];decide),Lg (by rw[hop];decide),Lg (by rw[hop];decide),Lg (by rw[hop];decide),Lg (by rw[hop];decide),Lh hop];dsimp only;rw[zt he,hhp,Ls,hu,Ls]
 rw[hE];have hC:=atv_any s K N hFi h e k q he hk hq hhp A SV AV AX AF AR kc ks kv kx lf cf out cr bS bF bR bH bV bI gH w1.drew (hW.keep hB.drew);rw[hu] at hC;have HC:=zH hC;have hF:=hW.hF;unfold fcs at hF;obtain⟨vv,hoo⟩:=Ki h.v;rw[hoo] at hF ⊢;have hRw:=hW.hR;have hVw:=hW.hV;have lF:=zj hF;have lR:=zj hRw;have lV:=zj hVw;have hro:=hW.ro;have HW1:=zH hw1
 by_cases h0:out.length=0
 . have hE0:(decide (0<out.length)&&decide (out.getD u 0=vv))=false:=by rw[h0];simp
   rw[hE0];have r0:=zh (Lb hB lR hRw) 0 rfl;rw[show(#[Value.slice AR out.length cr]:Array Value)[0]=.slice AR 0 cr by rw[h0];rfl] at r0;have HB:=zH hB;clear hw1 d0 hB hW hF hRw hVw hE hop hhp he hs1 hu hFi hC hk hq hoo hro HC hE0 hol h0;go_enter Tryz.func115,Tryz.ntmps115;go_wp2_with fail;rw[HW1.out];go_quiet (fail);go_wp2_with fail;go_ret;exact⟨rfl,zT HB.out _⟩
 have hol2:=hol (by omega);obtain⟨b0,o0,eR,hb0,z0⟩:=hro.at_ u (by omega);subst eR;obtain⟨y,hy⟩:=Ki (out[u]'(by omega));rw[hy] at z0;have hE1:(decide (0<out.length)&&decide (out.getD u 0=vv))=decide (y=vv):=by rw[Lk (by omega:0<out.length),Nv,zt (by omega:u<out.length),hy]
 rw[hE1];obtain⟨n,hn⟩:=Ki out.length;rw[hn] at hRw h0 hol2
 have HKP:Hid (∀X,Below w1.heap.size w1 X->X.heap[bF]?=some (.cells #[.int .i64 h.op,.int .i64 h.p,.int .i64 h.o,.int .i64 vv,.int .i64 h.g,.slice AF lf cf] 66 (0,0))/\X.heap[bR]?=some (.cells #[.slice (some ⟨b0,o0,none⟩) n cr] 63 (0,0))/\X.heap[bV]?=some (.cells #[.func (.func 108) #[] #[.pointer (some ⟨bS,0,none⟩),.pointer (some ⟨bF,0,none⟩)]] 160 (0,0))/\X.heap[w.heap.size]?=some (.cells #[.int .i64 (e:Int),.int .i64 (k:Int)] 159 (0,0))):=
  fun X hX=>⟨Lb hX (by omega) (Lb hB lF hF),Lb hX (by omega) (Lb hB lR hRw),Lb hX (by omega) (Lb hB lV hVw),Lb hX (by omega) d0⟩
 have HZ0:Hid (∀X,Below w1.heap.size w1 X->X.cell? ⟨b0,o0+u,none⟩=some (.int .i64 y)):=fun X hX=>(hX.cell (p:=⟨b0,o0+u,none⟩) (by show b0<w1.heap.size;omega)).trans ((hB.cell (p:=⟨b0,o0+u,none⟩) hb0).trans z0)
 have HB:=zH hB;have h5:(0:Int)<=(u:Int):=by omega
 have h6:(u:Int)<(n:Int):=by omega
 have hn0:((n:Int)>0)=True:=eq_true (by omega);have hn1:decide ((n:Int)>0)=true:=Lk (by omega);have hn2:(0:Int)<(n:Int):=by omega
 have hn3:0<n:=by omega
 clear hw1 d0 hB hW hF hRw hVw hE hop hhp he hs1 hu hFi hC hk hq hoo hro hE1 hol hol2 hy hn z0;go_enter Tryz.func115,Tryz.ntmps115;go_wp2_with fail;rw[HW1.out];refine zz [(0,true),(1,true),(2,true),(3,true),(4,true),(5,true),(6,true),(7,true),(8,true),(12,true),(13,true),(9,false),(10,false),(11,false),(14,false),(15,false),(16,false)] (fun X=>X.heap[bF]?=some (.cells #[.int .i64 h.op,.int .i64 h.p,.int .i64 h.o,.int .i64 vv,.int .i64 h.g,.slice AF lf cf] 66 (0,0))/\X.heap[bR]?=some (.cells #[.slice (some ⟨b0,o0,none⟩) n cr] 63 (0,0))/\X.heap[bV]?=some (.cells #[.func (.func 108) #[] #[.pointer (some ⟨bS,0,none⟩),.pointer (some ⟨bF,0,none⟩)]] 160 (0,0))/\X.heap[w.heap.size]?=some (.cells #[.int .i64 (e:Int),.int .i64 (k:Int)] 159 (0,0))) (by kernel_rfl) (by kernel_rfl) (HKP.out _ (Lo _ _).drew) ?_
 repeat
  apply zG rfl
  . rintro K' hK' X ⟨u1,u2,u3,u4⟩
    have q3:=zh u1 3 rfl;have j0:=zh u2 0 rfl;have i0:=zh u3 0 rfl;obtain⟨g0,g1,_⟩:=Ka u4;clear u1 u2 u3 u4;go_simp;exact hK'
 refine zE rfl ?_;intro K' hK';go_simp;refine HC.out.mono ?_;rintro r w5 ⟨rfl,hb5⟩;have hb5:Below w1.heap.size w1 w5:=(Lo _ w1).drew.trans (hb5.mono (Le _));have HB5:=zH (Lc HB.out hb5);have HK5:=zH (HKP.out w5 hb5);have z4:=HZ0.out w5 hb5;clear HC hb5 HZ0;refine hK' _ _ HK5.out ?_;clear hK' K';refine zE rfl ?_;intro K' hK';go_simp;refine hK' _ _ HK5.out ?_;clear hK' K';refine zE rfl ?_;intro K' hK';go_simp;refine hK' _ _ HK5.out ?_;clear hK' K';refine zE rfl ?_;intro K' hK';go_simp;refine hK' _ _ HK5.out ?_;clear hK' K';refine zE rfl ?_;intro K' hK';go_simp;refine hK' _ _ HK5.out ?_;clear hK' K';refine zE rfl ?_;intro K' hK';go_simp;refine hK' _ _ HK5.out ?_;clear hK' K';refine zQ ?_;clear HKP HK5 z4;go_wp2_with fail;go_ret;exact⟨zm (by first | rfl | simp),HB5.out⟩
theorem at6_any(s:Sy)(h:Fh)(e k:Nat)(_he:e<s.xs.length)(hop:h.op=6)(A SV AV AX AF AR:Bb)(kc ks kv kx lf cf:Nat)(out:List Int)(cr bS bF bR bH bV bI gH:Nat)(w:Ba)
  (hW:AtW s A SV AV AX kc ks kv kx h AF lf cf out AR cr bS bF bR bH bV bI gH w) :
  Calls Tryz.prog 116 #[.agg #[.int .i64 (e:Int),.int .i64 (k:Int)],.pointer (some ⟨bF,0,none⟩)] w fun r w'=>r=.returned (.bool (xP s out h (e,k)))/\Below w.heap.size w w':=by
 obtain⟨w1,hw1,d0,hs1,hB⟩:=zn w #[.int .i64 (e:Int),.int .i64 (k:Int)] 159
 have hE:xP s out h (e,k)=decide ((k:Int)=h.v):=by
  unfold xP;rw[Lg (by rw[hop];decide),Lg (by rw[hop];decide),Lg (by rw[hop];decide),Lg (by rw[hop];decide),Lg (by rw[hop];decide),Lg (by rw[hop];decide)]
 rw[hE];have hF:=hW.hF;unfold fcs at hF;obtain⟨vv,hoo⟩:=Ki h.v;rw[hoo] at hF ⊢;have lF:=zj hF;have q3:=zh (Lb hB lF hF) 3 rfl;obtain⟨g0,g1,_⟩:=Ka d0;have HW1:=zH hw1;have HB:=zH hB;clear hw1 d0 hB hW hF hE hop hoo _he;go_enter Tryz.func116,Tryz.ntmps116;go_upto_region 1 with fail
 rw[HW1.out];go_wp2_with fail;go_ret;exact⟨zm (by first | rfl | simp),HB.out⟩
end
section
open Go.RowKit Go.Shelf
def atG(bS bF bR bH bV bI:Nat):Int->Option Value:=
 xf (xf (xf (xf (xf (xf (xf (fun _=>none) 0 (.func (.func 110) #[] #[])) 1 (.func (.func 111) #[] #[.pointer (some ⟨bI,0,none⟩),.pointer (some ⟨bF,0,none⟩)]))
  2 (.func (.func 112) #[] #[.pointer (some ⟨bI,0,none⟩),.pointer (some ⟨bF,0,none⟩)])) 3 (.func (.func 113) #[] #[.pointer (some ⟨bH,0,none⟩),.pointer (some ⟨bV,0,none⟩),.pointer (some ⟨bF,0,none⟩)]))
  4 (.func (.func 114) #[] #[.pointer (some ⟨bS,0,none⟩),.pointer (some ⟨bF,0,none⟩)])) 5 (.func (.func 115) #[] #[.pointer (some ⟨bR,0,none⟩),.pointer (some ⟨bV,0,none⟩),.pointer (some ⟨bF,0,none⟩)]))
  6 (.func (.func 116) #[] #[.pointer (some ⟨bF,0,none⟩)])
theorem fault_nat{r:Rd}{N:Nat}(h:yi r=0)(hn:r.n=(N:Int))(h5:N<=5):∃F:Nat,r.f=(F:Int)/\F<32:=by
 unfold yi at h
 split at h
 . rename_i hne;exact absurd h hne
 . unfold yY at h
   split at h
   . cases h
   . split at h
     . cases h
     . rename_i h2
       obtain⟨F,hF⟩:=Lr (show 0<=r.f by omega);refine⟨F,hF,?_⟩;have h4:((2^r.n.toNat:Nat):Int)=(2:Int)^r.n.toNat:=by push_cast;rfl
       have h3:r.f<((2^r.n.toNat:Nat):Int):=by first | omega | (rw[h4];omega)
       rw[hF,hn,Ls] at h3;have:=Ni (n:=2) (by omega) h5;omega
theorem atom_fn{s:Sy}{K N:Nat}(hF:Fine s K N)(hS:Sees s K N)(hl:LowV s.vs)(htk:∀c∈s.p.t.cases,c.inp.length=N){out:List Int}(hol:0<out.length->out.length=s.vs.length){h:Fh}(ok:AtmOk N h)
  (A SV AV AX AF AR:Bb) (kc ks kv kx lf cf cr bS bF bR bH bV bI gH:Nat) :
  ∃kf kb,atG bS bF bR bH bV bI h.op=some (.func (.func kf) #[] kb)/\Enters Tryz.prog kf/\∀x∈zr (K+1) 0 s.xs.length,∀W,AtW s A SV AV AX kc ks kv kx h AF lf cf out AR cr bS bF bR bH bV bI gH W ->
   Calls Tryz.prog kf (#[.agg #[.int .i64 x.1,.int .i64 x.2]]++kb) W fun r w'=>r=.returned (.bool (xP s out h x))/\Below W.heap.size W w':=by
 have h0:=ok.op0;have h6:=ok.op6;have hn5:=hF.n5
 have hx:∀x∈zr (K+1) 0 s.xs.length,∃he:x.1<s.xs.length,x.2<=K/\∃c:Nat,s.xs[x.1].c=(c:Int)/\c<s.p.t.cases.length/\(yt s.p c).length=N:=fun x hx=>by
  obtain⟨_,h1,h2⟩:=qc _ _ x hx;have he:x.1<s.xs.length:=by omega
  obtain⟨c,hc,hcl,_⟩:=hS.cs _ (Ld he);refine⟨he,by omega,c,hc,hcl,?_⟩;unfold yt;rw[Lj,Lm hcl];exact htk _ (Ld hcl)
 rcases(by omega:h.op=0\/h.op=1\/h.op=2\/h.op=3\/h.op=4\/h.op=5\/h.op=6) with e | e | e | e | e | e | e
 . refine⟨_,_,by rw[e];exact rfl,N0 Tryz.func110 (by kernel_rfl) rfl,fun x hxm W hW=>?_⟩
   obtain⟨he,hk,c,hc,hcl,hil⟩:=hx x hxm;exact at0_any s h x.1 x.2 he e A SV AV AX AF AR kc ks kv kx lf cf out cr bS bF bR bH bV bI gH W hW
 . refine⟨_,_,by rw[e];exact rfl,N0 Tryz.func111 (by kernel_rfl) rfl,fun x hxm W hW=>?_⟩
   obtain⟨he,hk,c,hc,hcl,hil⟩:=hx x hxm;obtain⟨hp0,hpN⟩:=ok.p (.inl e);obtain⟨q,hq⟩:=Lr hp0;exact at1_any s h x.1 x.2 he c q hc hcl (by omega) hq e A SV AV AX AF AR kc ks kv kx lf cf out cr bS bF bR bH bV bI gH W hW
 . refine⟨_,_,by rw[e];exact rfl,N0 Tryz.func112 (by kernel_rfl) rfl,fun x hxm W hW=>?_⟩
   obtain⟨he,hk,c,hc,hcl,hil⟩:=hx x hxm;exact at2_any s h x.1 x.2 he c hc hcl (by omega) e A SV AV AX AF AR kc ks kv kx lf cf out cr bS bF bR bH bV bI gH W hW
 . refine⟨_,_,by rw[e];exact rfl,N0 Tryz.func113 (by kernel_rfl) rfl,fun x hxm W hW=>?_⟩
   obtain⟨he,hk,c,hc,hcl,hil⟩:=hx x hxm;obtain⟨hp0,hpN⟩:=ok.p (.inr (.inl e));obtain⟨q,hq⟩:=Lr hp0;obtain⟨ho0,hoN⟩:=ok.o e;obtain⟨o,ho⟩:=Lr ho0;have hxm2:=Ld he;obtain⟨S,e1,e2,_⟩:=hrd_view hF hS hl hxm2 x.2 hk q (by omega);obtain⟨v,hv,_⟩:=hS.pr hxm2 hk (show q<N by omega);have hlt:=hv.lt;obtain⟨u,hu⟩:=Lr hlt.1;rw[hu,Ls] at e1;exact at3_any s h x.1 x.2 he K N q o S u hF hk (by omega) hq ho (by omega) hu (by omega) e1 e2 e A SV AV AX AF AR kc ks kv kx lf cf out cr bS bF bR bH bV bI gH W hW
 . refine⟨_,_,by rw[e];exact rfl,N0 Tryz.func114 (by kernel_rfl) rfl,fun x hxm W hW=>?_⟩
   obtain⟨he,hk,c,hc,hcl,hil⟩:=hx x hxm;obtain⟨hp0,hpN⟩:=ok.p (.inr (.inr (.inl e)));obtain⟨q,hq⟩:=Lr hp0
   exact at4_any s h x.1 x.2 he K N q hF hk (by omega) hq (fun r hr=>by
    obtain⟨hr1,hr2⟩:=(hF.word _ (Ld he)).2 r hr
    exact fault_nat hr1 hr2 hn5) e A SV AV AX AF AR kc ks kv kx lf cf out cr bS bF bR bH bV bI gH W hW
 . refine⟨_,_,by rw[e];exact rfl,N0 Tryz.func115 (by kernel_rfl) rfl,fun x hxm W hW=>?_⟩
   obtain⟨he,hk,c,hc,hcl,hil⟩:=hx x hxm;obtain⟨hp0,hpN⟩:=ok.p (.inr (.inr (.inr e)));obtain⟨q,hq⟩:=Lr hp0;have hxm2:=Ld he;obtain⟨v,hv,_⟩:=hS.pr hxm2 hk (show q<N by omega);have hlt:=hv.lt;obtain⟨u,hu⟩:=Lr hlt.1;exact at5_any s h x.1 x.2 he K N q u hF hk (by omega) hq hu (by omega) e A SV AV AX AF AR kc ks kv kx lf cf out cr bS bF bR bH bV bI gH W hW hol
 . refine⟨_,_,by rw[e];exact rfl,N0 Tryz.func116 (by kernel_rfl) rfl,fun x hxm W hW=>?_⟩
   obtain⟨he,hk,c,hc,hcl,hil⟩:=hx x hxm;exact at6_any s h x.1 x.2 he e A SV AV AX AF AR kc ks kv kx lf cf out cr bS bF bR bH bV bI gH W hW
end
section
open Go.RowKit Go.Shelf
theorem wM{K:Kd}{w:Ba}{base:Nat}{v:Value}{n:Nat}{cs:List Value}(h:OwnR K w base v n cs):∀r,v.ownBlock=some r->∀o,w.heap[r]?=some o->o.isCells=true:=by
 intro r hr o ho;rcases h.2 with ⟨rfl,_⟩ | ⟨g,cap,cur,rfl,_,hg,_⟩
 . cases hr
 . have e:g=r:=by injection hr
   subst e;rw[hg] at ho
   cases ho
   rfl
structure AtIn(b:Nat)(bs:List Bool)(w0 W:Ba):Prop where
 wrote:Wrote (fun z=>z=b) w0 W
 box:∃P c,W.heap[b]?=some (.cells #[.slice P bs.length c] 36 (0,0))/\OwnR kBl W w0.heap.size (.slice P bs.length c) bs.length (bs.map .bool)
section
variable {b:Nat} {bs:List Bool} {w0 W W':Ba}
theorem AtIn.turn{row:Option Nat}(h:AtIn b bs w0 W)(hb:b<w0.heap.size)(hg:W.grownBy W' row)(hr:∀r,row=some r->w0.heap.size<=r/\∃o:Obj,W.heap[r]?=some o/\o.isCells=false):AtIn b bs w0 W':=by
 obtain⟨P,c,hx,ho⟩:=h.box;have hsz:=h.wrote.size;refine⟨h.wrote.trans (Wrote.of_grown (R:=fun k=>w0.heap.size<=k) hg (fun k e hk=>(hr k e).1)) (fun k h1 h2=>by omega),P,c,(hg.block b (by omega) (fun e=>by have:=(hr b e.symm).1;omega)).trans hx,ho.kept hg ?_⟩;rcases e:(Value.slice P bs.length c).ownBlock with _ | g
 . exact .inl rfl
 . refine .inr fun e2=>?_
   obtain⟨o,h1,h2⟩:=(hr g e2.symm).2;have:=wM ho g e o h1;rw[this] at h2;cases h2
theorem AtIn.call(h:AtIn b bs w0 W)(hb:b<w0.heap.size)(hw:Below W.heap.size W W'):AtIn b bs w0 W':=by
 obtain⟨P,c,hx,ho⟩:=h.box;have hsz:=h.wrote.size;exact⟨h.wrote.trans (Wrote.of_below hw) (fun _ _ h=>h),P,c,(hw.block b (by omega)).trans hx,ho.below hw (Le _)⟩
theorem AtIn.push{P P2:Bb}{c c2:Nat}{v:Bool}{W1:Ba}(h:AtIn b bs w0 W)(hb:b<w0.heap.size)(hx:W.heap[b]?=some (.cells #[.slice P bs.length c] 36 (0,0)))(ho:OwnR kBl W w0.heap.size (.slice P bs.length c) bs.length (bs.map .bool))
  (ho1:OwnR kBl W1 w0.heap.size (.slice P2 (bs.length+1) c2) (bs.length+1) (bs.map .bool++[.bool v])) (hg:W.grownBy W1 (Value.slice P bs.length c).ownBlock) :
  AtIn b (bs++[v]) w0 (W1.setCell ⟨b,0,none⟩ (.slice P2 (bs.length+1) c2)):=by
 have hsz:=h.wrote.size;have hlo:=ho.lt;have hb1:=(hg.block b (by omega) (fun e=>by have:=(hlo b e.symm).1;omega)).trans hx;obtain⟨x1,x2,x3⟩:=qI hb1 (.slice P2 (bs.length+1) c2);have a1:Wrote (fun k=>w0.heap.size<=k) W W1:=Wrote.of_grown hg (fun k e hk=>(hlo k e).1);have a2:Wrote (fun k=>k=b) W1 (W1.setCell ⟨b,0,none⟩ (.slice P2 (bs.length+1) c2)):=Wrote.of_grown (zS W1 _ 0 _) (fun k e hk=>by cases e;rfl);refine⟨(h.wrote.trans a1 (fun k h1 h2=>by omega)).trans a2 (fun _ _ h=>h),P2,c2,by rw[Lv];exact x1,?_⟩;rw[Lv,LI];refine OwnR.kept (row:=some b) ho1 (zS W1 b 0 _) ?_;rcases e:(Value.slice P2 (bs.length+1) c2).ownBlock with _ | g
 . exact .inl rfl
 · exact .inr fun e2 => by
    have:=(ho1.lt g e).1
    cases e2
    omega
theorem AtIn.keeps{P:Bb}{c bi:Nat}{W1:Ba}(h:AtIn b bs w0 W)(hb:b<w0.heap.size)(hi:bi<w0.heap.size)(hne:bi≠b)(hx:W.heap[b]?=some (.cells #[.slice P bs.length c] 36 (0,0)))(ho:OwnR kBl W w0.heap.size (.slice P bs.length c) bs.length (bs.map .bool))
  (hg:W.grownBy W1 (Value.slice P bs.length c).ownBlock) (v:Value):KeepsFrom w0.heap.size W (W1.setCell ⟨b,0,none⟩ v)/\KeepB (fun k=>k=bi) W (W1.setCell ⟨b,0,none⟩ v):=by
 have hlo:=ho.lt;have hsz:=h.wrote.size;have hs1:=hg.size;have hb1:=(hg.block b (by omega) (fun e=>by have:=(hlo _ e.symm).1;omega)).trans hx;obtain⟨x1,x2,x3⟩:=qI hb1 v;refine⟨⟨by simp[World.setCell];omega,fun k o hk hk1 ho1=>?_⟩,⟨by simp[World.setCell];omega,fun k hk hl=>?_⟩⟩
 . refine(x3 k (by omega)).trans ((hg.block k (zj hk1) (fun e=>?_)).trans hk1)
   have:=wM ho k e.symm o hk1;rw[this] at ho1;cases ho1
 . subst hk
   exact(x3 _ (by omega)).trans (hg.block _ (by omega) (fun e=>by have:=(hlo _ e.symm).1;omega))
end
end
section
open Go.RowKit Go.Shelf
attribute [local go_sem] Oper.semAt_some
theorem blk_lt'{w:Ba}{b:Nat}{o:Obj}(h:w.heap[b]?=some o):b<w.heap.size:=(Ln.1 h).1
def RetBN(xs:List Bool)(n:Int)(w:Ba)(e:Ending)(w':Ba):Prop:=∃A c,e=.returned (.tuple #[.slice A xs.length c,.int .i64 n])/\OwnR kBl w' w.heap.size (.slice A xs.length c) xs.length (xs.map .bool)/\Below w.heap.size w w'
theorem atomN_any(s:Sy)(hs:LowS s)(hf:yR s.p)(out:List Int)(d:Nat)(f:Fm)(hsz:(xI d f).1<=1000000)(A SV AV AX AF AR:Bb)(kc ks kv kx cf cr:Nat)(w:Ba)(hS:SyAt w w.heap.size A SV AV AX s)(hO:IAt w w.heap.size AR out)(hA:FsAt w w.heap.size d AF f.args) :
  Calls Tryz.prog 67 #[.agg (s.vs_ A kc SV ks AV kv AX kx),.agg #[.slice AR out.length cr],.agg (f.vs AF cf)] w (RetBN (atmE s out d f).1 (atmE s out d f).2 w):=by
 obtain⟨wa,hwa,da,hsa,hBa⟩:=zn w (s.vs_ A kc SV ks AV kv AX kx) 35;obtain⟨wb,hwb,db,hsb,hBb⟩:=zn wa #[.slice AR out.length cr] 63;obtain⟨w1,hw1,dc,hsc,hBc⟩:=zn wb (f.vs AF cf) 66;have hB:Below w.heap.size w w1:=(hBa.trans (hBb.mono (by omega))).trans (hBc.mono (by omega));have da:w1.heap[w.heap.size]?=some (.cells (s.vs_ A kc SV ks AV kv AX kx) 35 (0,0)):=Lb hBc (by omega) (Lb hBb (by omega) da);have db:w1.heap[w.heap.size+1]?=some (.cells #[.slice AR out.length cr] 63 (0,0)):=by rw[<-hsa];exact Lb hBc (by omega) db
 have dc:w1.heap[w.heap.size+1+1]?=some (.cells (f.vs AF cf) 66 (0,0)):=by rw[<-hsa,<-hsb];exact dc
 have hz1:w1.heap.size=w.heap.size+3:=by omega
 have HV:=zH (vO s hs hf A SV AV AX kc ks kv kx w1 (hS.up hB));have HE:Hid (atmE s out d f=if zV s≠0 then ([],zV s) else if 0<out.length/\out.length≠s.vs.length then ([],15) else if qW s.n d f≠0 then ([],qW s.n d f) else if 0<f.args.length then ([],11) else (ur s out f.h,0)):=rfl;have HVF:=zH (fun h=>yn hf h);have HOK:=zH (fun (N:Nat) (hn:s.n=(N:Int)) (h:qW s.n d f=0) (ha:f.args.length=0)=>atm_ok hn h ha);have HFC:=zH (fun (X:Ba) (hX:Below w1.heap.size w1 X)=>ZU s.n d f AF cf X ((hA.keep (Lc hB hX)).more (Lc hB hX).size) hsz);have HSY:Hid (∀X,Below w1.heap.size w1 X->SyAt X X.heap.size A SV AV AX s):=fun X hX=>(hS.up hB).up hX
 have HOU:Hid (∀X,Below w1.heap.size w1 X->IAt X X.heap.size AR out):=fun X hX=>(hO.keep (Lc hB hX)).more (Lc hB hX).size
 have HFW:Hid (∀c,zV s=0->c∈s.p.t.cases->(c.inp.length:Int)=s.p.t.n):=fun c h hc=>by
  obtain⟨hb0,_⟩:=yn hf h
  have hp0:zU s.p=0:=by
   by_cases h0:zU s.p=0
   . exact h0
   . unfold zV at h
     rw[xm h0] at h;simp[h0] at h
  exact hU (zX hp0).1 c hc
 have HLV:=zH (fun (h:zV s=0)=>(by
  have h1:=(yn hf h).1
  rw[h1];exact built_asc _:LowV s.vs))
 have HSE:=zH (fun (K N:Nat) (hF:Fine s K N) (h:zV s=0)=>(by
  have h1:=(yn hf h).1;have h2:=hF;rw[h1] at h2 ⊢
  exact built_sees h2:Sees s K N))
 have HKL:=zH (fun (K:Nat) (h:s.p.k=(K:Int))=>(by unfold ur;rw[h];rfl:ur s out f.h=(zr (K+1) 0 s.xs.length).map (xP s out f.h)));obtain⟨E,hE⟩:=Ki (atmE s out d f);rw[hE] at HE ⊢;obtain⟨r,hr⟩:=Ki (zV s);rw[hr] at HV HE HVF HLV HSE HFW;unfold Sy.vs_ at hwa da HV ⊢;unfold Fm.vs at hw1 dc HFC ⊢;have HW1:Hid (((w.alloc (.cells #[.int .i64 s.p.t.n,.int .i64 s.p.t.ins,.int .i64 s.p.t.outs,.slice A s.p.t.cases.length kc,.int .i64 s.p.a.n,.slice SV s.p.a.sts.length ks,.int .i64 s.p.k,.int .i64 s.n,.slice AV s.vs.length kv,.slice AX s.xs.length kx] 35)).alloc (.cells #[.slice AR out.length cr] 63)).alloc (.cells #[.int .i64 f.h.op,.int .i64 f.h.p,.int .i64 f.h.o,.int .i64 f.h.v,.int .i64 f.h.g,.slice AF f.args.length cf] 66)=w1):=by rw[Hid,hwa,hwb,hw1]
 have HB:=zH hB
 have HBX:Hid (∀X,Below w1.heap.size w1 X->X.heap[w.heap.size]?=some (.cells #[.int .i64 s.p.t.n,.int .i64 s.p.t.ins,.int .i64 s.p.t.outs,.slice A s.p.t.cases.length kc,.int .i64 s.p.a.n,.slice SV s.p.a.sts.length ks,.int .i64 s.p.k,.int .i64 s.n,.slice AV s.vs.length kv,.slice AX s.xs.length kx] 35 (0,0))/\X.heap[w.heap.size+1]?=some (.cells #[.slice AR out.length cr] 63 (0,0))/\X.heap[w.heap.size+1+1]?=some (.cells #[.int .i64 f.h.op,.int .i64 f.h.p,.int .i64 f.h.o,.int .i64 f.h.v,.int .i64 f.h.g,.slice AF f.args.length cf] 66 (0,0))):=
  fun X hX=>⟨Lb hX (by omega) da,Lb hX (by omega) db,Lb hX (by omega) dc⟩
 have HZ1:=zH hz1;have G1:Hid (Below w1.heap.size w1 w1):=Lo _ _;clear hwa hwb hw1 da db dc hsa hsb hsc hBa hBb hBc hB hz1 hS hO hA hsz hE hs;obtain⟨D0,D1,D2⟩:=HBX.out _ G1.out;obtain⟨p0,p1,p2,p3,p4,p5,p6,p7,p8,p9⟩:=zB (D0);clear D0 D1 D2;refine yK Tryz.func67 rfl ?_;simp only[Tryz.ntmps67,List.size_toArray,List.length_cons,List.length_nil,Nat.reduceAdd,Nat.reduceSub,Array.replicate_succ,Array.replicate_zero,List.push_toArray,List.append_toArray,List.nil_append,List.cons_append];go_wp2_with fail;rw[HW1.out];go_wp2_with fail;refine HV.out.mono ?_;rintro e w2 ⟨rfl,hb2⟩;have G2:=zH (Lc G1.out hb2);clear hb2 HV HW1 p0 p1 p2 p3 p4 p5 p6 p7 p8 p9
 by_cases h0:r=0
 case neg=>
  have hR:Hid (E=([],r)):=HE.out.trans (Lh h0);have e0:(r != 0)=true:=by simpa using h0
  have HBF:=zH (Lc HB.out G2.out);clear HE HVF HOK HFC HSY HOU HFW HLV HSE HKL HBX;go_wp2_with fail;refine xu (Marks.nil w.heap.size _) (v:=.tuple #[.slice none 0 0,.int .i64 r]) (fun W=>by kernel_rfl) ?_;intro X hX;rw[hR.out];exact⟨none,0,rfl,OwnR.nil _ _ _,HBF.out.trans hX.below⟩
 subst h0;have HE2:=zH (HE.out.trans (Lg (by simp)));obtain⟨hsb,K,N,hF⟩:=HVF.out rfl;clear hsb;have HSe:=zH (HSE.out K N hF rfl);have HLV2:=zH (HLV.out rfl);have HTK:Hid (∀c∈s.p.t.cases,c.inp.length=N):=fun c hc=>by have h1:=HFW.out c rfl hc;have:=hF.pn;omega
 have HFi:=zH hF;have HOK2:=zH (HOK.out N hF.n);have HKL2:=zH (HKL.out K hF.k);have hlv:=hF.lv;clear HE HVF HLV HSE HFW HOK HKL hF hr;obtain⟨D0,D1,D2⟩:=HBX.out _ G2.out;have p8:=zh D0 8 rfl;have r0:=zh D1 0 rfl;clear D0 D1 D2;go_upto_region 4 with fail
 by_cases hbad:0<out.length/\out.length≠s.vs.length
 case pos=>
  have hR:Hid (E=([],15)):=HE2.out.trans (Lh hbad);have e0:((out.length:Int) != 0)=true:=by simp;intro h;rw[h] at hbad;simp at hbad
  have e1:((out.length:Int) != (s.vs.length:Int))=true:=by simp;omega
  have e2:¬out=[]:=by rintro rfl;simp at hbad
  have e3:¬(out.length:Int)=0:=by omega
  have e4:¬(out.length:Int)=(s.vs.length:Int):=by omega
  have e5:¬out.length=s.vs.length:=by omega
  have HBF:=zH (Lc HB.out G2.out);clear HE2 HFC HSY HOU HTK HFi HOK2 HKL2 HSe HLV2 HBX hbad;go_wp2_with fail;refine xu (Marks.nil w.heap.size _) (v:=.tuple #[.slice none 0 0,.int .i64 15]) (fun W=>by kernel_rfl) ?_;intro X hX;rw[hR.out];exact⟨none,0,rfl,OwnR.nil _ _ _,HBF.out.trans hX.below⟩
 have HE3:=zH (HE2.out.trans (Lg hbad));have HOL:Hid (0<out.length->out.length=s.vs.length):=fun h=>Decidable.byContradiction fun e=>hbad ⟨h,e⟩
 clear HE2
 go_cut [1,34] from 16 (fun s1 s34 wx=>s1=.agg #[.slice AR out.length cr]/\s34=.bool false/\wx=w2)
 case first=>
  have hb2:out.length=0\/out.length=s.vs.length:=by omega
  by_cases h1:out.length=0
  . have e0:((out.length:Int) != 0)=false:=by simp[h1]
    clear hbad hb2 h1 HOL HFC HSY HOU HTK HFi HOK2 HKL2 HSe HLV2 HBX HE3 hlv;go_wp2_with fail
    go_meet
    exact⟨rfl,rfl,rfl⟩
  . have e0:((out.length:Int) != 0)=true:=by simp;intro h;rw[h] at h1;simp at h1
    have e1:((out.length:Int) != (s.vs.length:Int))=false:=by simp;omega
    clear hbad hb2 h1 HOL HFC HSY HOU HTK HFi HOK2 HKL2 HSe HLV2 HBX HE3 hlv;go_wp2_with fail
    go_meet
    exact⟨rfl,rfl,rfl⟩
 case rest=>
 obtain⟨rfl,rfl,rfl⟩:=hcut;clear p8 r0 hbad;have HC:=zH (HFC.out _ G2.out);obtain⟨q,hq⟩:=Ki (qW s.n d f);rw[hq] at HC HE3 HOK2;obtain⟨D0,D1,D2⟩:=HBX.out _ G2.out;have p7:=zh D0 7 rfl;obtain⟨q0,q1,q2,q3,q4,q5,_⟩:=Kg (D2);clear D0 D1 D2 HFC hq;go_wp2_with fail;refine HC.out.mono ?_;rintro e w3 ⟨rfl,hb3⟩;have G3:=zH (Lc G2.out hb3);clear hb3 HC p7 q0 q1 q2 q3 q4 q5
 by_cases h0:q=0
 case neg=>
  have hR:Hid (E=([],q)):=HE3.out.trans (Lh h0);have e0:(q != 0)=true:=by simpa using h0
  have HBF:=zH (Lc HB.out G3.out);clear HE3 HSY HOU HTK HFi HOK2 HKL2 HSe HLV2 HBX HOL;go_wp2_with fail;refine xu (Marks.nil w.heap.size _) (v:=.tuple #[.slice none 0 0,.int .i64 q]) (fun W=>by kernel_rfl) ?_;intro X hX;rw[hR.out];exact⟨none,0,rfl,OwnR.nil _ _ _,HBF.out.trans hX.below⟩
 subst h0;have HE4:=zH (HE3.out.trans (Lg (by simp)));obtain⟨D0,D1,D2⟩:=HBX.out _ G3.out;have q5:=zh D2 5 rfl;clear D0 D1 D2 HE3
 by_cases hla:0<f.args.length
 case pos=>
  have hR:Hid (E=([],11)):=HE4.out.trans (Lh hla);have e0:((f.args.length:Int)>0)=True:=eq_true (by omega);have e1:(0:Int)<(f.args.length:Int):=by omega
  have HBF:=zH (Lc HB.out G3.out);clear HE4 HSY HOU HTK HFi HOK2 HKL2 HSe HLV2 HBX HOL;go_wp2_with fail;refine xu (Marks.nil w.heap.size _) (v:=.tuple #[.slice none 0 0,.int .i64 11]) (fun W=>by kernel_rfl) ?_;intro X hX;rw[hR.out];exact⟨none,0,rfl,OwnR.nil _ _ _,HBF.out.trans hX.below⟩
 have hR:Hid (E=(ur s out f.h,0)):=HE4.out.trans (Lg hla);have HAO:=zH (HOK2.out rfl (by omega));have e1:¬(0:Int)<(f.args.length:Int):=by omega
 have HPH:=zH (JI s HFi.out.lv (fun v hv=>by
  obtain⟨⟨pq,h1,h2⟩,_⟩:=HFi.out.vs v hv;refine⟨⟨pq,h1,by have:=HFi.out.n5;omega⟩,fun j hj=>?_⟩;obtain⟨i,hi,rfl⟩:=LQ hv;have:=HLV2.out i hi j hj
  omega) A SV AV AX kc ks kv kx w3 (HSY.out _ G3.out).fv)
 unfold Sy.vs_ at HPH;obtain⟨D0,D1,D2⟩:=HBX.out _ G3.out;obtain⟨p0,p1,p2,p3,p4,p5,p6,p7,p8,p9⟩:=zB (D0);clear D0 D1 D2 HE4 HOK2;go_wp2_with fail;refine HPH.out.mono ?_;rintro e w4 ⟨gH,rfl,hgH,hRH,hb4⟩;have G4:=zH (Lc G3.out hb4);have hz14:w1.heap.size<=w4.heap.size:=G4.out.size;have hlH:=hRH.lt;clear hb4 HPH p0 p1 p2 p3 p4 p5 p6 p7 p8 p9;go_upto_region 12 with fail
 obtain⟨w5,hw5,d5,hs5,hb5⟩:=zn w4 #[.slice (some ⟨gH,0,none⟩) s.vs.length s.vs.length] 44;rw[hw5];go_upto_region 13 with fail
 obtain⟨w6,hw6,d6,hs6,hb6⟩:=zn w5 #[.func (.func 108) #[] #[.pointer (some ⟨w.heap.size,0,none⟩),.pointer (some ⟨w.heap.size+1+1,0,none⟩)]] 160;rw[hw6];go_upto_region 14 with fail
 obtain⟨w7,hw7,d7,hs7,hb7⟩:=zn w6 #[.func (.func 109) #[] #[.pointer (some ⟨w.heap.size,0,none⟩)]] 186;rw[hw7];have ht:Tryz.prog.underlying 188=some (.map 3 187):=Tryz.underlying188;have hmm2:=@run_makeMap Tryz.prog 188 w7;obtain⟨bH,hbH⟩:=Ki w4.heap.size;have e5:w5.heap.size=bH+1:=by omega
 have e6:w6.heap.size=bH+1+1:=by omega
 have e7:w7.heap.size=bH+1+1+1:=by omega
 have m0:MapOf (Value.int .i64) (w7.alloc (.map #[] 0)) (bH+1+1+1) 0 (fun _=>none):=by rw[<-e7];exact MapOf.made w7
 obtain⟨v1,u1,m1,g1⟩:=m0.put yp ht 0 (.func (.func 110) #[] #[]);obtain⟨v2,u2,m2,g2⟩:=m1.put yp ht 1 (.func (.func 111) #[] #[.pointer (some ⟨bH+1+1,0,none⟩),.pointer (some ⟨w.heap.size+1+1,0,none⟩)]);obtain⟨v3,u3,m3,g3⟩:=m2.put yp ht 2 (.func (.func 112) #[] #[.pointer (some ⟨bH+1+1,0,none⟩),.pointer (some ⟨w.heap.size+1+1,0,none⟩)]);obtain⟨v4,u4,m4,g4⟩:=m3.put yp ht 3 (.func (.func 113) #[] #[.pointer (some ⟨bH,0,none⟩),.pointer (some ⟨bH+1,0,none⟩),.pointer (some ⟨w.heap.size+1+1,0,none⟩)]);obtain⟨v5,u5,m5,g5⟩:=m4.put yp ht 4 (.func (.func 114) #[] #[.pointer (some ⟨w.heap.size,0,none⟩),.pointer (some ⟨w.heap.size+1+1,0,none⟩)]);obtain⟨v6,u6,m6,g6⟩:=m5.put yp ht 5 (.func (.func 115) #[] #[.pointer (some ⟨w.heap.size+1,0,none⟩),.pointer (some ⟨bH+1,0,none⟩),.pointer (some ⟨w.heap.size+1+1,0,none⟩)]);obtain⟨v7,u7,m7,g7⟩:=m6.put yp ht 6 (.func (.func 116) #[] #[.pointer (some ⟨w.heap.size+1+1,0,none⟩)])
 have HG7:Hid (Wrote (fun z=>z=bH+1+1+1) (w7.alloc (.map #[] 0)) v7):=by
  have t1:=Wrote.of_grown (R:=fun z=>z=bH+1+1+1) g1 (fun k e _=>by cases e;rfl);have t2:=t1.trans (Wrote.of_grown (R:=fun z=>z=bH+1+1+1) g2 (fun k e _=>by cases e;rfl)) (fun _ _ h=>h);have t3:=t2.trans (Wrote.of_grown (R:=fun z=>z=bH+1+1+1) g3 (fun k e _=>by cases e;rfl)) (fun _ _ h=>h);have t4:=t3.trans (Wrote.of_grown (R:=fun z=>z=bH+1+1+1) g4 (fun k e _=>by cases e;rfl)) (fun _ _ h=>h);have t5:=t4.trans (Wrote.of_grown (R:=fun z=>z=bH+1+1+1) g5 (fun k e _=>by cases e;rfl)) (fun _ _ h=>h);have t6:=t5.trans (Wrote.of_grown (R:=fun z=>z=bH+1+1+1) g6 (fun k e _=>by cases e;rfl)) (fun _ _ h=>h);exact t6.trans (Wrote.of_grown (R:=fun z=>z=bH+1+1+1) g7 (fun k e _=>by cases e;rfl)) (fun _ _ h=>h)
 have HM7:Hid (MapOf (Value.int .i64) v7 (bH+1+1+1) 7 (atG w.heap.size (w.heap.size+1+1) (w.heap.size+1) bH (bH+1) (bH+1+1))):=m7;clear m0 m1 m2 m3 m4 m5 m6 m7 g1 g2 g3 g4 g5 g6 g7;have HD5:=zH d5;have HD6:=zH d6;have HD7:=zH d7;have HRH:=zH hRH;have HS:=zH (And.intro hs5 (And.intro hs6 hs7));have HBB:=zH (And.intro hb5 (And.intro hb6 hb7));have HBN:=zH (And.intro hbH (And.intro e5 (And.intro e6 e7)));have hz14:=zH hz14;have hlH:=zH hlH;clear d5 d6 d7 hRH hs5 hs6 hs7 hb5 hb6 hb7 hw5 hw6 hw7;simp only[hbH];rw[e7] at hmm2;clear hbH e5 e6 e7;go_upto_region 15 with fail
 obtain⟨w8,hw8,d8,hs8,hb8⟩:=zn v7 #[.map (some (bH+1+1+1))] 188;rw[hw8];obtain⟨b13,hb13⟩:=Ki v7.heap.size;simp only[hb13];have HS8:=zH hs8;clear hs8 hmm2 u1 u2 u3 u4 u5 u6 u7 hw8;go_upto_region 16 with fail
 obtain⟨w9,hw9,d9,hs9,hb9⟩:=zn w8 #[.slice none 0 0] 36;rw[hw9];obtain⟨b14,hb14⟩:=Ki w8.heap.size;simp only[hb14];have hz7:w7.heap.size+1<=v7.heap.size:=by have:=HG7.out.size;simpa using this
 obtain⟨e4,e5,e6,e7⟩:=HBN.out;obtain⟨k5,k6,k7⟩:=HBB.out;have B7:Below w7.heap.size w7 v7:=⟨HG7.out.os,HG7.out.tape,HG7.out.output,by omega,fun k hk=>(HG7.out.block k (by simp;omega) (by show ¬k=bH+1+1+1;omega)).trans ((zW w7 _).block k hk)⟩;have B8:Below w7.heap.size w7 w8:=B7.trans (hb8.mono (by omega));have B68:Below w6.heap.size w6 w8:=k7.trans (B8.mono (by omega));have B58:Below w5.heap.size w5 w8:=k6.trans (B68.mono (by omega));have B48:Below w4.heap.size w4 w8:=k5.trans (B58.mono (by omega));have hz14':=hz14.out;have hlH':=hlH.out;have G8:=zH (G4.out.trans (B48.mono hz14'));have hs8':=HS8.out
 have HAW:Hid (AtW s A SV AV AX kc ks kv kx f.h AF f.args.length cf out AR cr w.heap.size (w.heap.size+1+1) (w.heap.size+1) bH (bH+1) (bH+1+1) gH w8):=by
  obtain⟨x1,x2,x3⟩:=HBX.out _ G8.out;refine⟨(HSY.out _ G8.out).fx,(HSY.out _ G8.out).fc,HOU.out _ G8.out,x1,x3,x2,?_,?_,?_,?_⟩
  . have:=HD5.out;rw[e4] at this;exact Lb B58 (by omega) this
  . exact(B48.block gH hlH').trans HRH.out
  . have:=HD6.out;rw[e5] at this;exact Lb B68 (by omega) this
  . have:=HD7.out;rw[e6] at this;exact Lb B8 (by omega) this
 obtain⟨w10,hw10,d10,hs10,hb10⟩:=zn w9 #[.int .i64 s.p.t.n,.int .i64 s.p.t.ins,.int .i64 s.p.t.outs,.slice A s.p.t.cases.length kc,.int .i64 s.p.a.n,.slice SV s.p.a.sts.length ks,.int .i64 s.p.k,.int .i64 s.n,.slice AV s.vs.length kv,.slice AX s.xs.length kx] 35;have hz10:b14+2=w10.heap.size:=by omega
 have HAT:Hid (∀X,Wrote (fun z=>z=b14) w10 X->AtW s A SV AV AX kc ks kv kx f.h AF f.args.length cf out AR cr w.heap.size (w.heap.size+1+1) (w.heap.size+1) bH (bH+1) (bH+1+1) gH X):=fun X hX=>HAW.out.keep ⟨hX.os.trans (hb10.os.trans hb9.os),hX.tape.trans (hb10.tape.trans hb9.tape),hX.output.trans (hb10.output.trans hb9.output),by have:=hX.size;omega,fun k hk=>(hX.block k (by omega) (by show ¬k=b14;omega)).trans ((hb10.block k (by omega)).trans (hb9.block k (by omega)))⟩
 have HMP:Hid (∀X,Wrote (fun z=>z=b14) w10 X->X.heap[b13]?=some (.cells #[.map (some (bH+1+1+1))] 188 (0,0))/\X.heap[bH+1+1+1]?=v7.heap[bH+1+1+1]?/\X.heap[w.heap.size+1+1]?=some (.cells #[.int .i64 f.h.op,.int .i64 f.h.p,.int .i64 f.h.o,.int .i64 f.h.v,.int .i64 f.h.g,.slice AF f.args.length cf] 66 (0,0))):=fun X hX=>by
  have hk:∀k,k<b14->X.heap[k]?=w8.heap[k]?:=fun k hk=>(hX.block k (by omega) (by show ¬k=b14;omega)).trans ((hb10.block k (by omega)).trans (hb9.block k (by omega)))
  refine⟨(hk b13 (by omega)).trans ?_,(hk _ (by omega)).trans (hb8.block _ (by omega)),?_⟩
  . rw[<-hb13];exact d8
  . have h1:=HZ1.out
    exact(hk _ (by omega)).trans (HBX.out _ G8.out).2.2
 have h0I:AtIn b14 [] w10 w10:=⟨Wrote.refl _ _,none,0,by rw[<-hb14];exact Lb hb10 (by omega) d9,OwnR.nil _ _ _⟩;have HFN:=zH (atom_fn HFi.out HSe.out HLV2.out HTK.out HOL.out HAO.out A SV AV AX AF AR kc ks kv kx f.args.length cf cr w.heap.size (w.heap.size+1+1) (w.heap.size+1) bH (bH+1) (bH+1+1) gH);obtain⟨kf,kb,hgo,ek,hcall⟩:=HFN.out;have HCL:=zH hcall;have HGO:=zH hgo;have HAL:=zH (fun (X:Ba)=>XO s A SV AV AX kc ks kv kx X)
 have hlen:(zr (K+1) 0 s.xs.length).length<=20000:=by
  rw[jS (K+1) _ (by omega)];exact Lz (LO HFi.out.lx (show K+1<=101 by have:=HFi.out.k6;omega)) (by decide)
 have HIT:=zH (wj (s.vs_ A kc SV ks AV kv AX kx) K s.xs.length (by have:=HFi.out.k6;omega) (by have:=HFi.out.lx;omega) AX kx ⟨by unfold Sy.vs_;rw[<-HFi.out.k];rfl,by unfold Sy.vs_;rfl⟩ w9.heap.size w10 d10);obtain⟨L,hL⟩:=Ki (zr (K+1) 0 s.xs.length);rw[hL] at HIT HCL hlen HKL2;unfold Sy.vs_ at HAL
 have G10:Hid (Below w.heap.size w w10):=by
  have g9:=G8.out.trans (hb9.mono (by have:=G8.out.size;omega));have g10:=g9.trans (hb10.mono (by have:=g9.size;omega));exact Lc HB.out g10
 have HWB:Hid (w.heap.size+3<=b14):=by have:=G8.out.size;have:=HZ1.out;rw[Hid];omega
 have HW10:=zH hw10;have H0I:=zH h0I;have HZ10:=zH hz10;have HS9:=zH hs9;have D9:=zH ((hb9.block w.heap.size (by have:=G8.out.size;have:=HZ1.out;omega)).trans (HBX.out _ G8.out).1);have HB14:=zH hb14;clear hw9 d9 hs9 hb9 hw10 d10 hs10 hb10 hz10 h0I hgo hcall HFN hz7 e4 e5 e6 e7 k5 k6 k7 B7 B8 B68 B58 B48 hz14' hlH' hs8' HAW hb13 hb14 d8 hb8 HD5 HD6 HD7 HRH HS HBB HBN HG7 G4 G3 G2 G1 HSY HOU HTK HOL HSe HLV2 hlH hz14 hL;have hz14:Hid True:=trivial;obtain⟨p0,p1,p2,p3,p4,p5,p6,p7,p8,p9⟩:=zB (D9.out);go_wp2_with fail;refine(HAL.out _).mono ?_;rintro e wx ⟨rfl,hwx⟩;rw[HW10.out] at hwx;obtain rfl:=hwx;clear p0 p1 p2 p3 p4 p5 p6 p7 p8 p9;go_wp2_with fail
 refine kE rfl (N0 RL (by kernel_rfl) rfl) HIT.out (by rintro x rfl;have:=HZ10.out;have:=HS9.out;have:=HB14.out;omega) (fun _=>rfl)
  (fun (pre:List { x:Nat×Nat // x∈L }) (X:Ba)=>AtIn b14 (pre.map fun x=>xP s out f.h x.1) w10 X)
  (fun _ _ _=>False)
  ?hI (fun _ _ _ _ _ h _ _=>h)
  H0I.out (fun x=>#[.int .i64 x.1,.int .i64 x.2]) 159 ?a1 ?assign ?body ?done ?stop (fun _ _ h=>h.wrote.size)
 case hI=>
  intro pre X X' row hX hg hr;exact hX.turn (by have:=HZ10.out;omega) hg hr
 case assign=>
  intro l pre x X K' hI hK;obtain⟨g',hg'⟩:∃g',g'=X.heap.size:=⟨_,rfl⟩;have HK:=zH (hK g' hg' (hI.turn (by have:=HZ10.out;omega) (row:=none) ⟨rfl,rfl,rfl,by simp,fun k hk _=>NS X _ k hk⟩ (fun r e=>by cases e)));have HG:=zH hg';clear hK hg' hI;gi_wp2;rw[<-HG.out];exact HK.out
 case body=>
  intro l pre x g W3 hg hgb hI hlt;obtain⟨bs,hbs⟩:∃bs,(pre.map fun x=>xP s out f.h x.1)=bs:=⟨_,rfl⟩;have hbl:bs.length<=20000:=by rw[<-hbs,LR];omega
  have hbs2:Hid (((pre++[x]).map fun x=>xP s out f.h x.1)=bs++[xP s out f.h x.1]):=by rw[Hid,LI,hbs];rfl
  rw[hbs] at hI;obtain⟨P,c,hbx,ho⟩:=hI.box;obtain⟨x1,x2,x3⟩:=HMP.out W3 hI.wrote;have HC:=zH (HCL.out x.1 x.2 W3.drew ((HAT.out W3 hI.wrote).keep (Lo _ W3).drew));obtain⟨bv,hbv⟩:=Ki (xP s out f.h x.1);rw[hbv] at hbs2 HC;have hszI:=hI.wrote.size;have hz10:=HZ10.out
  have HKP:Hid (∀X,Below W3.heap.size W3 X->X.heap[b14]?=some (.cells #[.slice P bs.length c] 36 (0,0))/\X.heap[b13]?=some (.cells #[.map (some (bH+1+1+1))] 188 (0,0))/\X.heap[bH+1+1+1]?=v7.heap[bH+1+1+1]?/\X.heap[w.heap.size+1+1]?=some (.cells #[.int .i64 f.h.op,.int .i64 f.h.p,.int .i64 f.h.o,.int .i64 f.h.v,.int .i64 f.h.g,.slice AF f.args.length cf] 66 (0,0))/\X.heap[g]?=some (.cells #[.int .i64 x.1.1,.int .i64 x.1.2] 159 (0,0))):=fun X hX=>
   ⟨Lb hX (by omega) hbx,La hX x1,Lb hX (by
    obtain⟨_,_,h1,_⟩:=HM7.out;rw[h1] at x2
    exact blk_lt' x2) x2,La hX x3,La hX hgb⟩
  have HI3:=zH hI;have HO3:=zH ho;have HX3:=zH hbx;have hgW:=zj hgb;clear hI ho hbx x1 x2 x3 hgb hbs hbv;gi_wp2_with fail;refine xJ [(0,true),(1,true),(2,true),(3,true),(5,true),(4,true),(6,false),(7,false),(8,false),(9,false)] (fun X=>X.heap[b14]?=some (.cells #[.slice P bs.length c] 36 (0,0))/\X.heap[b13]?=some (.cells #[.map (some (bH+1+1+1))] 188 (0,0))/\X.heap[bH+1+1+1]?=v7.heap[bH+1+1+1]?/\X.heap[w.heap.size+1+1]?=some (.cells #[.int .i64 f.h.op,.int .i64 f.h.p,.int .i64 f.h.o,.int .i64 f.h.v,.int .i64 f.h.g,.slice AF f.args.length cf] 66 (0,0))/\X.heap[g]?=some (.cells #[.int .i64 x.1.1,.int .i64 x.1.2] 159 (0,0))) (by kernel_rfl) (by kernel_rfl) (by kernel_rfl) (by rintro⟨_,_,h⟩;exact h) (HKP.out _ (Lo _ _).drew) ?_
  repeat
   apply zG rfl
   . rintro K' hK' X ⟨u1,u2,u3,u4,u5⟩
     have hlk:=(HM7.out.same u3).look yp ht (show(zeroValue 187).run Tryz.prog X=.ok .nilFunc X by kernel_rfl) f.h.op;rw[HGO.out] at hlk;simp only[Option.getD_some] at hlk;have y0:=zh u1 0 rfl;have y1:=zh u2 0 rfl;have y2:=zh u4 0 rfl;obtain⟨y3,y4,_⟩:=Ka u5;clear u1 u2 u3 u4 u5;go_simp;exact hK'
  refine zE rfl ?_;intro K' hK';go_simp;rw[ek];refine Calls.mono HC.out ?_;rintro e W4 ⟨rfl,hb4⟩;have hb4:Below W3.heap.size W3 W4:=(Lo _ W3).drew.trans hb4;have HB4:=zH hb4;have HI4:=zH (HI3.out.call (by omega) hb4);have HO4:Hid (OwnR kBl W4 w10.heap.size (.slice P bs.length c) bs.length (bs.map .bool)):=HO3.out.below hb4 (Le _);refine hK' _ _ (HKP.out _ hb4) ?_;clear hK' K' hb4 HC;refine zE rfl ?_;intro K' hK';go_simp;obtain⟨W5,hW5,d5,hs5,hb5⟩:=zn W4 #[.bool bv] 4;rw[hW5];have HI5:=zH (HI4.out.call (by omega) hb5);have HO5:Hid (OwnR kBl W5 w10.heap.size (.slice P bs.length c) bs.length (bs.map .bool)):=HO4.out.below hb5 (Le _);have HB5:Hid (Below W3.heap.size W3 W5):=Lc HB4.out hb5;have hsz5:w10.heap.size<=W5.heap.size:=by have:=HB5.out.size;omega
  refine hK' _ _ (HKP.out _ HB5.out) ?_;clear hK' K' hW5 HI4 HO4;refine xa rfl (by kernel_rfl) ?_;intro K' hK';rw[Lh (by rfl)];refine kU kBl_ok (.tmp 62) (.tmp 69) (by rfl) w10.heap.size (.slice P bs.length c) bs.length (bs.map .bool) (by rfl) HO5.out W4.heap.size #[.bool bv] (by rfl) d5 rfl (by simp[Value.oneCell']) (by omega) hsz5 _ rfl ?_;intro g' cap' W6 hr6 hg6 hat6 hlt6;have hbx5:=(HKP.out _ HB5.out).1;have HK6:Hid (AtIn b14 (bs++[bv]) w10 (W6.setCell ⟨b14,0,none⟩ (.slice (some ⟨g',0,none⟩) (bs.length+1) cap'))):=HI5.out.push (by omega) hbx5 HO5.out hr6 hg6;have HKE:=zH (HI5.out.keeps (bi:=w9.heap.size) (by omega) (by have:=HS9.out;have:=HB14.out;omega) (by have:=HS9.out;have:=HB14.out;omega) hbx5 HO5.out hg6 (.slice (some ⟨g',0,none⟩) (bs.length+1) cap'));have hb6:Below w10.heap.size W5 W6:=(Lo _ _).grown hg6 hsz5 (fun k hk=>(HO5.out.lt k hk).1);have hfz:=zi ((hb6.block b14 (by omega)).trans hbx5) 0;have hlb:=zj ((hb6.block b14 (by omega)).trans hbx5);have hc6:=zh ((hb6.block b14 (by omega)).trans hbx5) 0 rfl;have HK2:Hid (∀k,k<w10.heap.size->W6.heap[k]?=W5.heap[k]?):=fun k hk=>hb6.block k hk
  refine hK' (fun _=>True) _ _ trivial ?_;clear hK' K';refine zE rfl ?_;intro K' hK';go_simp;refine hK' _ _ trivial ?_;refine zQ ?_;clear hK' K';refine⟨?_,?_,?_⟩
  . refine KeepsFrom.trans ?_ HKE.out.1
    exact⟨HB5.out.size,fun k o hk hk1 _=>(HB5.out.block k (blk_lt' hk1)).trans hk1⟩
  . refine KeepB.trans ?_ HKE.out.2
    exact⟨HB5.out.size,fun k hk hl=>HB5.out.block k hl⟩
  . show AtIn b14 _ w10 _
    rw[hbs2.out];exact HK6.out
 case done=>
  intro D ys W hD hys hI hDk;have hmap:ys.map (fun x=>xP s out f.h x.1)=L.map (xP s out f.h):=by rw[show ys.map (fun x=>xP s out f.h x.1)=(ys.map (·.1)).map (xP s out f.h) by rw[PU];rfl,hys]
  rw[hmap] at hI;obtain⟨P,c,hbx,ho⟩:=hI.box;have q4:=zh hbx 0 rfl;have HO:=zH ho;have HI9:=zH hI;have HDk:=zH hDk;clear hI ho hbx hDk hys hmap;go_wp2_with fail;refine xu (B:=w10.heap.size) (w:=W) (show Marks w10.heap.size _ W from⟨[D],rfl,by simp,fun r hr=>by rw[L8] at hr;subst hr;exact⟨hD,HDk.out⟩⟩) (v:=.tuple #[.slice P L.length c,.int .i64 0]) (fun W=>by kernel_rfl) ?_;intro X hS;rw[hR.out,HKL2.out];have hbX:Below w10.heap.size W X:=hS.below;have hwI:=HI9.out.wrote;have hz10:=HZ10.out;have hs9:=HS9.out;have hb14:=HB14.out;have hwz:=hwI.size;have hg10:=G10.out.size;have hz1:=HZ1.out;have hwb:=HWB.out;refine⟨P,c,by rw[LR],?_,G10.out.trans ⟨hbX.os.trans hwI.os,hbX.tape.trans hwI.tape,hbX.output.trans hwI.output,by have:=hbX.size;omega,fun k hk=>(hbX.block k (by omega)).trans (hwI.block k (by omega) (by show ¬k=b14;omega))⟩⟩;have hO2:=hS.own HO.out;simp only[List.length_map] at hO2 ⊢;refine⟨hO2.1,?_⟩;rcases hO2.2 with h0 | ⟨gg,cap,cur,e1,hb,rest⟩
  . exact .inl h0
  . exact .inr ⟨gg,cap,cur,e1,by omega,rest⟩
 case stop=>
  intro D c pre W _ _ h;exact h.elim
end
end Go.Proofs.YtohjmddnennajaaGreatDoor
