/- Parts TogP ParP FinP ParA ParB ParC FinQ LwFin. -/
import Derived.Test.YtiookelkkekbeaaGreatProg
import Derived.Test.YtiookelkkekbeaaGreatPg
import Derived.Test.YtiookelkkekbeaaGreatPf
import Derived.Test.YtiookelkkekbeaaGreatPc
import Derived.Test.YtiookelkkekbeaaGreatPi
import Derived.Carry
import Derived.Test.YtiookelkkekbeaaGreatPh
import Derived.Maps.RangeWalk

namespace Go.Proofs.YtiookelkkekbeaaGreat
set_option maxHeartbeats 4000000
section
open Go.RowKit
theorem Jf {α:Type} [DecidableEq α] (c:α):∀n,yR (List.replicate n c)=List.replicate n (0:Int)
 | 0=>rfl
 | n+1=>by
  have ih:=Jf c n
  rw [List.replicate_succ',qA,ih,List.replicate_succ']
  congr 2
  by_cases hn:0<n
  · rw [if_pos (by rw [List.mem_replicate];exact ⟨by omega,rfl⟩)]
    have h:=uQ (List.replicate n c) 0 (by simpa using hn)
    simp only [ih,List.getElem_replicate] at h
    exact h.symm
  · obtain rfl:n=0:=by omega
    rfl
theorem kz_same {G:Nat} {f g:Nat→Int} {p:Nat} (h:G.testBit p=true) (hp:p<5):kz G f (p+1)=kz G g (p+1)↔kz G f p=kz G g p∧f p=g p:=by
 have z:∀f:Nat→Int,kq G f p p=0:=fun f=>by unfold kq;rw [if_neg (by omega)]
 have zf:=z f
 have zg:=z g
 unfold kz
 simp only [kq_hit h,K5.mk.injEq]
 obtain rfl | rfl | rfl | rfl | rfl:p=0∨p=1∨p=2∨p=3∨p=4:=by omega
 all_goals
  simp [zf,zg]
  try omega
def tgK (s:Sy) (G p:Nat) (x:Nat×Nat):K5:=kz G (fun q=>xw (s.xs.getD x.1 default) x.2 q) p
def tgP (s:Sy) (G p:Nat):List Int:=yR ((zt (s.p.k.toNat+1) 0 s.xs.length).map (tgK s G p))
theorem tgP_len (s:Sy) (G p:Nat):(tgP s G p).length=ptn s:=by unfold tgP;rw [xL,List.length_map,xF _ _ (by omega)];rfl
theorem tgP_zero (s:Sy) (G:Nat):tgP s G 0=List.replicate (ptn s) 0:=by
 have e:(zt (s.p.k.toNat+1) 0 s.xs.length).map (tgK s G 0)=List.replicate (ptn s) (⟨0,0,0,0,0⟩:K5):=by
  rw [List.eq_replicate_iff]
  refine ⟨by rw [List.length_map,xF _ _ (by omega)];rfl,fun b hb=>?_⟩
  obtain ⟨x,_,rfl⟩:=List.mem_map.1 hb
  simp [tgK,kz,kq]
 unfold tgP
 rw [e,Jf]
theorem tgP_not {s:Sy} {G p:Nat} (h:G.testBit p=false):tgP s G (p+1)=tgP s G p:=by
 unfold tgP
 congr 1
 exact List.map_congr_left fun x _=>X8 h
theorem Qx {s:Sy} {N:Nat} (hN:s.n=(N:Int)) (G:Nat):kd s (G:Int)=tgP s G N:=by
 unfold kd tgP
 congr 1
 refine List.map_congr_left fun x _=>?_
 unfold togK tgK
 rw [hN,Int.toNat_natCast,Int.toNat_natCast]
end
section
theorem snocI {α:Type} {P:List α→Prop} (h0:P []) (hs:∀l x,P l→P (l++[x])) (l:List α):P l:=by
 rw [←List.reverse_reverse l]
 induction l.reverse with
 | nil=>exact h0
 | cons x t ih=>rw [List.reverse_cons];exact hs _ _ ih
def nxt (l:List Int):Int:=l.foldl (fun n x=>if x=n then n+1 else n) 0
theorem ko (l:List Int) (x:Int):nxt (l++[x])=if x=nxt l then nxt l+1 else nxt l:=by unfold nxt;rw [List.foldl_append];rfl
theorem X0:∀(l:List Int),0≤nxt l∧nxt l≤(l.length:Int):=by
 refine snocI (by simp [nxt]) fun l x ih=>?_
 rw [ko];simp only [List.length_append,List.length_singleton];split<;>omega
def vJ (l:List Int):Prop:=∀k (h:k<l.length),0≤l[k]∧l[k]≤nxt (l.take k)
theorem nxt_lab {α:Type} [DecidableEq α] (l:List α):nxt (yR l)=((xC l).length:Int):=by
 revert l
 refine snocI rfl fun l k ih=>?_
 · rw [qA,ko,ih,qx,qt]
   by_cases h:k∈l
   · have h2:=yq.2 h
     have:=List.idxOf_lt_length_iff.2 h2
     rw [if_pos h,if_pos h2,if_neg (by omega)]
   · rw [if_neg h,if_neg (fun e=>h (yq.1 e)),if_pos rfl]
     simp
theorem jU {α:Type} [DecidableEq α] (l:List α):vJ (yR l):=by
 revert l
 refine snocI (fun k h=>by simp [yR] at h) fun l x ih=>?_
 · intro k h
   simp only [qA] at h ⊢
   by_cases hk:k<(yR l).length
   · rw [List.getElem_append_left hk,List.take_append_of_le_length (by omega)]
     exact ih k hk
   · have hkl:k=(yR l).length:=by simp at h;omega
     subst hkl
     rw [List.take_left' rfl,nxt_lab]
     simp only [List.getElem_append_right (Nat.le_refl _),Nat.sub_self,List.getElem_singleton]
     by_cases hx:x∈l
     · have:=List.idxOf_lt_length_iff.2 (yq.2 hx)
       rw [if_pos hx];omega
     · rw [if_neg hx];omega
def Y4 (a b:List Int):Nat→Int→Option Value
 | 0=>fun _=>none
 | k+1=>qQ (Y4 a b k) (a.getD k 0) (.int .i64 (b.getD k 0))
theorem XE {a b:List Int}:∀ {k:Nat} {v:Int} {u:Value},Y4 a b k v=some u→∃i,i<k∧a.getD i 0=v∧u=.int .i64 (b.getD i 0)
 | 0,v,u,h=>by cases h
 | k+1,v,u,h=>by
  unfold Y4 qQ at h
  by_cases e:v=a.getD k 0
  · rw [if_pos e] at h
    exact ⟨k,by omega,e.symm,(Option.some.inj h).symm⟩
  · rw [if_neg e] at h
    obtain ⟨i,h1,h2,h3⟩:=XE h
    exact ⟨i,by omega,h2,h3⟩
end
section
open Go.RowKit
theorem kz_iff {G:Nat} {f g:Nat→Int}:∀n,n≤5→(kz G f n=kz G g n↔∀q,q<n→G.testBit q=true→f q=g q)
 | 0,_=>⟨fun _ q hq=>absurd hq (by omega),fun _=>by simp [kz,kq]⟩
 | n+1,hn=>by
  have ih:=kz_iff (G:=G) (f:=f) (g:=g) n (by omega)
  cases hb:G.testBit n with
  | false=>
   rw [X8 hb,X8 hb,ih]
   constructor
   · intro h q hq hqb
     by_cases e:q=n
     · subst e;rw [hb] at hqb;cases hqb
     · exact h q (by omega) hqb
   · exact fun h q hq=>h q (by omega)
  | true=>
   rw [kz_same hb (by omega),ih]
   constructor
   · rintro ⟨h1,h2⟩ q hq hqb
     by_cases e:q=n
     · subst e;exact h2
     · exact h1 q (by omega) hqb
   · exact fun h=>⟨fun q hq=>h q (by omega),h n (by omega) hb⟩
section
variable {s:Sy} {K N:Nat}
theorem JD (q:Nat) {i j:Nat} (hi:i<ptn s) (hj:j<ptn s):(qC s q).getD i 0=(qC s q).getD j 0↔(qB s q).getD i 0=(qB s q).getD j 0:=by
 have hl:(qB s q).length=ptn s:=vu s q
 rw [zD (by rw [kC];exact hi),zD (by rw [kC];exact hj),zD (by omega),zD (by omega)]
 unfold qC
 exact vz _ (by omega) (by omega)
theorem ZC (hF:Fine s K N) (G:Nat) {i j:Nat} (hi:i<ptn s) (hj:j<ptn s):(kd s (G:Int)).getD i 0=(kd s (G:Int)).getD j 0↔∀q,q<N→G.testBit q=true→(qC s q).getD i 0=(qC s q).getD j 0:=by
 have hl:∀q,(qB s q).length=ptn s:=fun q=>vu s q
 rw [Qx hF.n]
 obtain ⟨L,hL⟩:∃L,zt (s.p.k.toNat+1) 0 s.xs.length=L:=⟨_,rfl⟩
 have hLl:L.length=ptn s:=by rw [←hL,xF _ _ (by omega)];rfl
 have e:tgP s G N=yR (L.map (tgK s G N)):=by unfold tgP;rw [hL]
 rw [zD (by rw [tgP_len];exact hi),zD (by rw [tgP_len];exact hj)]
 simp only [e]
 rw [vz _ (by rw [List.length_map];omega) (by rw [List.length_map];omega),List.getElem_map,List.getElem_map]
 refine (kz_iff N hF.n5).trans ?_
 have hk:∀q {t:Nat} (ht:t<ptn s),(qB s q).getD t 0=xw (s.xs.getD (L[t]'(by omega)).1 default) (L[t]'(by omega)).2 q:=fun q t ht=>by
  rw [zD (by rw [hl];exact ht)]
  have e2:qB s q=L.map fun x=>xw (s.xs.getD x.1 default) x.2 q:=by unfold qB;rw [hL]
  simp only [e2,List.getElem_map]
 constructor
 · intro h q hq hb
   rw [JD q hi hj,hk q hi,hk q hj];exact h q hq hb
 · intro h q hq hb
   have:=h q hq hb
   rw [JD q hi hj,hk q hi,hk q hj] at this;exact this
theorem cls_comp (hN:s.n=(N:Int)) {G q:Nat} (hq:q<N) (hb:G.testBit q=true) {i j:Nat} (hi:i<ptn s) (hj:j<ptn s) (e:(qC s q).getD i 0=(qC s q).getD j 0):(yT (ptn s) (qk s (G:Int))).getD i 0=(yT (ptn s) (qk s (G:Int))).getD j 0:=by
 rw [zD (by rw [qg];exact hi),zD (by rw [qg];exact hj)]
 refine (ur (xa _ _) hi hj).2 (.one hi hj ⟨q,?_,e⟩)
 unfold psG yP
 rw [hN,Int.toNat_natCast,Int.toNat_natCast]
 exact List.mem_filter.2 ⟨List.mem_range.2 hq,hb⟩
theorem comp_more {G M:Nat} {i j:Nat} (hi:i<ptn s) (hj:j<ptn s) (e:(yT (ptn s) (qk s (G:Int))).getD i 0=(yT (ptn s) (qk s (G:Int))).getD j 0) :
  (yT (ptn s) (qk s ((G ||| M:Nat):Int))).getD i 0=(yT (ptn s) (qk s ((G ||| M:Nat):Int))).getD j 0:=by
 rw [zD (by rw [qg];exact hi),zD (by rw [qg];exact hj)] at e ⊢
 have hc:=(ur (xa s (G:Int)) hi hj).1 e
 refine (ur (xa _ _) hi hj).2 (hc.mono fun x y hx hy hr=>.one hx hy ?_)
 obtain ⟨q,hq,e2⟩:=hr
 refine ⟨q,?_,e2⟩
 unfold psG yP at hq ⊢
 rw [List.mem_filter] at hq ⊢
 refine ⟨hq.1,?_⟩
 have:=hq.2
 rw [Int.toNat_natCast] at this ⊢
 rw [Nat.testBit_or,this,Bool.true_or]
theorem tog_more (hF:Fine s K N) {G M:Nat} {i j:Nat} (hi:i<ptn s) (hj:j<ptn s) (e:(kd s ((G ||| M:Nat):Int)).getD i 0=(kd s ((G ||| M:Nat):Int)).getD j 0):(kd s (G:Int)).getD i 0=(kd s (G:Int)).getD j 0:=
 (ZC hF G hi hj).2 fun q hq hb=>(ZC hF (G ||| M) hi hj).1 e q hq (by rw [Nat.testBit_or,hb,Bool.true_or])
theorem tog_none (hN:s.n=(N:Int)):kd s ((0:Nat):Int)=List.replicate (ptn s) 0:=by
 rw [Qx hN,←tgP_zero s 0]
 have h:∀n,tgP s 0 n=tgP s 0 0:=by
  intro n
  induction n with
  | zero=>rfl
  | succ n ih=>rw [tgP_not (by simp),ih]
 exact h N
theorem comp_none (n:Nat) (s:Sy):yT n (qk s ((0:Nat):Int))=(List.range n).map fun (i:Nat)=>(i:Int):=by
 rw [←compL_none n]
 refine JB (xa s _) (fun _ _ h=>h) fun i j _ _=>?_
 have hno:∀i j,¬qk s ((0:Nat):Int) i j:=fun i j h=>by
  obtain ⟨q,hq,_⟩:=h
  unfold psG yP at hq
  have:=(List.mem_filter.1 hq).2
  simp at this
 exact ⟨fun h=>h.mono fun x y _ _ hr=>absurd hr (hno x y),fun h=>h.mono fun x y _ _ hr=>hr.elim⟩
end
end
section
open Go.RowKit Go.Shelf
attribute [local go_sem] Oper.semAt_some
set_option maxRecDepth 100000 in
theorem ju (A:Option Addr) (c:Nat) (l:List Int) (hv:vJ l) (hl:l.length≤65536) (w:World) (B:Nat) (hA:IAt w B A l) :
  Calls Tryz.prog 75 #[.slice A l.length c] w fun e w'=>e=.returned (.int .i64 0)∧w=w':=by
 have HA:=zH hA
 have HV:=zH hv
 have hl0:¬(65536:Int)<(l.length:Int):=by omega
 clear hA hv
 go_enter Tryz.func75,Tryz.ntmps75
 go_wp2_with fail
 go_loopw [3,11] (fun o i wr=>∃k:Nat,k≤l.length∧i=.int .i64 (k:Int)∧o=.int .i64 (nxt (l.take k))∧w=wr) (fun _ i _=>l.length-(intOf i).toNat)
 case atStart=>exact ⟨0,by omega,rfl,by simp [nxt],rfl⟩
 case round=>
  obtain ⟨k,hk,rfl,rfl,rfl⟩:=hrel
  by_cases hlt:k<l.length
  · obtain ⟨b,off,rfl,hb,z0⟩:=HA.out.at_ k hlt
    obtain ⟨v1,v2⟩:=HV.out k hlt
    have hn:=X0 (l.take k)
    have HN:Hid (nxt (l.take (k+1))=if l[k]=nxt (l.take k) then nxt (l.take k)+1 else nxt (l.take k)):=by
     rw [List.take_succ_eq_append_getElem hlt,Hid,ko]
    have hnl:nxt (l.take k)≤65536:=by have:=hn.2;simp at this;omega
    obtain ⟨x,hx⟩:∃x,l[k]=x:=⟨_,rfl⟩
    rw [hx] at z0 v1 v2 HN
    obtain ⟨n,hnn⟩:∃n,nxt (l.take k)=n:=⟨_,rfl⟩
    rw [hnn] at v2 HN hnl
    rw [hnn] at hn ⊢
    have hn0:=hn.1
    have hk0:(0:Int)≤(k:Int):=by omega
    have hk1:(k:Int)<(l.length:Int):=by omega
    have i1:¬x<0:=by omega
    have i2:¬n<x:=by omega
    clear hx hnn hn
    by_cases e:x=n
    · subst e
      have HN2:Hid (nxt (l.take (k+1))=x+1):=by rw [Hid,HN.out,if_pos rfl]
      have hw1:IntKind.i64.wrap (x+1)=x+1:=by rw [IntKind.wrap_i64];omega
      clear HN
      go_wp2_with fail
      go_roundw
      case rel=>exact ⟨k+1,by omega,by go_num,by rw [HN2.out],trivial⟩
      case measure=>simp [intOf];omega
    · have HN2:Hid (nxt (l.take (k+1))=n):=by rw [Hid,HN.out,if_neg e]
      clear HN
      go_wp2_with fail
      go_roundw
      case rel=>exact ⟨k+1,by omega,by go_num,by rw [HN2.out],trivial⟩
      case measure=>simp [intOf];omega
  · obtain rfl:l.length=k:=by omega
    clear HA HV
    go_wp2_with fail
    go_ret
    exact ⟨rfl,rfl⟩
set_option maxRecDepth 100000 in
theorem QZ (A B:Option Addr) (ca cb n:Nat) (a b:List Int) (ha:a.length=n) (hb:b.length=n) (hva:vJ a) (hvb:vJ b) (hl:n≤65536) (w:World) (hA:IAt w w.heap.size A a) (hB:IAt w w.heap.size B b) :
  Calls Tryz.prog 55 #[.slice A n ca,.slice B n cb] w fun e w'=>e=.returned (.int .i64 0)∧Below w.heap.size w w':=by
 have HC1:=zH (fun (X:World) (hX:IAt X w.heap.size A a)=>ju A ca a hva (by omega) X _ hX)
 have HC2:=zH (fun (X:World) (hX:IAt X w.heap.size B b)=>ju B cb b hvb (by omega) X _ hX)
 rw [ha] at HC1
 rw [hb] at HC2
 have HA:=zH hA
 have HB:=zH hB
 clear hA hB hva hvb
 go_enter Tryz.func55,Tryz.ntmps55
 go_upto_region 2 with fail
 obtain ⟨w1,hw1,d1,hs1,hB1⟩:=zm w #[.slice A n ca,.slice B n cb] 36
 rw [hw1]
 have HA1:=zH (HA.out.keep hB1)
 have HB1:=zH (HB.out.keep hB1)
 have HW:=zH hB1
 have HD:=zH d1
 clear hw1 d1 hB1 HA HB
 go_wp2_with fail
 go_loopw [12] (fun i wr=>∃k:Nat,k≤2∧i=.int .i64 (k:Int)∧w1=wr) (fun i _=>2-(intOf i).toNat)
 case atStart=>exact ⟨0,by omega,rfl,rfl⟩
 case round=>
  obtain ⟨k,hk,rfl,rfl⟩:=hrel
  have p0:w1.cell? ⟨w.heap.size,0,none⟩=some (.slice A n ca):=zh HD.out 0 rfl
  have p1:w1.cell? ⟨w.heap.size,1,none⟩=some (.slice B n cb):=zh HD.out 1 rfl
  have C1:=zH (HC1.out w1 HA1.out)
  have C2:=zH (HC2.out w1 HB1.out)
  obtain rfl | rfl | rfl:k=0∨k=1∨k=2:=by omega
  · go_wp2_with fail
    refine C1.out.mono ?_
    rintro e w2 ⟨rfl,rfl⟩
    go_wp2_with fail
    go_roundw
    case rel=>exact ⟨1,by omega,by go_num,trivial⟩
    case measure=>simp [intOf]
  · go_wp2_with fail
    refine C2.out.mono ?_
    rintro e w2 ⟨rfl,rfl⟩
    go_wp2_with fail
    go_roundw
    case rel=>exact ⟨2,by omega,by go_num,trivial⟩
    case measure=>simp [intOf]
  · go_wp2_with fail
    go_ret
    exact ⟨rfl,HW.out⟩
set_option maxRecDepth 100000 in
theorem finer_any (A B:Option Addr) (ca cb n:Nat) (a b:List Int) (ha:a.length=n) (hb:b.length=n) (hva:vJ a) (hvb:vJ b) (hl:n≤65536) (hf:∀i j,i<n→j<n→a.getD i 0=a.getD j 0→b.getD i 0=b.getD j 0) (w:World) (hA:IAt w w.heap.size A a) (hB:IAt w w.heap.size B b) :
  Calls Tryz.prog 18 #[.slice A n ca,.slice B n cb] w fun e w'=>e=.returned (.tuple #[.bool true,.int .i64 0])∧Below w.heap.size w w':=by
 have HC:=zH (QZ A B ca cb n a b ha hb hva hvb hl w hA hB)
 have HA:=zH hA
 have HB:=zH hB
 have HF:=zH hf
 have HLa:=zH ha
 have HLb:=zH hb
 have hz:∀W:World,(zeroValue 3).run Tryz.prog W=.ok (.int .i64 0) W:=fun W=>by kernel_rfl
 have ht:Tryz.prog.underlying 108=some (.map 3 3):=Tryz.underlying108
 have HZ:=zH hz
 have HT:=zH ht
 have hmm:=@run_makeMap Tryz.prog
 clear hA hB hf hva hvb ha hb hz ht
 go_enter Tryz.func18,Tryz.ntmps18
 go_wp2_with fail
 refine HC.out.mono ?_
 rintro e w2 ⟨rfl,hb2⟩
 have HB2:=zH hb2
 have HA2:=zH (HA.out.keep hb2)
 have HBb2:=zH (HB.out.keep hb2)
 have hs2:=hb2.size
 clear hb2 HC HA HB
 go_upto_region 5 with fail
 obtain ⟨w3,h3⟩:∃w3,w2.alloc (.map #[] 0)=w3:=⟨_,rfl⟩
 have m3:MapOf (Value.int .i64) w3 w2.heap.size 0 (fun _=>none):=by rw [←h3];exact MapOf.made w2
 have z3:Below w2.heap.size w2 w3:=by rw [←h3];exact zW _ _
 rw [h3]
 have HM3:Hid (MapOf (Value.int .i64) w3 w2.heap.size 0 (Y4 a b 0)):=m3
 have HB3:=zH z3
 have HA3:=zH (HA2.out.keep (z3.mono hs2))
 have HBb3:=zH (HBb2.out.keep (z3.mono hs2))
 clear h3 m3 z3 hmm HA2 HBb2
 go_wp2_with fail
 go_loopw [21] (fun i wr=>∃k m:Nat,k≤n∧i=.int .i64 (k:Int)∧Hid (MapOf (Value.int .i64) wr w2.heap.size m (Y4 a b k))∧Hid (Below w2.heap.size w3 wr)) (fun i _=>n-(intOf i).toNat)
 case atStart=>exact ⟨0,0,by omega,rfl,HM3,Below.refl _ _⟩
 case round=>
  obtain ⟨k,m,hk,rfl,hm,hbw⟩:=hrel
  clear HM3
  by_cases hlt:k<n
  · obtain ⟨b1,o1,rfl,hb1,z0⟩:=(HA3.out.keep (hbw.out.mono hs2)).at_ k (by rw [HLa.out];exact hlt)
    obtain ⟨b2,o2,rfl,hb2,z1⟩:=(HBb3.out.keep (hbw.out.mono hs2)).at_ k (by rw [HLb.out];exact hlt)
    have hga:a.getD k 0=a[k]'(by rw [HLa.out];exact hlt):=xn (by rw [HLa.out];exact hlt) 0
    have hgb:b.getD k 0=b[k]'(by rw [HLb.out];exact hlt):=xn (by rw [HLb.out];exact hlt) 0
    obtain ⟨x,hx⟩:∃x,a[k]'(by rw [HLa.out];exact hlt)=x:=⟨_,rfl⟩
    obtain ⟨y,hy⟩:∃y,b[k]'(by rw [HLb.out];exact hlt)=y:=⟨_,rfl⟩
    rw [hx] at z0 hga
    rw [hy] at z1 hgb
    have hlk:=hm.out.look2 xm HT.out (HZ.out wr) x
    obtain ⟨W5,hrun,hm5,hg5⟩:=hm.out.put xm HT.out x (.int .i64 y)
    have HM5:Hid (MapOf (Value.int .i64) W5 w2.heap.size (m+1) (Y4 a b (k+1))):=by
     rw [show Y4 a b (k+1)=qQ (Y4 a b k) x (.int .i64 y) by rw [Y4,hga,hgb]]
     exact hm5
    have HB5:Hid (Below w2.heap.size w3 W5):=hbw.out.grown hg5 (Nat.le_trans HB3.out.size hbw.out.size) (fun r e=>by cases e;omega)
    have hk0:(0:Int)≤(k:Int):=by omega
    have hk1:(k:Int)<(n:Int):=by omega
    cases hfk:Y4 a b k x with
    | none=>
     rw [hfk] at hlk
     simp only [Option.getD_none,Option.isSome_none] at hlk
     clear hx hy hga hgb hm hm5 hg5 hbw hfk
     go_wp2_with fail
     go_roundw
     case rel=>exact ⟨k+1,_,by omega,by go_num,HM5,HB5⟩
     case measure=>simp [intOf];omega
    | some u=>
     rw [hfk] at hlk
     simp only [Option.getD_some,Option.isSome_some] at hlk
     obtain ⟨i,hi,hai,rfl⟩:=XE hfk
     have hyi:b.getD i 0=y:=by rw [←hgb];exact HF.out i k (by omega) hlt (by rw [hai,hga])
     rw [hyi] at hlk
     clear hx hy hga hgb hm hm5 hg5 hbw hfk hai hyi
     go_wp2_with fail
     go_roundw
     case rel=>exact ⟨k+1,_,by omega,by go_num,HM5,HB5⟩
     case measure=>simp [intOf];omega
  · obtain rfl:n=k:=by omega
    have HBE:=zH (HB2.out.trans ((HB3.out.trans hbw.out).mono hs2))
    clear hm hbw
    go_wp2_with fail
    go_ret2
    exact ⟨rfl,HBE.out⟩
end
section
open Go.RowKit Go.Shelf
attribute [local go_sem] Oper.semAt_some
theorem OwnR.set1 {K:Kd} {w:World} {base g n cap:Nat} {cs:List Value} (h:OwnR K w base (.slice (some ⟨g,0,none⟩) n cap) n cs) (i:Nat) (v:Value):OwnR K (w.setCell ⟨g,i,none⟩ v) base (.slice (some ⟨g,0,none⟩) n cap) n (cs.set i v):=by
 refine ⟨by rw [List.length_set];exact h.1,.inr ?_⟩
 rcases h.2 with ⟨e,_⟩ | ⟨g',cap',cur,e,hb,hg,hle,hm,hs,ht⟩
 · cases e
 · injection e with e1 e2 e3
   injection e1 with e1
   injection e1 with e1
   subst e1;subst e3
   refine ⟨g,cap,cur.set! i v,rfl,hb,(qE hg i v).1,hle,hm,by simpa using hs,?_⟩
   rw [←ht]
   simp [List.take_set]
structure CsIn (base:Nat) (w:World) (out:Value) (vals:List Value) (k:Nat):Prop where
 row:OwnR kIs w base out vals.length vals
 inn:∀(j:Nat) (h:j<vals.length),∃n xs,n≤k∧OwnR kIn w base vals[j] n xs∧∀b,vals[j].ownBlock=some b→out.ownBlock≠some b
 dis:∀(i j:Nat) (hi:i<vals.length) (hj:j<vals.length),i≠j→∀b,vals[i].ownBlock=some b→vals[j].ownBlock≠some b
theorem CsIn.nil (base:Nat) (w:World) (k:Nat):CsIn base w (.slice none 0 0) [] k:=⟨OwnR.nil _ _ _,fun _ h=>absurd h (by simp),fun _ _ h=>absurd h (by simp)⟩
theorem CsIn.below {base k:Nat} {w W:World} {out:Value} {vals:List Value} (h:CsIn base w out vals k) (hb:Below w.heap.size w W):CsIn base W out vals k:=
 ⟨h.row.below hb (Nat.le_refl _),fun j hj=>by obtain ⟨n,xs,h1,h2,h3⟩:=h.inn j hj;exact ⟨n,xs,h1,h2.below hb (Nat.le_refl _),h3⟩,h.dis⟩
theorem CsIn.snoc {base k g' cap:Nat} {w w1:World} {out:Value} {vals:List Value} (h:CsIn base w out vals k)
  (hr:OwnR kIs w1 base (.slice (some ⟨g',0,none⟩) (vals.length+1) cap) (vals.length+1) (vals++[.slice none 0 0])) (hg:w.grownBy w1 out.ownBlock) (hat:out.ownBlock=some g'∨g'=w.heap.size) :
  CsIn base w1 (.slice (some ⟨g',0,none⟩) (vals.length+1) cap) (vals++[.slice none 0 0]) k:=by
 refine ⟨by rw [List.length_append];exact hr,fun j hj=>?_,fun i j hi hj hne b=>?_⟩
 · by_cases hl:j<vals.length
   · rw [List.getElem_append_left hl]
     obtain ⟨n,xs,h1,h2,h3⟩:=h.inn j hl
     refine ⟨n,xs,h1,h2.kept hg (by
      cases hv:vals[j].ownBlock with
      | none=>exact .inl rfl
      | some b=>exact .inr fun e=>h3 b hv e.symm),fun b hb e=>?_⟩
     have e2:g'=b:=by simpa [Value.ownBlock] using e
     subst e2
     rcases hat with e3 | e3
     · exact h3 g' hb e3
     · have:=(h2.lt _ hb).2;omega
   · rw [List.length_append,List.length_singleton] at hj
     obtain rfl:j=vals.length:=by omega
     rw [List.getElem_append_right (by omega)]
     simp only [Nat.sub_self,List.getElem_cons_zero]
     exact ⟨0,[],by omega,OwnR.nil _ _ _,fun b hb=>by cases hb⟩
 · rw [List.length_append,List.length_singleton] at hi hj
   by_cases h1:i<vals.length
   · by_cases h2:j<vals.length
     · rw [List.getElem_append_left h1,List.getElem_append_left h2]
       exact h.dis i j h1 h2 hne b
     · rw [List.getElem_append_right (by omega:vals.length≤j)]
       have e:j-vals.length=0:=by omega
       simp only [e,List.getElem_cons_zero]
       intro _ h;cases h
   · rw [List.getElem_append_right (by omega:vals.length≤i)]
     have e:i-vals.length=0:=by omega
     simp only [e,List.getElem_cons_zero]
     intro h;cases h
theorem CsIn.at_ {base k g cap:Nat} {w:World} {vals:List Value} {m:Nat} (h:CsIn base w (.slice (some ⟨g,0,none⟩) m cap) vals k) (hm:vals.length=m) (x:Nat) (hx:x<m) :
  base≤g∧g<w.heap.size∧w.cell? ⟨g,x,none⟩=some (vals[x]'(by omega))∧w.frozen? ⟨g,x,none⟩=false:=by
 have hlt:=h.row.lt g rfl
 obtain ⟨A,c,e,_,_,h3⟩:=h.row.form
 obtain ⟨g',eA,_,_,hc⟩:=h3 (by omega)
 subst eA
 have e2:g'=g:=by injection e with e1;injection e1 with e1;injection e1 with e1;exact e1.symm
 subst e2
 refine ⟨hlt.1,hlt.2,hc x _ (List.getElem?_eq_getElem (by omega)),?_⟩
 rcases h.row.2 with ⟨e,_⟩ | ⟨g2,cap',cur,e,hb,hg,_⟩
 · cases e
 · injection e with e1
   injection e1 with e1
   injection e1 with e1
   subst e1
   exact zi hg x
theorem CsIn.put {base k g cap m n x:Nat} {w W w1:World} {vals cs:List Value} {v':Value} (h:CsIn base w (.slice (some ⟨g,0,none⟩) m cap) vals k) (hm:vals.length=m) (hx:x<vals.length) (hb:Below w.heap.size w W)
  (hr:OwnR kIn w1 base v' n cs) (hn:n≤k+1) (hg:W.grownBy w1 vals[x].ownBlock) (hat:v'.ownBlock=vals[x].ownBlock∨v'.ownBlock=some W.heap.size) :
  CsIn base (w1.setCell ⟨g,x,none⟩ v') (.slice (some ⟨g,0,none⟩) m cap) (vals.set x v') (k+1):=by
 have hW:=h.below hb
 have hsz:=hb.size
 have hglt:=h.row.lt g rfl
 have hgs:=hg.size
 obtain ⟨_,_,_,hvx,hox⟩:=h.inn x hx
 have hng:∀b,v'.ownBlock=some b→g≠b:=fun b e e2=>by
  subst e2
  rcases hat with e3 | e3
  · exact hox g (e3.symm.trans e) rfl
  · rw [e] at e3;have e4:g=W.heap.size:=by simpa using e3
    omega
 have hrow:OwnR kIs w1 base (.slice (some ⟨g,0,none⟩) m cap) vals.length vals:=hW.row.kept hg (.inr fun e=>hox g e.symm rfl)
 refine ⟨?_,fun j hj=>?_,fun i j hi hj hne b=>?_⟩
 · rw [List.length_set]
   have:=OwnR.set1 (n:=m) (by rw [hm] at hrow;exact hrow) x v'
   rw [hm];exact this
 · rw [List.length_set] at hj
   by_cases e:x=j
   · subst e
     rw [List.getElem_set_self]
     refine ⟨n,cs,hn,hr.kept (zQ w1 g x v') ?_,fun b hb e2=>hng b hb (by simpa [Value.ownBlock] using e2)⟩
     cases hv:v'.ownBlock with
     | none=>exact .inl rfl
     | some b=>exact .inr fun e2=>hng b hv (by simpa using e2.symm)
   · rw [List.getElem_set_ne e]
     obtain ⟨n2,xs,h1,h2,h3⟩:=hW.inn j hj
     refine ⟨n2,xs,by omega,(h2.kept hg ?_).kept (zQ w1 g x v') ?_,h3⟩
     · cases hv:vals[j].ownBlock with
       | none=>exact .inl rfl
       | some b=>exact .inr fun e2=>h.dis j x hj hx (fun e3=>e e3.symm) b hv e2.symm
     · cases hv:vals[j].ownBlock with
       | none=>exact .inl rfl
       | some b=>exact .inr fun e2=>h3 b hv e2.symm
 · rw [List.length_set] at hi hj
   by_cases e1:x=i
   · subst e1
     rw [List.getElem_set_self,List.getElem_set_ne hne]
     intro hv e2
     rcases hat with e3 | e3
     · exact h.dis x j hi hj hne b (e3.symm.trans hv) e2
     · rw [hv] at e3
       have e4:b=W.heap.size:=by simpa using e3
       obtain ⟨_,_,_,h2,_⟩:=h.inn j hj
       have:=(h2.lt _ e2).2;omega
   · rw [List.getElem_set_ne e1]
     by_cases e2:x=j
     · subst e2
       rw [List.getElem_set_self]
       intro hv e5
       rcases hat with e3 | e3
       · exact h.dis i x hi hj hne b hv (e3.symm.trans e5)
       · rw [e5] at e3
         have e4:b=W.heap.size:=by simpa using e3
         obtain ⟨_,_,_,h2,_⟩:=h.inn i hi
         have:=(h2.lt _ hv).2;omega
     · rw [List.getElem_set_ne e2]
       exact h.dis i j hi hj hne b
theorem uV {w w':World} {b o:Nat} (h:w'.heap[b]?=w.heap[b]?):w'.frozen? ⟨b,o,none⟩=w.frozen? ⟨b,o,none⟩:=by unfold World.frozen?;rw [h]
set_option maxRecDepth 100000 in
theorem Z4 (A:Option Addr) (c:Nat) (l:List Int) (hv:vJ l) (hl:l.length≤65536) (w:World) (hA:IAt w w.heap.size A l) :
  Calls Tryz.prog 56 #[.slice A l.length c] w fun e w'=>∃v cap,e=.returned (.tuple #[.slice v (nxt l).toNat cap,.int .i64 0])∧Below w.heap.size w w':=by
 have HC:=zH (ju A c l hv hl w w.heap.size hA)
 have HA:=zH hA
 have HV:=zH hv
 clear hA hv
 go_enter Tryz.func56,Tryz.ntmps56
 go_wp2_with fail
 refine HC.out.mono ?_
 rintro e w' ⟨rfl,rfl⟩
 clear HC
 go_wp2_with fail
 go_loopw [5,15] (fun o i wr=>∃k:Nat,k≤l.length∧i=.int .i64 (k:Int)∧(∃vals,vals.length=(nxt (l.take k)).toNat∧Hid (CsIn w.heap.size wr o vals k))∧Hid (Below w.heap.size w wr)) (fun _ i _=>l.length-(intOf i).toNat)
 case atStart=>exact ⟨0,by omega,rfl,⟨[],by simp [nxt],CsIn.nil _ _ _⟩,Below.refl _ _⟩
 case round=>
  obtain ⟨k,hk,rfl,⟨vals,hvl,HO⟩,HB⟩:=hrel
  by_cases hlt:k<l.length
  · obtain ⟨b,off,rfl,hb,z0⟩:=(HA.out.keep HB.out).at_ k hlt
    obtain ⟨v1,v2⟩:=HV.out k hlt
    have hn:=X0 (l.take k)
    have HN:Hid (nxt (l.take (k+1))=if l[k]=nxt (l.take k) then nxt (l.take k)+1 else nxt (l.take k)):=by
     rw [List.take_succ_eq_append_getElem hlt,Hid,ko]
    obtain ⟨x,hx⟩:∃x,l[k]=x:=⟨_,rfl⟩
    rw [hx] at z0 v1 v2 HN
    have hbs:=HB.out.size
    obtain ⟨AO,cO,rfl,_,_,hAO⟩:=HO.out.row.form
    obtain ⟨X,rfl⟩:=Int.eq_ofNat_of_zero_le v1
    obtain ⟨m,hm⟩:∃m:Nat,nxt (l.take k)=(m:Int):=Int.eq_ofNat_of_zero_le hn.1
    rw [hm] at v2 HN hn hvl
    have hml:m≤k:=by have h:=hn.2;simp at h;omega
    have hvm:vals.length=m:=by omega
    have hk0:(0:Int)≤(k:Int):=by omega
    have hk1:(k:Int)<(l.length:Int):=by omega
    have hX0:(0:Int)≤(X:Int):=by omega
    clear hx hn hm hvl v1
    by_cases e:X=m
    · subst e
      subst hvm
      have HN2:Hid (nxt (l.take (k+1))=((vals.length+1:Nat):Int)):=by rw [Hid,HN.out,if_pos rfl];rfl
      have eXX:((vals.length:Int)==(vals.length:Int))=true:=by simp
      clear HN v2
      have HG2:=zH (zu wr (.cells #[.slice none 0 0] 36))
      have HB2:Hid (Below wr.heap.size wr (wr.alloc (.cells #[.slice none 0 0] 36))):=zW wr _
      have HO2:=zH (HO.out.below HB2.out)
      clear HO
      go_upto_region 10 with (at_builtin;refine yC Qa rfl (.tmp 24) (.tmp 25) rfl w.heap.size (.slice AO vals.length cO) vals.length vals rfl HO2.out.row wr.heap.size #[.slice none 0 0] rfl HG2.out rfl (by simp [Value.oneCell']) (by omega) (by simp;omega) _ rfl ?_;intro g' cap w7 hr7 hg7 hat7 hlt7)
      have HO7:=zH (HO2.out.snoc hr7 hg7 hat7)
      have HB7:Hid (Below w.heap.size w w7):=(HB.out.trans (HB2.out.mono hbs)).grown hg7 (by simp;omega) (fun b hb=>(HO2.out.row.lt b hb).1)
      have HM:Hid ((vals++[Value.slice none 0 0]).length=vals.length+1):=by simp [Hid]
      clear hr7 hg7 hat7 HO2 HB2 HG2 HB
      obtain ⟨X,hXe⟩:∃X,vals.length=X:=⟨_,rfl⟩
      rw [hXe] at HO7 HM HN2 hX0 hml ⊢
      obtain ⟨vals2,hv2⟩:∃vals2,vals++[Value.slice none 0 0]=vals2:=⟨_,rfl⟩
      rw [hv2] at HO7 HM
      have hXM:X<X+1:=by omega
      have hX1:(X:Int)<((X+1:Nat):Int):=by omega
      clear hv2 hXe eXX
      obtain ⟨hg0,hg1,c7,fr7⟩:=HO7.out.at_ HM.out X hXM
      obtain ⟨n,cs,hnk,hOw,hne⟩:=HO7.out.inn X (by rw [HM.out];exact hXM)
      obtain ⟨Ai,ci,eI,_,_,_⟩:=hOw.form
      have HEI:=zH eI
      rw [eI] at c7 hOw
      have HG8:=zH (zu w7 (.cells #[.int .i64 (k:Int)] 3))
      have HB8:Hid (Below w7.heap.size w7 (w7.alloc (.cells #[.int .i64 (k:Int)] 3))):=zW w7 _
      have HOw8:=zH (hOw.below HB8.out (Nat.le_refl _))
      have hWs:w.heap.size≤w7.heap.size:=HB7.out.size
      have hne2:Hid ((Value.slice Ai n ci).ownBlock≠some g'):=fun e=>hne g' (by rw [eI];exact e) rfl
      clear eI hOw hne
      go_wp2_with (at_builtin;refine yC jv rfl (.tmp 32) (.tmp 34) rfl w.heap.size (.slice Ai n ci) n cs rfl HOw8.out w7.heap.size #[.int .i64 (k:Int)] rfl HG8.out rfl (by simp [Value.oneCell']) (by omega) (by simp;omega) _ rfl ?_;intro g9 cap9 w9 hr9 hg9 hat9 hlt9;have hb9:=(hg9.block g' (by simp;omega) (fun e=>hne2.out e.symm)).trans (HB8.out.block g' (by omega));have c9:=(World.cell?_of_block hb9).trans c7;have fr9:=(uV hb9).trans fr7)
      have HP:=zH (HO7.out.put HM.out (by rw [HM.out];exact hXM) HB8.out hr9 (by omega) (by rw [HEI.out];exact hg9) (by
       rw [HEI.out]
       rcases hat9 with e | e
       · exact .inl (by rw [e];rfl)
       · exact .inr (by rw [e];rfl)))
      have HBn:Hid (Below w.heap.size w (w9.setCell ⟨g',X,none⟩ (.slice (some ⟨g9,0,none⟩) (n+1) cap9))):=((HB7.out.trans (HB8.out.mono hWs)).grown hg9 (by simp;omega) (fun b hb=>(HOw8.out.lt b hb).1)).setCell (by exact hg0) _
      clear hr9 hg9 hat9 c9 fr9 hb9
      go_roundw
      case rel=>exact ⟨k+1,by omega,by go_num,⟨_,by rw [List.length_set,HM.out,HN2.out,Int.toNat_natCast],HP.out⟩,HBn.out⟩
      case measure=>simp [intOf];omega
    · have hXM:X<m:=by omega
      have HN2:Hid (nxt (l.take (k+1))=(m:Int)):=by rw [Hid,HN.out,if_neg (by omega)]
      have hX1:(X:Int)<(m:Int):=by omega
      have eXm:((X:Int)==(m:Int))=false:=by simp;omega
      obtain ⟨g',rfl,_⟩:=hAO (by omega)
      have HM:=zH hvm
      have HO7:=HO
      have HB7:=HB
      rw [hvm] at HO7 ⊢
      clear HN v2 HO hvm HB hAO
      go_upto_region 10 with fail
      obtain ⟨hg0,hg1,c7,fr7⟩:=HO7.out.at_ HM.out X hXM
      obtain ⟨n,cs,hnk,hOw,hne⟩:=HO7.out.inn X (by rw [HM.out];exact hXM)
      obtain ⟨Ai,ci,eI,_,_,_⟩:=hOw.form
      have HEI:=zH eI
      rw [eI] at c7 hOw
      have HG8:=zH (zu wr (.cells #[.int .i64 (k:Int)] 3))
      have HB8:Hid (Below wr.heap.size wr (wr.alloc (.cells #[.int .i64 (k:Int)] 3))):=zW wr _
      have HOw8:=zH (hOw.below HB8.out (Nat.le_refl _))
      have hWs:w.heap.size≤wr.heap.size:=HB7.out.size
      have hne2:Hid ((Value.slice Ai n ci).ownBlock≠some g'):=fun e=>hne g' (by rw [eI];exact e) rfl
      clear eI hOw hne
      go_wp2_with (at_builtin;refine yC jv rfl (.tmp 32) (.tmp 34) rfl w.heap.size (.slice Ai n ci) n cs rfl HOw8.out wr.heap.size #[.int .i64 (k:Int)] rfl HG8.out rfl (by simp [Value.oneCell']) (by omega) (by simp;omega) _ rfl ?_;intro g9 cap9 w9 hr9 hg9 hat9 hlt9;have hb9:=(hg9.block g' (by simp;omega) (fun e=>hne2.out e.symm)).trans (HB8.out.block g' (by omega));have c9:=(World.cell?_of_block hb9).trans c7;have fr9:=(uV hb9).trans fr7)
      have HP:=zH (HO7.out.put HM.out (by rw [HM.out];exact hXM) HB8.out hr9 (by omega) (by rw [HEI.out];exact hg9) (by
       rw [HEI.out]
       rcases hat9 with e | e
       · exact .inl (by rw [e];rfl)
       · exact .inr (by rw [e];rfl)))
      have HBn:Hid (Below w.heap.size w (w9.setCell ⟨g',X,none⟩ (.slice (some ⟨g9,0,none⟩) (n+1) cap9))):=((HB7.out.trans (HB8.out.mono hWs)).grown hg9 (by simp;omega) (fun b hb=>(HOw8.out.lt b hb).1)).setCell (by exact hg0) _
      clear hr9 hg9 hat9 c9 fr9 hb9
      go_roundw
      case rel=>exact ⟨k+1,by omega,by go_num,⟨_,by rw [List.length_set,HM.out,HN2.out,Int.toNat_natCast],HP.out⟩,HBn.out⟩
      case measure=>simp [intOf];omega
  · obtain rfl:l.length=k:=by omega
    rw [List.take_length] at hvl
    obtain ⟨AO,cO,rfl,_,_,_⟩:=HO.out.row.form
    rw [hvl]
    clear HA HV HO
    go_wp2_with fail
    go_ret2
    exact ⟨_,_,rfl,HB.out⟩
end
section
open Go.RowKit Go.Shelf
attribute [local go_sem] Oper.semAt_some
set_option maxRecDepth 100000 in
theorem uI (A:Option Addr) (c:Nat) (l:List Int) (hv:vJ l) (hl:l.length≤65536) (w:World) (hA:IAt w w.heap.size A l) :
  Calls Tryz.prog 19 #[.slice A l.length c] w fun e w'=>e=.returned (.tuple #[.int .i64 (nxt l),.int .i64 0])∧Below w.heap.size w w':=by
 have HC:=zH (Z4 A c l hv hl w hA)
 have HN:Hid (max (nxt l) 0=nxt l):=Int.max_eq_left (X0 l).1
 clear hA hv
 go_enter Tryz.func19,Tryz.ntmps19
 go_wp2_with fail
 refine HC.out.mono ?_
 rintro e w' ⟨v,cap,rfl,hb⟩
 go_wp2_with fail
 rw [HN.out]
 go_ret2
 exact ⟨rfl,hb⟩
set_option maxRecDepth 100000 in
theorem XQ (A:Option Addr) (c:Nat) (l:List Int) (hv:vJ l) (hl:l.length≤65536) (w:World) (B:Nat) (hA:IAt w B A l) :
  Calls Tryz.prog 21 #[.slice A l.length c] w fun e w'=>e=.returned (.int .i64 0)∧w=w':=by
 have HA:=zH hA
 have HV:=zH hv
 have hl0:¬(65536:Int)<(l.length:Int):=by omega
 clear hA hv
 go_enter Tryz.func21,Tryz.ntmps21
 go_wp2_with fail
 go_loopw [3,4] (fun o i wr=>∃k:Nat,k≤l.length∧i=.int .i64 (k:Int)∧o=.int .i64 (nxt (l.take k))∧w=wr) (fun _ i _=>l.length-(intOf i).toNat)
 case atStart=>exact ⟨0,by omega,rfl,by simp [nxt],rfl⟩
 case round=>
  obtain ⟨k,hk,rfl,rfl,rfl⟩:=hrel
  by_cases hlt:k<l.length
  · obtain ⟨b,off,rfl,hb,z0⟩:=HA.out.at_ k hlt
    obtain ⟨v1,v2⟩:=HV.out k hlt
    have hn:=X0 (l.take k)
    have HN:Hid (nxt (l.take (k+1))=if l[k]=nxt (l.take k) then nxt (l.take k)+1 else nxt (l.take k)):=by
     rw [List.take_succ_eq_append_getElem hlt,Hid,ko]
    have hnl:nxt (l.take k)≤65536:=by have:=hn.2;simp at this;omega
    obtain ⟨x,hx⟩:∃x,l[k]=x:=⟨_,rfl⟩
    rw [hx] at z0 v1 v2 HN
    obtain ⟨n,hnn⟩:∃n,nxt (l.take k)=n:=⟨_,rfl⟩
    rw [hnn] at v2 HN hnl
    rw [hnn] at hn ⊢
    have hn0:=hn.1
    have hk0:(0:Int)≤(k:Int):=by omega
    have hk1:(k:Int)<(l.length:Int):=by omega
    have hwk:IntKind.i64.wrap ((k:Int)+1)=((k+1:Nat):Int):=by rw [IntKind.wrap_i64];omega
    have i1:¬x<0:=by omega
    have i2:¬n<x:=by omega
    clear hx hnn hn
    by_cases e:x=n
    · subst e
      have HN2:Hid (nxt (l.take (k+1))=x+1):=by rw [Hid,HN.out,if_pos rfl]
      have hw1:IntKind.i64.wrap (x+1)=x+1:=by rw [IntKind.wrap_i64];omega
      clear HN
      go_wp2_with fail
      go_roundw
      case rel=>exact ⟨k+1,by omega,by go_num,by rw [HN2.out],trivial⟩
      case measure=>simp [intOf];omega
    · have HN2:Hid (nxt (l.take (k+1))=n):=by rw [Hid,HN.out,if_neg e]
      clear HN
      go_wp2_with fail
      go_roundw
      case rel=>exact ⟨k+1,by omega,by go_num,by rw [HN2.out],trivial⟩
      case measure=>simp [intOf];omega
  · obtain rfl:l.length=k:=by omega
    have hkk:¬(l.length:Int)<(l.length:Int):=by omega
    clear HA HV
    go_wp2_with fail
    go_ret
    exact ⟨rfl,rfl⟩
end
section
open Go.RowKit
attribute [local go_sem] Oper.semAt_some
theorem and_all {a N:Nat} (ha:a<256) (hN:N<4):bits BinOp.and IntKind.i64 (a:Int) ((2:Int)^N-1)=((a % 2^N:Nat):Int):=by
 have h:∀N:Nat,N<4→∀a:Nat,a<256→bits BinOp.and IntKind.i64 (a:Int) ((2:Int)^N-1)=((a % 2^N:Nat):Int):=by decide +kernel
 exact h N hN a ha
theorem or_pow {a b N:Nat} (ha:a<2^N) (hb:b<2^N):a ||| b<2^N:=Nat.or_lt_two_pow ha hb
theorem Q2:∀n,nxt (List.replicate (n+1) 0)=1
 | 0=>by decide
 | n+1=>by
  rw [List.replicate_succ',ko,Q2 n]
  rfl
theorem Xh:∀n:Nat,nxt ((List.range n).map fun (i:Nat)=>(i:Int))=(n:Int)
 | 0=>rfl
 | n+1=>by
  rw [List.range_succ,List.map_append,List.map_cons,List.map_nil,ko,Xh n,if_pos rfl]
  rfl
theorem read_ok {s:Sy} {N G:Nat} (hN:s.n=(N:Int)) (hv:yn s=0) (hG:G<2^N):yl s (G:Int)=0:=by
 unfold yl
 rw [if_neg (by simpa using hv),if_neg]
 rw [hN,Int.toNat_natCast]
 have h2:((2^N:Nat):Int)=(2:Int)^N:=by push_cast;rfl
 omega
theorem tog_ok {s:Sy} {N G:Nat} (hN:s.n=(N:Int)) (hv:yn s=0) (hG:G<2^N):ZD s (G:Int)=(kd s (G:Int),0):=by
 unfold ZD;rw [if_neg (by simpa using read_ok hN hv hG)]
theorem Jz {s:Sy} {N G:Nat} (hN:s.n=(N:Int)) (hv:yn s=0) (hG:G<2^N):kB s (G:Int)=(yT (ptn s) (qk s (G:Int)),0):=by
 unfold kB;rw [if_neg (by simpa using read_ok hN hv hG)]
structure FinF (N n G:Nat) (a b c d:List Int) (own:Nat→List Int):Prop where
 la:a.length=n
 lb:b.length=n
 lc:c.length=n
 ld:d.length=n
 lo:∀q,(own q).length=n
 va:vJ a
 vb:vJ b
 vc:vJ c
 vd:vJ d
 vo:∀q,vJ (own q)
 ca:∀i j,i<n→j<n→c.getD i 0=c.getD j 0→a.getD i 0=a.getD j 0
 bd:∀i j,i<n→j<n→b.getD i 0=b.getD j 0→d.getD i 0=d.getD j 0
 ao:∀q,q<N→G.testBit q=true→∀i j,i<n→j<n→a.getD i 0=a.getD j 0→(own q).getD i 0=(own q).getD j 0
 ob:∀q,q<N→G.testBit q=true→∀i j,i<n→j<n→(own q).getD i 0=(own q).getD j 0→b.getD i 0=b.getD j 0
 na:G=0→1≤n→nxt a=1
 nb:G=0→nxt b=(n:Int)
theorem fin_facts {s:Sy} {K N:Nat} (hF:Fine s K N) (G M:Nat) :
  FinF N (ptn s) G (kd s (G:Int)) (yT (ptn s) (qk s (G:Int))) (kd s ((G ||| M:Nat):Int)) (yT (ptn s) (qk s ((G ||| M:Nat):Int))) (qC s) where
 la:=Qy s _
 lb:=qg _ _
 lc:=Qy s _
 ld:=qg _ _
 lo:=fun q=>by rw [kC]
 va:=jU _
 vb:=jU _
 vc:=jU _
 vd:=jU _
 vo:=fun q=>jU _
 ca:=fun i j hi hj e=>tog_more hF hi hj e
 bd:=fun i j hi hj e=>comp_more hi hj e
 ao:=fun q hq hb i j hi hj e=>(ZC hF G hi hj).1 e q hq hb
 ob:=fun q hq hb i j hi hj e=>cls_comp hF.n hq hb hi hj e
 na:=fun e h1=>by
  subst e
  rw [tog_none hF.n]
  obtain ⟨m,hm⟩:∃m,ptn s=m+1:=⟨ptn s-1,by omega⟩
  rw [hm];exact Q2 m
 nb:=fun e=>by subst e;rw [comp_none];exact Xh _
set_option maxRecDepth 100000 in
theorem uW (A B:Option Addr) (ca cb n:Nat) (a b:List Int) (ha:a.length=n) (hb:b.length=n) (hva:vJ a) (hvb:vJ b) (hl:n≤65536) (hf:∀i j,i<n→j<n→a.getD i 0=a.getD j 0→b.getD i 0=b.getD j 0) (w:World) (hA:IAt w w.heap.size A a) (hB:IAt w w.heap.size B b) :
  Calls Tryz.prog 17 #[.slice A n ca,.slice B n cb] w fun e w'=>e=.returned (.bool true)∧Below w.heap.size w w':=by
 have HC:=zH (finer_any A B ca cb n a b ha hb hva hvb hl hf w hA hB)
 clear ha hb hva hvb hl hf hA hB
 go_enter Tryz.func17,Tryz.ntmps17
 go_wp2_with fail
 refine HC.out.mono ?_
 rintro e w' ⟨rfl,hb⟩
 go_wp2_with fail
 go_ret
 exact ⟨rfl,hb⟩
end
section
open Go.RowKit
attribute [local go_sem] Oper.semAt_some
set_option maxRecDepth 100000 in
theorem law_pfiner (p:Pb) (hl:wn p) (A:Option Addr) (kc:Nat) (SV:Option Addr) (ks:Nat) (ma mb:Nat) (hma:ma<256) (hmb:mb<256) (w:World) (hA:CAt w w.heap.size A p.t.cases) (hS:SAt w w.heap.size SV p.a.sts) :
  Calls Tryz.prog 5 #[.agg (p.vs A kc SV ks),.int .u8 (ma:Int),.int .u8 (mb:Int)] w fun e w'=>e=.returned (.bool true)∧Below w.heap.size w w':=by
 obtain ⟨w1,hw1,d0,hs1,hB1⟩:=zm w (p.vs A kc SV ks) 29
 have HS6:=zH (Qz p hl A kc SV ks w1 ((hA.keep hB1).more hB1.size) ((hS.keep hB1).more hB1.size))
 have HFS:=zH (fun (h:xE p=true)=>Xb h)
 have HLW:Hid (xE p=true→LowS (zx p)):=fun h=>by
  obtain ⟨hbE,_,hf,_⟩:=kI h
  have:=ji hl hf
  rwa [hbE] at this
 have HBb:=zH hB1
 unfold Pb.vs at hw1 d0 HS6 ⊢
 have HW1:=zH hw1
 have HD0:=zH d0
 have p0:=zh (d0) 0 rfl
 have p1:=zh (d0) 1 rfl
 have p2:=zh (d0) 2 rfl
 have p3:=zh (d0) 3 rfl
 have p4:=zh (d0) 4 rfl
 have p5:=zh (d0) 5 rfl
 have p6:=zh (d0) 6 rfl
 clear hw1 d0 hB1 hA hS hs1 hl
 go_enter Tryz.func5,Tryz.ntmps5
 go_wp2_with fail
 rw [HW1.out]
 go_wp2_with fail
 refine HS6.out.mono ?_
 rintro e w2 ⟨hb2,hcase⟩
 have B2:=zH (HBb.out.trans (hb2.mono HBb.out.size))
 have hs2:=hb2.size
 have HD2:=zH ((hb2.block _ (zj HD0.out)).trans HD0.out)
 clear hb2 HS6 HW1 HBb HD0 p0 p1 p2 p3 p4 p5 p6
 rcases hcase with ⟨_,rfl⟩ | ⟨hr,A2,kc2,SV2,ks2,AV,kv,AX,kx,rfl,hSY⟩
 · clear HFS HLW HD2
   go_upto_region 2 with fail
   obtain ⟨WF,hWF,dz,hsF,hBa2⟩:=zm w2 #[.int .i64 0,.int .i64 0,.int .i64 0,.slice none 0 0,.int .i64 0,.slice none 0 0,.int .i64 0,.int .i64 0,.slice none 0 0,.slice none 0 0] 35
   rw [hWF]
   clear hWF dz
   go_wp2_with fail
   refine (xe WF).mono ?_
   rintro e v3 ⟨rfl,hb3⟩
   have B3:=zH (B2.out.trans ((hBa2.trans (hb3.mono (by omega))).mono B2.out.size))
   clear hb3 hBa2
   go_wp2_with fail
   go_ret
   exact ⟨rfl,B3.out⟩
 obtain ⟨K,N,hF,hSe,hTn,hpk,hN1,hN3,hK6,hfx,hvE,hpn,hM60,hn7⟩:=HFS.out hr
 have HR:=zH hr
 have HLO:=zH (HLW.out hr)
 have HFi:=zH hF
 have HSe:=zH hSe
 have hpk2:(zx p).p.k=(K:Int):=hpk
 rw [hpk] at HD2
 have HPK:=zH hpk
 clear hF hSe HFS HLW hr
 have hGl:ma % 2^N<2^N:=Nat.mod_lt _ (Nat.two_pow_pos N)
 have hMl:mb % 2^N<2^N:=Nat.mod_lt _ (Nat.two_pow_pos N)
 have hwa:=and_all hma (show N<4 by omega)
 have hwb:=and_all hmb (show N<4 by omega)
 have h8:2^N≤2^3:=Nat.pow_le_pow_right (by omega) hN3
 obtain ⟨G,hG⟩:∃G,ma % 2^N=G:=⟨_,rfl⟩
 obtain ⟨J,hJ⟩:∃J,mb % 2^N=J:=⟨_,rfl⟩
 rw [hG] at hGl hwa
 rw [hJ] at hMl hwb
 have hwo:bits BinOp.or IntKind.i64 (G:Int) (J:Int)=((G ||| J:Nat):Int):=or_32 (by omega) (by omega)
 have hHl:G ||| J<2^N:=or_pow hGl hMl
 have hFF:=zH (fin_facts HFi.out G J)
 have hcv1:IntKind.i64.wrap (ma:Int)=(ma:Int):=by rw [IntKind.wrap_i64];omega
 have hcv2:IntKind.i64.wrap (mb:Int)=(mb:Int):=by rw [IntKind.wrap_i64];omega
 have h2b:(1:Int)≤(2:Int)^N∧(2:Int)^N≤8:=by
  obtain rfl | rfl | rfl:N=1∨N=2∨N=3:=by omega
  all_goals decide
 have h2w:IntKind.i64.wrap ((2:Int)^N)=(2:Int)^N:=by rw [IntKind.wrap_i64];omega
 have h2v:IntKind.i64.wrap ((2:Int)^N-1)=(2:Int)^N-1:=by rw [IntKind.wrap_i64];omega
 have hmn:min N 64=N:=by omega
 have hG32:G<32:=by omega
 have hT1:Hid (ZD (zx p) (G:Int)=(kd (zx p) (G:Int),0)):=tog_ok hTn hvE hGl
 have hT2:Hid (kB (zx p) (G:Int)=(yT (ptn (zx p)) (qk (zx p) (G:Int)),0)):=Jz hTn hvE hGl
 have hT3:Hid (ZD (zx p) ((G ||| J:Nat):Int)=(kd (zx p) ((G ||| J:Nat):Int),0)):=tog_ok hTn hvE hHl
 have hT4:Hid (kB (zx p) ((G ||| J:Nat):Int)=(yT (ptn (zx p)) (qk (zx p) ((G ||| J:Nat):Int)),0)):=Jz hTn hvE hHl
 have hT5:Hid (∀q:Nat,q<N→Y0 (zx p) (q:Int)=(qC (zx p) q,0)):=fun q hq=>by
  unfold Y0
  rw [if_neg (by simpa using hvE),hTn,if_neg (by omega),Int.toNat_natCast]
 have hxs:1≤ptn (zx p):=by
  have:=xs_pos hfx hvE
  have:=Nat.mul_le_mul this (show 1≤K+1 by omega)
  rw [hpn];omega
 obtain ⟨H,hH⟩:∃H,G ||| J=H:=⟨_,rfl⟩
 rw [hH] at hwo hFF hT3 hT4 hHl
 obtain ⟨T,hT⟩:∃T,zx p=T:=⟨_,rfl⟩
 rw [hT] at hTn hpk2 hfx hvE hpn hM60 hn7 HLO hSY hFF hT1 hT2 hT3 hT4 hT5 hxs ⊢
 have C1:=zH (fun (X:World) (h:SyAt X X.heap.size A2 SV2 AV AX T)=>jq T HLO.out hfx (G:Int) A2 SV2 AV AX kc2 ks2 kv kx X h)
 have C2:=zH (fun (X:World) (h:SyAt X X.heap.size A2 SV2 AV AX T)=>wD T HLO.out hfx (G:Int) A2 SV2 AV AX kc2 ks2 kv kx X h)
 have C3:=zH (fun (X:World) (h:SyAt X X.heap.size A2 SV2 AV AX T)=>jq T HLO.out hfx (H:Int) A2 SV2 AV AX kc2 ks2 kv kx X h)
 have C4:=zH (fun (X:World) (h:SyAt X X.heap.size A2 SV2 AV AX T)=>wD T HLO.out hfx (H:Int) A2 SV2 AV AX kc2 ks2 kv kx X h)
 have C5:=zH (fun (q:Nat) (hq:q<N) (X:World) (h:SyAt X X.heap.size A2 SV2 AV AX T)=>(by have:=ve T HLO.out hfx (q:Int) A2 SV2 AV AX kc2 ks2 kv kx X h;rw [hT5.out q hq] at this;exact this:Calls Tryz.prog 20 #[.agg (T.vs_ A2 kc2 SV2 ks2 AV kv AX kx),.int .i64 (q:Int)] X (XF (qC T q) 0 X)))
 rw [hT1.out] at C1
 rw [hT2.out] at C2
 rw [hT3.out] at C3
 rw [hT4.out] at C4
 obtain ⟨la,hla⟩:∃L,kd T (G:Int)=L:=⟨_,rfl⟩
 obtain ⟨lb,hlb⟩:∃L,yT (ptn T) (qk T (G:Int))=L:=⟨_,rfl⟩
 obtain ⟨lc,hlc⟩:∃L,kd T (H:Int)=L:=⟨_,rfl⟩
 obtain ⟨ld,hld⟩:∃L,yT (ptn T) (qk T (H:Int))=L:=⟨_,rfl⟩
 obtain ⟨own,hown⟩:∃L,qC T=L:=⟨_,rfl⟩
 obtain ⟨n,hn⟩:∃n,ptn T=n:=⟨_,rfl⟩
 rw [hla] at C1
 rw [hlb] at C2
 rw [hlc] at C3
 rw [hld] at C4
 rw [hown] at C5
 rw [hla,hlb,hlc,hld,hown,hn] at hFF
 rw [hn] at hpn hn7 hxs
 unfold XF Sy.vs_ at C1 C2 C3 C4 C5
 rw [hTn] at C1 C2 C3 C4 C5
 simp only [hFF.out.la] at C1
 simp only [hFF.out.lb] at C2
 simp only [hFF.out.lc] at C3
 simp only [hFF.out.ld] at C4
 simp only [hFF.out.lo] at C5
 clear hT1 hT2 hT3 hT4 hT5 HFi HSe HR hT hpk hpk2 hvE hfx hn HLO hla hlb hlc hld hown hpn hM60 hH hG hJ
 unfold Sy.vs_
 rw [hTn]
 go_upto_region 2 with fail
 obtain ⟨W3,hW3,d3,hs3,hb3⟩:=zm w2 #[.int .i64 T.p.t.n,.int .i64 T.p.t.ins,.int .i64 T.p.t.outs,.slice A2 T.p.t.cases.length kc2,.int .i64 T.p.a.n,.slice SV2 T.p.a.sts.length ks2,.int .i64 T.p.k,.int .i64 (N:Int),.slice AV T.vs.length kv,.slice AX T.xs.length kx] 35
 rw [hW3]
 have HDB:Hid (∀X,Below W3.heap.size W3 X→X.heap[w2.heap.size]?=some (.cells #[.int .i64 T.p.t.n,.int .i64 T.p.t.ins,.int .i64 T.p.t.outs,.slice A2 T.p.t.cases.length kc2,.int .i64 T.p.a.n,.slice SV2 T.p.a.sts.length ks2,.int .i64 T.p.k,.int .i64 (N:Int),.slice AV T.vs.length kv,.slice AX T.xs.length kx] 35 (0,0))∧X.heap[w.heap.size]?=some (.cells #[.int .i64 p.t.n,.int .i64 p.t.ins,.int .i64 p.t.outs,.slice A p.t.cases.length kc,.int .i64 p.a.n,.slice SV p.a.sts.length ks,.int .i64 (K:Int)] 29 (0,0))):=fun X hX=>⟨(hX.block _ (by omega)).trans d3,(hX.block _ (by have:=zj HD2.out;omega)).trans ((hb3.block _ (zj HD2.out)).trans HD2.out)⟩
 have HSB:Hid (∀X,Below W3.heap.size W3 X→SyAt X X.heap.size A2 SV2 AV AX T):=fun X hX=>(hSY.up hb3).up hX
 have HB3:=zH (B2.out.trans (hb3.mono B2.out.size))
 have G3:Hid (Below W3.heap.size W3 W3):=Below.refl _ _
 have HS3:=zH hs3
 clear hW3 d3 hb3 hSY hs3 B2 HD2 hs2
 obtain ⟨M,hM⟩:∃M,T.xs.length=M:=⟨_,rfl⟩
 rw [hM] at C1 C2 C3 C4 C5 HDB ⊢
 clear hM hTn hHl hMl hGl h2b h8 hma hmb
 obtain ⟨D0,D1⟩:=HDB.out _ G3.out
 obtain ⟨p0,p1,p2,p3,p4,p5,p6,p7,p8,p9⟩:=zA (D0)
 clear D0 D1
 go_wp2_with fail
 refine (C1.out W3 (HSB.out _ G3.out)).mono ?_
 rintro e w4 ⟨Aa,ca,rfl,ho4,hb4⟩
 have G4:=zH (G3.out.trans (hb4.mono G3.out.size))
 have Ia:=zH (qo ho4)
 clear hb4 ho4 C1 p0 p1 p2 p3 p4 p5 p6 p7 p8 p9
 clear hcv1 hcv2 h2w h2v hwa hwb hwo
 obtain ⟨D0,D1⟩:=HDB.out _ G4.out
 obtain ⟨p0,p1,p2,p3,p4,p5,p6,p7,p8,p9⟩:=zA (D0)
 clear D0 D1
 go_wp2_with fail
 refine (C2.out w4 (HSB.out _ G4.out)).mono ?_
 rintro e w5 ⟨Ab,cb,rfl,ho5,hb5⟩
 have G5:=zH (G4.out.trans (hb5.mono G4.out.size))
 have Ib:=zH (qo ho5)
 have Ia:=zH (Ia.out.up hb5)
 clear hb5 ho5 C2 p0 p1 p2 p3 p4 p5 p6 p7 p8 p9
 obtain ⟨D0,D1⟩:=HDB.out _ G5.out
 obtain ⟨p0,p1,p2,p3,p4,p5,p6,p7,p8,p9⟩:=zA (D0)
 clear D0 D1
 go_wp2_with fail
 refine (C3.out w5 (HSB.out _ G5.out)).mono ?_
 rintro e w6 ⟨Ac,cc,rfl,ho6,hb6⟩
 have G6:=zH (G5.out.trans (hb6.mono G5.out.size))
 have Ic:=zH (qo ho6)
 have Ia:=zH (Ia.out.up hb6)
 have Ib:=zH (Ib.out.up hb6)
 clear hb6 ho6 C3 p0 p1 p2 p3 p4 p5 p6 p7 p8 p9
 obtain ⟨D0,D1⟩:=HDB.out _ G6.out
 obtain ⟨p0,p1,p2,p3,p4,p5,p6,p7,p8,p9⟩:=zA (D0)
 clear D0 D1
 go_wp2_with fail
 refine (C4.out w6 (HSB.out _ G6.out)).mono ?_
 rintro e w7 ⟨Ad,cd,rfl,ho7,hb7⟩
 have G7:=zH (G6.out.trans (hb7.mono G6.out.size))
 have Id:=zH (qo ho7)
 have Ia:=zH (Ia.out.up hb7)
 have Ib:=zH (Ib.out.up hb7)
 have Ic:=zH (Ic.out.up hb7)
 clear hb7 ho7 C4 p0 p1 p2 p3 p4 p5 p6 p7 p8 p9
 have KI:Hid (∀X,Below w7.heap.size w7 X→IAt X X.heap.size Aa la∧IAt X X.heap.size Ab lb∧IAt X X.heap.size Ac lc∧IAt X X.heap.size Ad ld):=fun X hX=>⟨Ia.out.up hX,Ib.out.up hX,Ic.out.up hX,Id.out.up hX⟩
 clear Ia Ib Ic Id
 have F7:Hid (Below w7.heap.size w7 w7):=Below.refl _ _
 have E1:=zH (uW Ac Aa cc ca n lc la hFF.out.lc hFF.out.la hFF.out.vc hFF.out.va (by omega) hFF.out.ca w7 (KI.out _ F7.out).2.2.1 (KI.out _ F7.out).1)
 go_upto_region 14 with fail
 go_wp2_with fail
 refine E1.out.mono ?_
 rintro e w8 ⟨rfl,hb8⟩
 have F8:Hid (Below w7.heap.size w7 w8):=hb8
 clear hb8 E1 F7
 have E2:=zH (uW Ab Ad cb cd n lb ld hFF.out.lb hFF.out.ld hFF.out.vb hFF.out.vd (by omega) hFF.out.bd w8 (KI.out _ F8.out).2.1 (KI.out _ F8.out).2.2.2)
 go_wp2_with fail
 refine E2.out.mono ?_
 rintro e w9 ⟨rfl,hb9⟩
 have F9:Hid (Below w7.heap.size w7 w9):=F8.out.trans (hb9.mono F8.out.size)
 clear hb9 E2 F8
 by_cases hg0:G=0
 · have hgI:((G:Int)==0)=true:=by simpa using hg0
   have E3:=zH (uI Aa ca la hFF.out.va (by rw [hFF.out.la];omega) w9 (KI.out _ F9.out).1)
   rw [hFF.out.la,hFF.out.na hg0 hxs] at E3
   go_wp2_with fail
   refine E3.out.mono ?_
   rintro e w10 ⟨rfl,hb10⟩
   have F10:Hid (Below w7.heap.size w7 w10):=F9.out.trans (hb10.mono F9.out.size)
   clear hb10 E3 F9
   have E4:=zH (uI Ab cb lb hFF.out.vb (by rw [hFF.out.lb];omega) w10 (KI.out _ F10.out).2.1)
   rw [hFF.out.lb,hFF.out.nb hg0] at E4
   go_wp2_with fail
   refine E4.out.mono ?_
   rintro e w11 ⟨rfl,hb11⟩
   have F11:Hid (Below w7.heap.size w7 w11):=F10.out.trans (hb11.mono F10.out.size)
   clear hb11 E4 F10
   have G9:=zH (G7.out.trans (F11.out.mono G7.out.size))
   go_wp2_with fail
   refine (xe w11).mono ?_
   rintro e v9 ⟨rfl,hb9⟩
   have HF:=zH (HB3.out.trans ((G9.out.trans (hb9.mono G9.out.size)).mono HB3.out.size))
   clear hb9
   go_wp2_with fail
   go_ret
   exact ⟨rfl,HF.out⟩
 have hgI:((G:Int)==0)=false:=by simpa using hg0
 have G9:=zH (G7.out.trans (F9.out.mono G7.out.size))
 obtain ⟨D0,D1⟩:=HDB.out _ G9.out
 obtain ⟨p0,p1,p2,p3,p4,p5,p6,p7,p8,p9⟩:=zA (D0)
 clear D0 D1
 go_wp2_with fail
 go_loopw [127] (fun i wr=>∃q:Nat,q≤N∧i=.int .i64 (q:Int)∧Hid (Below w7.heap.size w7 wr)) (fun i _=>N-(intOf i).toNat)
 case atStart=>exact ⟨0,by omega,rfl,F9⟩
 case round=>
  obtain ⟨q,hq,rfl,F10⟩:=hrel
  clear p0 p1 p2 p3 p4 p5 p6 p7 p8 p9 G9
  by_cases hql:q<N
  · have hq0:(0:Int)≤(q:Int):=by omega
    have hq1:(q:Int)<(N:Int):=by omega
    have hmq:min q 64=q:=by omega
    have hwq:IntKind.i64.wrap ((q:Int)+1)=((q+1:Nat):Int):=by rw [IntKind.wrap_i64];omega
    have hb1:=jk hG32 (show q<5 by omega)
    cases hbit:G.testBit q with
    | false=>
     rw [hbit] at hb1
     clear hbit
     go_wp2_with fail
     go_roundw
     case rel=>exact ⟨q+1,by omega,by go_num,F10⟩
     case measure=>simp [intOf];omega
    | true=>
     rw [hbit] at hb1
     have HBT:=zH hbit
     have G10:=zH (G7.out.trans (F10.out.mono G7.out.size))
     have E5:=zH (C5.out q hql wr (HSB.out _ G10.out))
     clear hbit
     obtain ⟨D0,D1⟩:=HDB.out _ G10.out
     obtain ⟨p0,p1,p2,p3,p4,p5,p6,p7,p8,p9⟩:=zA (D0)
     clear D0 D1
     go_wp2_with fail
     refine E5.out.mono ?_
     rintro e w11 ⟨Ae,ce,rfl,ho11,hb11⟩
     have F11:Hid (Below w7.heap.size w7 w11):=F10.out.trans (hb11.mono F10.out.size)
     have Ie:Hid (∀X,Below w11.heap.size w11 X→IAt X X.heap.size Ae (own q)):=fun X hX=>(qo ho11).up hX
     clear hb11 ho11 E5 F10 G10 p0 p1 p2 p3 p4 p5 p6 p7 p8 p9 hb1
     have E6:=zH (uW Aa Ae ca ce n la (own q) hFF.out.la (hFF.out.lo q) hFF.out.va (hFF.out.vo q) (by omega) (hFF.out.ao q hql HBT.out) w11 (KI.out _ F11.out).1 (Ie.out _ (Below.refl _ _)))
     go_wp2_with fail
     refine E6.out.mono ?_
     rintro e w12 ⟨rfl,hb12⟩
     have F12:Hid (Below w7.heap.size w7 w12):=F11.out.trans (hb12.mono F11.out.size)
     have E7:=zH (uW Ae Ab ce cb n (own q) lb (hFF.out.lo q) hFF.out.lb (hFF.out.vo q) hFF.out.vb (by omega) (hFF.out.ob q hql HBT.out) w12 (Ie.out _ hb12) (KI.out _ F12.out).2.1)
     clear hb12 E6 F11 Ie
     go_wp2_with fail
     refine E7.out.mono ?_
     rintro e w13 ⟨rfl,hb13⟩
     have F13:Hid (Below w7.heap.size w7 w13):=F12.out.trans (hb13.mono F12.out.size)
     clear hb13 E7 F12
     go_wp2_with fail
     go_roundw
     case rel=>exact ⟨q+1,by omega,by go_num,F13⟩
     case measure=>simp [intOf];omega
  · obtain rfl:q=N:=by omega
    have hq1:¬(q:Int)<(q:Int):=by omega
    have E8:=zH (XQ Aa ca la hFF.out.va (by rw [hFF.out.la];omega) wr _ (KI.out _ F10.out).1)
    rw [hFF.out.la] at E8
    have G10:=zH (G7.out.trans (F10.out.mono G7.out.size))
    go_wp2_with fail
    refine E8.out.mono ?_
    rintro e w14 ⟨rfl,hw14⟩
    obtain rfl:=hw14
    go_wp2_with fail
    refine (xe wr).mono ?_
    rintro e v9 ⟨rfl,hb9⟩
    have HF:=zH (HB3.out.trans ((G10.out.trans (hb9.mono G10.out.size)).mono HB3.out.size))
    clear hb9
    go_wp2_with fail
    go_ret
    exact ⟨rfl,HF.out⟩
end
end Go.Proofs.YtiookelkkekbeaaGreat
