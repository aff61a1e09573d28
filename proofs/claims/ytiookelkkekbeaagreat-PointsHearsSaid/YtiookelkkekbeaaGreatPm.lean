/- Parts PrdA HrsP PrdB LwHrs. -/
import Derived.Test.YtiookelkkekbeaaGreatProg
import Derived.Test.YtiookelkkekbeaaGreatPa
import Derived.Test.YtiookelkkekbeaaGreatPg
import Derived.Test.YtiookelkkekbeaaGreatPc
import Derived.Test.YtiookelkkekbeaaGreatPh
import Derived.Deep.Cut
import Derived.Test.YtiookelkkekbeaaGreatPi

namespace Go.Proofs.YtiookelkkekbeaaGreat
set_option maxHeartbeats 4000000
section
open Go.RowKit Go.Shelf
attribute [local go_sem] Oper.semAt_some
theorem set6 {w:World} {g:Nat} {a0 a1 a2 a3 a4 a5:Value} {t:TypeId} (h:w.heap[g]?=some (.cells #[a0,a1,a2,a3,a4,a5] t (0,0))) (v0 v1 v2 v3 v4 v5:Value) :
  ∃W,((((((w.setCell ⟨g,0,none⟩ v0).setCell ⟨g,1,none⟩ v1).setCell ⟨g,2,none⟩ v2).setCell ⟨g,3,none⟩ v3).setCell ⟨g,4,none⟩ v4).setCell ⟨g,5,none⟩ v5)=W∧W.heap[g]?=some (.cells #[v0,v1,v2,v3,v4,v5] t (0,0))∧(∀k,k≠g→W.heap[k]?=w.heap[k]?)∧(∀B,B≤g→Below B w W)∧W.heap.size=w.heap.size:=by
 refine ⟨_,rfl,?_,fun k hk=>?_,fun B hB=>?_,by simp [World.setCell]⟩
 · have k0:((w.setCell ⟨g,0,none⟩ v0)).heap[g]?=some (.cells #[v0,a1,a2,a3,a4,a5] t (0,0)):=heap_setCell_same _ g 0 _ _ v0 h
   have k1:(((w.setCell ⟨g,0,none⟩ v0).setCell ⟨g,1,none⟩ v1)).heap[g]?=some (.cells #[v0,v1,a2,a3,a4,a5] t (0,0)):=heap_setCell_same _ g 1 _ _ v1 k0
   have k2:((((w.setCell ⟨g,0,none⟩ v0).setCell ⟨g,1,none⟩ v1).setCell ⟨g,2,none⟩ v2)).heap[g]?=some (.cells #[v0,v1,v2,a3,a4,a5] t (0,0)):=heap_setCell_same _ g 2 _ _ v2 k1
   have k3:(((((w.setCell ⟨g,0,none⟩ v0).setCell ⟨g,1,none⟩ v1).setCell ⟨g,2,none⟩ v2).setCell ⟨g,3,none⟩ v3)).heap[g]?=some (.cells #[v0,v1,v2,v3,a4,a5] t (0,0)):=heap_setCell_same _ g 3 _ _ v3 k2
   have k4:((((((w.setCell ⟨g,0,none⟩ v0).setCell ⟨g,1,none⟩ v1).setCell ⟨g,2,none⟩ v2).setCell ⟨g,3,none⟩ v3).setCell ⟨g,4,none⟩ v4)).heap[g]?=some (.cells #[v0,v1,v2,v3,v4,a5] t (0,0)):=heap_setCell_same _ g 4 _ _ v4 k3
   have k5:(((((((w.setCell ⟨g,0,none⟩ v0).setCell ⟨g,1,none⟩ v1).setCell ⟨g,2,none⟩ v2).setCell ⟨g,3,none⟩ v3).setCell ⟨g,4,none⟩ v4).setCell ⟨g,5,none⟩ v5)).heap[g]?=some (.cells #[v0,v1,v2,v3,v4,v5] t (0,0)):=heap_setCell_same _ g 5 _ _ v5 k4
   exact k5
 · exact (Below.heap_setCell _ ⟨g,5,none⟩ v5 k hk).trans ((Below.heap_setCell _ ⟨g,4,none⟩ v4 k hk).trans ((Below.heap_setCell _ ⟨g,3,none⟩ v3 k hk).trans ((Below.heap_setCell _ ⟨g,2,none⟩ v2 k hk).trans ((Below.heap_setCell _ ⟨g,1,none⟩ v1 k hk).trans (Below.heap_setCell _ ⟨g,0,none⟩ v0 k hk)))))
 · exact (((((((Below.refl _ _).setCell hB _).setCell hB _).setCell hB _).setCell hB _).setCell hB _).setCell hB _)
def gC (N:Nat) (f:Nat→Nat):Array Value:=#[.int .i64 (N:Int),.int .i64 (f 0:Int),.int .i64 (f 1:Int),.int .i64 (f 2:Int),.int .i64 (f 3:Int),.int .i64 (f 4:Int)]
theorem Zq {w:World} {b N:Nat} {f:Nat→Nat} {t:TypeId} (h:w.heap[b]?=some (.cells (gC N f) t (0,0))) {q:Nat} (hq:q<5):w.cell? ⟨b,1+q,none⟩=some (.int .i64 (f q:Int)):=by
 obtain rfl | rfl | rfl | rfl | rfl:q=0∨q=1∨q=2∨q=3∨q=4:=by omega
 · exact zh h 1 rfl
 · exact zh h 2 rfl
 · exact zh h 3 rfl
 · exact zh h 4 rfl
 · exact zh h 5 rfl
theorem gC_set (N:Nat) (f g:Nat→Nat) {q x:Nat} (hq:q<5) (hg:∀i,g i=if i=q then x else f i):(gC N f).set! (1+q) (.int .i64 (x:Int))=gC N g:=by
 unfold gC
 rw [hg 0,hg 1,hg 2,hg 3,hg 4]
 obtain rfl | rfl | rfl | rfl | rfl:q=0∨q=1∨q=2∨q=3∨q=4:=by omega
 all_goals simp
def orF (f:Nat→Nat) (s:Nat):Nat→Nat
 | 0=>0
 | m+1=>if s.testBit m=true then orF f s m ||| f m else orF f s m
theorem XW {f:Nat→Nat} {s:Nat} (hf:∀i,f i<32):∀m,orF f s m<32
 | 0=>by show 0<32;omega
 | m+1=>by
  rw [orF]
  split
  · exact Nat.or_lt_two_pow (n:=5) (XW hf m) (hf m)
  · exact XW hf m
theorem XX (f:Nat→Nat) (s o:Nat):∀m,(orF f s m).testBit o=true↔∃i,i<m∧s.testBit i=true∧(f i).testBit o=true
 | 0=>by simp [orF]
 | m+1=>by
  rw [orF]
  split
  · rename_i h
    rw [Nat.testBit_or,Bool.or_eq_true,XX f s o m]
    constructor
    · rintro (⟨i,h1,h2⟩ | h1)
      · exact ⟨i,by omega,h2⟩
      · exact ⟨m,by omega,h,h1⟩
    · rintro ⟨i,h1,h2,h3⟩
      by_cases e:i=m
      · subst e;exact .inr h3
      · exact .inl ⟨i,by omega,h2,h3⟩
  · rename_i h
    rw [XX f s o m]
    constructor
    · rintro ⟨i,h1,h2⟩;exact ⟨i,by omega,h2⟩
    · rintro ⟨i,h1,h2,h3⟩
      by_cases e:i=m
      · subst e;exact absurd h2 h
      · exact ⟨i,by omega,h2,h3⟩
def qI (N:Nat) (p:Nat):Nat:=if p<N then 2^p else 0
def stF (N:Nat) (fa fb:Nat→Nat) (p m:Nat) (q:Nat):Nat:=if q<p then orF fa (fb q) N else if q=p then orF fa (fb p) m else 0
theorem stF_zero (N:Nat) (fa fb:Nat→Nat):stF N fa fb 0 0=fun _=>0:=by
 funext q
 unfold stF
 rw [if_neg (by omega)]
 split<;>rfl
theorem stF_next (N:Nat) (fa fb:Nat→Nat) (p:Nat):stF N fa fb p N=stF N fa fb (p+1) 0:=by
 funext q
 unfold stF
 by_cases h1:q<p
 · rw [if_pos h1,if_pos (by omega)]
 · rw [if_neg h1]
   by_cases h2:q=p
   · subst h2;rw [if_pos rfl,if_pos (by omega)]
   · rw [if_neg h2,if_neg (by omega)]
     split<;>rfl
theorem stF_not {N:Nat} {fa fb:Nat→Nat} {p m:Nat} (h:(fb p).testBit m=false):stF N fa fb p (m+1)=stF N fa fb p m:=by
 have e:orF fa (fb p) (m+1)=orF fa (fb p) m:=by rw [orF,if_neg (by rw [h];decide)]
 funext q
 unfold stF
 rw [e]
theorem stF_hit {N:Nat} {fa fb:Nat→Nat} {p m:Nat} (h:(fb p).testBit m=true) (q:Nat):stF N fa fb p (m+1) q=if q=p then orF fa (fb p) m ||| fa m else stF N fa fb p m q:=by
 have e:orF fa (fb p) (m+1)=orF fa (fb p) m ||| fa m:=by rw [orF,if_pos h]
 unfold stF
 rw [e]
 by_cases h2:q=p
 · subst h2;rw [if_neg (by omega),if_pos rfl,if_pos rfl]
 · rw [if_neg h2,if_neg h2,if_neg h2]
theorem stF_end (N:Nat) (fa fb:Nat→Nat):stF N fa fb N 0=fun q=>if q<N then orF fa (fb q) N else 0:=by
 funext q
 unfold stF
 split
 · rfl
 · split<;>rfl
def jR (N:Nat) (fa fb:Nat→Nat) (p:Nat):Nat:=if p<N then orF fa (fb p) N else 0
def yQ (N:Nat) (word:List Rd):Nat→Nat→Nat
 | 0=>qI N
 | k+1=>jR N (yQ N word k) fun p=>((word.getD k default).h p).toNat
theorem silF_lt {N:Nat} (hN:N≤5) (i:Nat):qI N i<32:=by
 unfold qI
 split
 · exact Nat.lt_of_lt_of_le (Nat.pow_lt_pow_right (by omega) (by omega:i<5)) (by decide)
 · decide
theorem Qm {N:Nat} (hN:N≤5) (word:List Rd):∀k i,yQ N word k i<32
 | 0,i=>silF_lt hN i
 | k+1,i=>by
  unfold yQ jR
  split
  · exact XW (Qm hN word k) N
  · decide
theorem Qo {N:Nat} (word:List Rd):∀k q o,q<N→((yQ N word k q).testBit o=true↔HR N word k q o)
 | 0,q,o,hq=>by
  unfold yQ qI HR
  rw [if_pos hq,Nat.testBit_two_pow,decide_eq_true_eq]
  exact ⟨fun e=>e.symm,fun e=>e.symm⟩
 | k+1,q,o,hq=>by
  unfold yQ jR HR
  rw [if_pos hq,XX]
  constructor
  · rintro ⟨m,h1,h2,h3⟩;exact ⟨m,h1,h2,(Qo word k m o h1).1 h3⟩
  · rintro ⟨m,h1,h2,h3⟩;exact ⟨m,h1,h2,(Qo word k m o h1).2 h3⟩
set_option maxRecDepth 100000 in
theorem QH (N:Nat) (h1:1≤N) (h5:N≤5) (w:World):Calls Tryz.prog 46 #[.int .i64 (N:Int)] w fun e w'=>e=.returned (.tuple #[.agg (gC N (qI N)),.int .i64 0])∧Below w.heap.size w w':=by
 obtain ⟨w1,hw1,d1,hs1,hB1⟩:=zm w #[.int .i64 0,.int .i64 0,.int .i64 0,.int .i64 0,.int .i64 0,.int .i64 0] 62
 obtain ⟨w2,hw2,d2,hs2,hB2⟩:=zm w1 (gC N fun _=>0) 62
 have hB:=hB1.trans (hB2.mono hB1.size)
 have d1:=(hB2.block _ (by omega:w.heap.size<w1.heap.size)).trans d1
 rw [hs1] at d2
 have HD1:=zH d1
 have HB:=zH hB
 have H0:Hid (w2.heap[w.heap.size+1]?=some (.cells (gC N fun q=>if q<0 then 2^q else 0) 62 (0,0))):=d2
 have HW1:=zH hw1
 have HW2:Hid (w1.alloc (.cells #[.int .i64 (N:Int),.int .i64 0,.int .i64 0,.int .i64 0,.int .i64 0,.int .i64 0] 62)=w2):=hw2
 have HS2:=zH (And.intro hs1 hs2)
 clear hw1 hw2 d1 d2 hB1 hB2 hB hs1 hs2
 go_enter Tryz.func46,Tryz.ntmps46
 go_upto_region 1 with fail
 rw [HW1.out]
 have i1:¬(N:Int)<1:=by omega
 have i2:¬(5:Int)<(N:Int):=by omega
 have hs1:=HS2.out.1
 go_upto_region 4 with fail
 rw [HW2.out]
 clear HW1 HW2
 go_wp2_with fail
 go_loopw [5] (fun i wr=>∃k:Nat,k≤N∧i=.int .i64 (k:Int)∧Hid (wr.heap[w.heap.size+1]?=some (.cells (gC N fun q=>if q<k then 2^q else 0) 62 (0,0)))∧Hid (Wrote (fun z=>z=w.heap.size+1) w2 wr)) (fun i _=>N-(intOf i).toNat)
 case atStart=>exact ⟨0,by omega,rfl,H0,Wrote.refl _ _⟩
 case round=>
  obtain ⟨k,hk,rfl,hG,hW⟩:=hrel
  clear H0
  by_cases hlt:k<N
  · have hki:(k:Int)<(N:Int):=by omega
    have hk0:(0:Int)≤(k:Int):=by omega
    have hk5:(k:Int)<5:=by omega
    have hsh:=shl_one (N:=k) (by omega)
    have hw2:wrap64 (2^k)=((2^k:Nat):Int):=by
     obtain rfl | rfl | rfl | rfl | rfl:k=0∨k=1∨k=2∨k=3∨k=4:=by omega
     all_goals kernel_rfl
    have c0:=Zq hG.out (show k<5 by omega)
    have z0:=zi hG.out (1+k)
    have l0:=zj hG.out
    have hset:=qE hG.out (1+k) (.int .i64 ((2^k:Nat):Int))
    rw [gC_set N _ (fun q=>if q<k+1 then 2^q else 0) (show k<5 by omega) (fun i=>by
     by_cases e:i=k
     · subst e;simp
     · have:(i<k+1)=(i<k):=by apply propext;omega
       simp [this,e])] at hset
    have HST:=zH hset.1
    have HWn:Hid (Wrote (fun z=>z=w.heap.size+1) w2 (wr.setCell ⟨w.heap.size+1,1+k,none⟩ (.int .i64 ((2^k:Nat):Int)))):=hW.out.trans (Wrote.of_grown (zQ wr (w.heap.size+1) (1+k) _) (fun z e _=>by cases e;rfl)) (fun _ _ h=>h)
    clear hset hG hW
    go_upto_region 6 with fail
    rw [show (2:Int)^k=((2^k:Nat):Int) by push_cast;rfl]
    go_wp2_with fail
    go_roundw
    case rel=>exact ⟨k+1,by omega,by go_num,HST,HWn⟩
    case measure=>simp [intOf];omega
  · obtain rfl:k=N:=by omega
    have hkk:¬(k:Int)<(k:Int):=by omega
    have HGN:Hid (wr.heap[w.heap.size+1]?=some (.cells (gC k (qI k)) 62 (0,0))):=hG
    have HD:=zH ((hW.out.block w.heap.size (by have:=HS2.out;omega) (by show ¬w.heap.size=w.heap.size+1;omega)).trans HD1.out)
    have HBW:Hid (Below w.heap.size w wr):=HB.out.trans (kR hW.out (by omega) HB.out.size)
    clear hG hW
    have c0:wr.cell? ⟨w.heap.size+1,0,none⟩=some (.int .i64 (k:Int)):=zh HGN.out 0 rfl
    have c1:wr.cell? ⟨w.heap.size+1,1,none⟩=some (.int .i64 (qI k 0:Int)):=zh HGN.out 1 rfl
    have c2:wr.cell? ⟨w.heap.size+1,2,none⟩=some (.int .i64 (qI k 1:Int)):=zh HGN.out 2 rfl
    have c3:wr.cell? ⟨w.heap.size+1,3,none⟩=some (.int .i64 (qI k 2:Int)):=zh HGN.out 3 rfl
    have c4:wr.cell? ⟨w.heap.size+1,4,none⟩=some (.int .i64 (qI k 3:Int)):=zh HGN.out 4 rfl
    have c5:wr.cell? ⟨w.heap.size+1,5,none⟩=some (.int .i64 (qI k 4:Int)):=zh HGN.out 5 rfl
    have y0:=zh HD.out 0 rfl
    have y1:=zh HD.out 1 rfl
    have y2:=zh HD.out 2 rfl
    have y3:=zh HD.out 3 rfl
    have y4:=zh HD.out 4 rfl
    have y5:=zh HD.out 5 rfl
    have g0:=zi HD.out 0
    have g1:=zi HD.out 1
    have g2:=zi HD.out 2
    have g3:=zi HD.out 3
    have g4:=zi HD.out 4
    have g5:=zi HD.out 5
    have lz:=zj HD.out
    obtain ⟨WF,hWF,f1,f2,f3,f4⟩:=set6 HD.out (.int .i64 (k:Int)) (.int .i64 (qI k 0:Int)) (.int .i64 (qI k 1:Int)) (.int .i64 (qI k 2:Int)) (.int .i64 (qI k 3:Int)) (.int .i64 (qI k 4:Int))
    have HWF:=zH hWF
    have HF1:=zH f1
    have HBF:=zH (HBW.out.trans (f3 _ (Nat.le_refl _)))
    clear hWF f1 f2 f3 f4
    go_wp2_with fail
    rw [HWF.out]
    have z0:=zh HF1.out 0 rfl
    have z1:=zh HF1.out 1 rfl
    have z2:=zh HF1.out 2 rfl
    have z3:=zh HF1.out 3 rfl
    have z4:=zh HF1.out 4 rfl
    have z5:=zh HF1.out 5 rfl
    refine bodyPost_ret (v:=.tuple #[.agg #[.int .i64 (k:Int),.int .i64 (qI k 0:Int),.int .i64 (qI k 1:Int),.int .i64 (qI k 2:Int),.int .i64 (qI k 3:Int),.int .i64 (qI k 4:Int)],.int .i64 0]) (by simp [results,Tryz.results46,go_sem,z0,z1,z2,z3,z4,z5]) rfl ?_
    exact ⟨rfl,HBF.out⟩
set_option maxRecDepth 100000 in
theorem rprod_any (N:Nat) (h5:N≤5) (fa fb:Nat→Nat) (ha:∀i,fa i<32) (hb:∀i,fb i<32) (w:World):Calls Tryz.prog 47 #[.agg (gC N fa),.agg (gC N fb)] w fun e w'=>e=.returned (.agg (gC N (jR N fa fb)))∧Below w.heap.size w w':=by
 obtain ⟨w1,hw1,d1,hs1,hB1⟩:=zm w (gC N fa) 62
 obtain ⟨w2,hw2,d2,hs2,hB2⟩:=zm w1 (gC N fb) 62
 obtain ⟨w3,hw3,d3,hs3,hB3⟩:=zm w2 #[.int .i64 0,.int .i64 0,.int .i64 0,.int .i64 0,.int .i64 0,.int .i64 0] 62
 obtain ⟨w4,hw4,d4,hs4,hB4⟩:=zm w3 (gC N fun _=>0) 62
 have hB:=((hB1.trans (hB2.mono hB1.size)).trans (hB3.mono (by omega))).trans (hB4.mono (by omega))
 have d1:w4.heap[w.heap.size]?=some (.cells (gC N fa) 62 (0,0)):=(hB4.block _ (by omega)).trans ((hB3.block _ (by omega)).trans ((hB2.block _ (by omega)).trans d1))
 have d2:w4.heap[w.heap.size+1]?=some (.cells (gC N fb) 62 (0,0)):=by rw [←hs1];exact (hB4.block _ (by omega)).trans ((hB3.block _ (by omega)).trans d2)
 have d3:w4.heap[w.heap.size+1+1]?=some (.cells #[.int .i64 0,.int .i64 0,.int .i64 0,.int .i64 0,.int .i64 0,.int .i64 0] 62 (0,0)):=by rw [←hs1,←hs2];exact (hB4.block _ (by omega)).trans d3
 have HS:Hid (w4.heap.size=w.heap.size+4):=by rw [Hid];omega
 have H0:Hid (w4.heap[w.heap.size+1+1+1]?=some (.cells (gC N (stF N fa fb 0 0)) 62 (0,0))):=by rw [Hid,stF_zero,←hs1,←hs2,←hs3];exact d4
 have HD1:=zH d1
 have HD2:=zH d2
 have HD3:=zH d3
 have HB:=zH hB
 have HW3:Hid (((w.alloc (.cells (gC N fa) 62)).alloc (.cells (gC N fb) 62)).alloc (.cells #[.int .i64 0,.int .i64 0,.int .i64 0,.int .i64 0,.int .i64 0,.int .i64 0] 62)=w3):=by rw [Hid,hw1,hw2,hw3]
 have HW4:Hid (w3.alloc (.cells #[.int .i64 (N:Int),.int .i64 0,.int .i64 0,.int .i64 0,.int .i64 0,.int .i64 0] 62)=w4):=hw4
 have n3:w3.cell? ⟨w.heap.size,0,none⟩=some (.int .i64 (N:Int)):=zh ((hB4.block _ (by omega)).symm.trans d1) 0 rfl
 have HS3:=zH (by omega:w3.heap.size=w.heap.size+1+1+1)
 have HA:=zH ha
 have HBb:=zH hb
 clear hw1 hw2 hw3 hw4 d1 d2 d3 d4 hB1 hB2 hB3 hB4 hB hs1 hs2 hs3 hs4 ha hb
 unfold gC at HW3 ⊢
 go_enter Tryz.func47,Tryz.ntmps47
 go_upto_region 1 with fail
 rw [HW3.out]
 have hs3:=HS3.out
 go_upto_region 2 with fail
 rw [HW4.out]
 clear HW3 HW4 n3 hs3
 have n0:w4.cell? ⟨w.heap.size,0,none⟩=some (.int .i64 (N:Int)):=zh HD1.out 0 rfl
 go_wp2_with fail
 go_loopw [6] (fun i wr=>∃k:Nat,k≤N∧i=.int .i64 (k:Int)∧Hid (wr.heap[w.heap.size+1+1+1]?=some (.cells (gC N (stF N fa fb k 0)) 62 (0,0)))∧Hid (Wrote (fun z=>z=w.heap.size+1+1+1) w4 wr)) (fun i _=>N-(intOf i).toNat)
 case atStart=>exact ⟨0,by omega,rfl,H0,Wrote.refl _ _⟩
 case round=>
  obtain ⟨k,hk,rfl,hG,hW⟩:=hrel
  clear H0 n0
  have HE1:=zH ((hW.out.block _ (by have:=HS.out;omega) (by show ¬w.heap.size=w.heap.size+1+1+1;omega)).trans HD1.out)
  have n0:wr.cell? ⟨w.heap.size,0,none⟩=some (.int .i64 (N:Int)):=zh HE1.out 0 rfl
  by_cases hlt:k<N
  · have hki:(k:Int)<(N:Int):=by omega
    have hk0:(0:Int)≤(k:Int):=by omega
    have hk5:(k:Int)<5:=by omega
    go_wp2_with fail
    obtain ⟨wE,rfl⟩:∃y,y=wr:=⟨_,rfl⟩
    go_loopw [7] (fun i wr=>∃m:Nat,m≤N∧i=.int .i64 (m:Int)∧Hid (wr.heap[w.heap.size+1+1+1]?=some (.cells (gC N (stF N fa fb k m)) 62 (0,0)))∧Hid (Wrote (fun z=>z=w.heap.size+1+1+1) w4 wr)) (fun i _=>N-(intOf i).toNat)
    case atStart=>exact ⟨0,by omega,rfl,hG,hW⟩
    case round=>
     obtain ⟨m,hm,rfl,hG2,hW2⟩:=hrel
     clear n0 HE1 hG hW
     have HE1:=zH ((hW2.out.block _ (by have:=HS.out;omega) (by show ¬w.heap.size=w.heap.size+1+1+1;omega)).trans HD1.out)
     have HE2:=zH ((hW2.out.block _ (by have:=HS.out;omega) (by show ¬w.heap.size+1=w.heap.size+1+1+1;omega)).trans HD2.out)
     have n0:wr.cell? ⟨w.heap.size,0,none⟩=some (.int .i64 (N:Int)):=zh HE1.out 0 rfl
     by_cases hmt:m<N
     · have hmi:(m:Int)<(N:Int):=by omega
       have hm0:(0:Int)≤(m:Int):=by omega
       have hm5:(m:Int)<5:=by omega
       have c1:=Zq HE2.out (show k<5 by omega)
       have c2:=Zq HE1.out (show m<5 by omega)
       have HH:=zH (vA (fb k) m (HBb.out k) (by omega) wr)
       obtain ⟨bt,hbt⟩:∃bt,(fb k).testBit m=bt:=⟨_,rfl⟩
       rw [hbt] at HH
       have HBT:=zH hbt
       have hor:=or_32 (XW (f:=fa) (s:=fb k) HA.out m) (HA.out m)
       clear hbt
       go_wp2_with fail
       refine HH.out.mono ?_
       rintro e w5 ⟨rfl,hw5⟩
       obtain rfl:=hw5
       clear HH
       cases bt with
       | false=>
        have hGn:Hid (wr.heap[w.heap.size+1+1+1]?=some (.cells (gC N (stF N fa fb k (m+1))) 62 (0,0))):=by rw [Hid,stF_not HBT.out];exact hG2.out
        clear hG2 c1 c2 HBT hor
        go_wp2_with fail
        go_roundw
        case rel=>exact ⟨m+1,by omega,by go_num,hGn,hW2⟩
        case measure=>simp [intOf];omega
       | true=>
        have c3:=Zq hG2.out (show k<5 by omega)
        have e3:stF N fa fb k m k=orF fa (fb k) m:=by unfold stF;rw [if_neg (by omega),if_pos rfl]
        rw [e3] at c3
        have z0:=zi hG2.out (1+k)
        have l0:=zj hG2.out
        have hset:=qE hG2.out (1+k) (.int .i64 ((orF fa (fb k) m ||| fa m:Nat):Int))
        rw [gC_set N _ (stF N fa fb k (m+1)) (show k<5 by omega) (stF_hit HBT.out)] at hset
        obtain ⟨o1,ho1⟩:∃o1,orF fa (fb k) m=o1:=⟨_,rfl⟩
        obtain ⟨o2,ho2⟩:∃o2,fa m=o2:=⟨_,rfl⟩
        rw [ho1,ho2] at hset hor
        rw [ho1] at c3
        rw [ho2] at c2
        have HST:Hid ((wr.drew.setCell ⟨w.heap.size+1+1+1,1+k,none⟩ (.int .i64 ((o1 ||| o2:Nat):Int))).heap[w.heap.size+1+1+1]?=some (.cells (gC N (stF N fa fb k (m+1))) 62 (0,0))):=hset.1
        have HWn:Hid (Wrote (fun z=>z=w.heap.size+1+1+1) w4 (wr.drew.setCell ⟨w.heap.size+1+1+1,1+k,none⟩ (.int .i64 ((o1 ||| o2:Nat):Int)))):=(hW2.out.trans (Wrote.of_below ((Below.refl _ wr).drew)) (fun _ _ h=>h)).trans (Wrote.of_grown (zQ wr.drew (w.heap.size+1+1+1) (1+k) _) (fun z e _=>by cases e;rfl)) (fun _ _ h=>h)
        clear hset hG2 hW2 HBT e3 ho1 ho2 c1
        go_upto_region 9 with fail
        refine zz [(0,true),(1,true),(2,true),(3,true),(4,true),(5,true),(6,true),(7,true),(8,true),(9,true),(10,false),(11,false)] (fun X=>X=wr.drew) (by kernel_rfl) (by kernel_rfl) rfl ?_
        repeat
         apply zM rfl
         · rintro K' hK' X rfl
           go_simp
           exact hK'
        refine zC rfl ?_
        intro K' hK'
        go_simp
        refine hK' _ _ rfl ?_
        clear hK' K'
        refine yM rfl (by kernel_rfl) ?_
        intro K' hK'
        go_simp
        refine hK' (fun _=>True) _ _ trivial ?_
        refine zT ?_
        clear hK' K'
        go_wp2_with fail
        go_roundw
        case rel=>exact ⟨m+1,by omega,by go_num,HST,HWn⟩
        case measure=>simp [intOf];omega
     · obtain rfl:m=N:=by omega
       have hmm:¬(m:Int)<(m:Int):=by omega
       have hGn:Hid (wr.heap[w.heap.size+1+1+1]?=some (.cells (gC m (stF m fa fb (k+1) 0)) 62 (0,0))):=by rw [Hid,←stF_next];exact hG2.out
       clear hG2
       go_wp2_with fail
       go_roundw
       case rel=>exact ⟨k+1,by omega,by go_num,hGn,hW2⟩
       case measure=>simp [intOf];omega
  · obtain rfl:k=N:=by omega
    have hkk:¬(k:Int)<(k:Int):=by omega
    have HGN:Hid (wr.heap[w.heap.size+1+1+1]?=some (.cells (gC k (jR k fa fb)) 62 (0,0))):=by
     have:=hG.out
     rw [stF_end] at this
     exact this
    have HD:=zH ((hW.out.block (w.heap.size+1+1) (by have:=HS.out;omega) (by show ¬w.heap.size+1+1=w.heap.size+1+1+1;omega)).trans HD3.out)
    have HBW:Hid (Below w.heap.size w wr):=HB.out.trans (kR hW.out (by omega) HB.out.size)
    clear hG hW
    have c0:wr.cell? ⟨w.heap.size+1+1+1,0,none⟩=some (.int .i64 (k:Int)):=zh HGN.out 0 rfl
    have c1:wr.cell? ⟨w.heap.size+1+1+1,1,none⟩=some (.int .i64 (jR k fa fb 0:Int)):=zh HGN.out 1 rfl
    have c2:wr.cell? ⟨w.heap.size+1+1+1,2,none⟩=some (.int .i64 (jR k fa fb 1:Int)):=zh HGN.out 2 rfl
    have c3:wr.cell? ⟨w.heap.size+1+1+1,3,none⟩=some (.int .i64 (jR k fa fb 2:Int)):=zh HGN.out 3 rfl
    have c4:wr.cell? ⟨w.heap.size+1+1+1,4,none⟩=some (.int .i64 (jR k fa fb 3:Int)):=zh HGN.out 4 rfl
    have c5:wr.cell? ⟨w.heap.size+1+1+1,5,none⟩=some (.int .i64 (jR k fa fb 4:Int)):=zh HGN.out 5 rfl
    have y0:=zh HD.out 0 rfl
    have y1:=zh HD.out 1 rfl
    have y2:=zh HD.out 2 rfl
    have y3:=zh HD.out 3 rfl
    have y4:=zh HD.out 4 rfl
    have y5:=zh HD.out 5 rfl
    have g0:=zi HD.out 0
    have g1:=zi HD.out 1
    have g2:=zi HD.out 2
    have g3:=zi HD.out 3
    have g4:=zi HD.out 4
    have g5:=zi HD.out 5
    have lz:=zj HD.out
    obtain ⟨WF,hWF,f1,f2,f3,f4⟩:=set6 HD.out (.int .i64 (k:Int)) (.int .i64 (jR k fa fb 0:Int)) (.int .i64 (jR k fa fb 1:Int)) (.int .i64 (jR k fa fb 2:Int)) (.int .i64 (jR k fa fb 3:Int)) (.int .i64 (jR k fa fb 4:Int))
    have HWF:=zH hWF
    have HF1:=zH f1
    have HBF:=zH (HBW.out.trans (f3 _ (by omega)))
    clear hWF f1 f2 f3 f4
    go_wp2_with fail
    rw [HWF.out]
    have z0:=zh HF1.out 0 rfl
    have z1:=zh HF1.out 1 rfl
    have z2:=zh HF1.out 2 rfl
    have z3:=zh HF1.out 3 rfl
    have z4:=zh HF1.out 4 rfl
    have z5:=zh HF1.out 5 rfl
    (try simp only [Exit.inBlock,Exit.then])
    refine bodyPost_ret (results_cell_row (P:=Tryz.prog) rfl _ _ (w.heap.size+1+1) 62 _ (0,0) _ rfl HF1.out Tryz.underlying62 rfl (by kernel_rfl)) rfl ?_
    exact ⟨rfl,HBF.out⟩
end
section
open Go.RowKit
def hrF (q o:Nat):Fm:=.mk ⟨3,(q:Int),(o:Int),0,0⟩ []
theorem hrF_siz (q o:Nat):(yx 0 (hrF q o)).1≤1000000:=by
 show (1:Nat)≤1000000
 decide
theorem hrF_fml {N q o:Nat} (h3:N≤3) (hq:q<N) (ho:o<N):kO (N:Int) 0 (hrF q o)=0:=by
 have key:∀N:Nat,N<4→∀q:Nat,q<4→∀o:Nat,o<4→q<N→o<N→kO (N:Int) 0 (hrF q o)=0:=by decide +kernel
 exact key N (by omega) q (by omega) o (by omega) hq ho
theorem hrF_atm {s:Sy} {N q o:Nat} (hn:s.n=(N:Int)) (hv:yn s=0) (h3:N≤3) (hq:q<N) (ho:o<N):jD s [] 0 (hrF q o)=(qr s [] (hrF q o).h,0):=by
 unfold jD
 rw [if_neg (by simpa using hv),if_neg (by simp),hn,hrF_fml h3 hq ho]
 rfl
theorem Jm {s:Sy} {K N:Nat} (hF:Fine s K N) (hS:Sees s K N) (hl:LowV s.vs) (q o:Nat) (hq:q<N) (ho:o<N) (i:Nat) (hi:i<s.xs.length) (k:Nat) (hk:k≤K) :
  (qr s [] (hrF q o).h).getD (i*(K+1)+k) false=(yQ N s.xs[i].word k q).testBit o∧(k=0→(yQ N s.xs[i].word k q).testBit o=decide (q=o)):=by
 have hkk:s.p.k.toNat=K:=by have:=hF.k;omega
 have hn5:=hF.n5
 have hle:(i+1)*(K+1)≤s.xs.length*(K+1):=Nat.mul_le_mul_right _ hi
 rw [Nat.succ_mul] at hle
 have hlt:i*(K+1)+k<(zt (K+1) 0 s.xs.length).length:=by rw [xF _ _ (by omega)];omega
 have e1:(i*(K+1)+k) / (K+1)=i:=by rw [Nat.mul_comm,Nat.mul_add_div (by omega),Nat.div_eq_of_lt (by omega),Nat.add_zero]
 have e2:(i*(K+1)+k) % (K+1)=k:=by rw [Nat.mul_comm,Nat.mul_add_mod,Nat.mod_eq_of_lt (by omega)]
 have hat:(qr s [] (hrF q o).h).getD (i*(K+1)+k) false=xv s [] (hrF q o).h (i,k):=by
  unfold qr
  rw [hkk,List.getD_eq_getElem?_getD,List.getElem?_map,List.getElem?_eq_getElem hlt,XR _ _ (by omega),e1,e2]
  rfl
 have hx:s.xs.getD i default=s.xs[i]:=by rw [List.getD_eq_getElem?_getD,List.getElem?_eq_getElem hi];rfl
 obtain ⟨S,hS1,_,hS2⟩:=Jk hF hS hl (List.getElem_mem hi) k hk q hq
 have h1:xv s [] (hrF q o).h (i,k)=S.testBit o:=by
  show ((qj s.vs s.vs.length).getD (xw (s.xs.getD i default) k (q:Int).toNat).toNat 0).toNat.testBit (o:Int).toNat=_
  rw [hx,Int.toNat_natCast,Int.toNat_natCast,hS1,Int.toNat_natCast]
 have h2:=Qo (N:=N) s.xs[i].word k q o hq
 refine ⟨?_,fun hk0=>?_⟩
 · rw [hat,h1]
   exact Bool.eq_iff_iff.2 ((hS2 o (by omega)).trans h2.symm)
 · subst hk0
   refine Bool.eq_iff_iff.2 (h2.trans ?_)
   show o=q↔_
   rw [decide_eq_true_eq]
   exact ⟨fun h=>h.symm,fun h=>h.symm⟩
theorem XCap.up {w w':World} {A:Option Addr} {xs:List Exn} (h:XCap w A xs) (hx:XAt w w.heap.size A xs) (hb:Below w.heap.size w w'):XCap w' A xs:=by
 intro b o q eA i hi B n c hc
 obtain ⟨b2,o2,_,_,_,_,e2,hlt,_,h1,_,_,_⟩:=hx.row i hi
 rw [eA] at e2
 cases e2
 exact h b o none eA i hi B n c ((hb.cell (p:=⟨b,o+i*3+1,none⟩) hlt).symm.trans hc)
theorem uS (f:Nat→Nat) (q:Nat) (hq:q<5) (w:World):(Instr.index 60 (.agg #[.int .i64 (f 0:Int),.int .i64 (f 1:Int),.int .i64 (f 2:Int),.int .i64 (f 3:Int),.int .i64 (f 4:Int)]) (.int .i64 (q:Int))).run Tryz.prog w=.ok (.int .i64 (f q:Int)) w:=by
 obtain rfl | rfl | rfl | rfl | rfl:q=0∨q=1∨q=2∨q=3∨q=4:=by omega
 all_goals kernel_rfl
theorem uX (a b c d e f:Int) (w:World):(Instr.field 62 (.agg #[.int .i64 a,.int .i64 b,.int .i64 c,.int .i64 d,.int .i64 e,.int .i64 f]) 1).run Tryz.prog w=.ok (.agg #[.int .i64 b,.int .i64 c,.int .i64 d,.int .i64 e,.int .i64 f]) w:=by kernel_rfl
end
section
open Go.RowKit Go.Shelf
attribute [local go_sem] Oper.semAt_some
theorem Xq {r:Rd} {N:Nat} (h:yc r=0) (hn:r.n=(N:Int)) (h5:N≤5) {q:Nat} (hq:q<5):r.h q=(((r.h q).toNat:Nat):Int)∧(r.h q).toNat<32:=by
 by_cases hqN:q<N
 · obtain ⟨m,hm,hlt,_⟩:=wU h hn h5 hqN
   have:=Nat.pow_le_pow_right (n:=2) (by omega) h5
   rw [hm,Int.toNat_natCast]
   exact ⟨rfl,by omega⟩
 · have hg : yI r = 0 := by
    unfold yc at h
    split at h
    · rename_i hne;exact absurd h hne
    · rename_i hne;simpa using hne
   have h2:=Jo hg q hq
   unfold xM at h2
   rw [if_pos (by omega)] at h2
   split at h2
   · cases h2
   · rename_i h3
     have:r.h q=0:=by simpa using h3
     rw [this];decide
set_option maxRecDepth 100000 in
theorem rall15_any (N:Nat) (h1:1≤N) (h5:N≤5) (word:List Rd) (hw:∀r∈word,yc r=0∧r.n=(N:Int)) (k:Nat) (hk:k≤word.length) (hk6:k≤100) (AW:Option Addr) (c:Nat) (w:World) (hR:RAt w w.heap.size AW word) :
  Calls Tryz.prog 14 #[.int .i64 (N:Int),.slice AW k c] w fun e w'=>e=.returned (.agg (gC N (yQ N word k)))∧Below w.heap.size w w':=by
 obtain ⟨w1,hw1,d1,hs1,hB1⟩:=zm w #[.int .i64 0,.int .i64 0,.int .i64 0,.int .i64 0,.int .i64 0,.int .i64 0] 62
 have HSI:=zH (QH N h1 h5 w1)
 have HPR:=zH (fun (m:Nat) (hm:m<k) (X:World)=>rprod_any N h5 (yQ N word m) (fun p=>if p<5 then ((word.getD m default).h p).toNat else 0) (Qm h5 word m) (fun i=>by
  split
  · rename_i hi
    have hmw:m<word.length:=by omega
    rw [List.getD_eq_getElem?_getD,List.getElem?_eq_getElem hmw]
    obtain ⟨a1,a2⟩:=hw _ (List.getElem_mem hmw)
    exact (Xq a1 a2 h5 hi).2
  · decide) X)
 have HNX:Hid (∀m,jR N (yQ N word m) (fun p=>if p<5 then ((word.getD m default).h p).toNat else 0)=yQ N word (m+1)):=fun m=>by
  funext q
  rw [yQ]
  unfold jR
  by_cases hq:q<N
  · rw [if_pos hq,if_pos hq]
    dsimp only
    rw [if_pos (show q<5 by omega)]
  · rw [if_neg hq,if_neg hq]
 have HWD:=zH hw
 have HR:Hid (∀X,Below w.heap.size w X→RAt X w.heap.size AW word):=fun X hX=>hR.keep hX
 have HW1:=zH hw1
 have HB1:=zH hB1
 have HD1:=zH d1
 have HS1:=zH hs1
 have HKL:=zH hk
 clear hw1 d1 hs1 hB1 hw hR hk
 go_enter Tryz.func14,Tryz.ntmps14
 go_upto_region 1 with fail
 rw [HW1.out]
 unfold gC at HSI HPR
 go_wp2_with fail
 refine HSI.out.mono ?_
 rintro e w2 ⟨rfl,hb2⟩
 have HB2:=zH (HB1.out.trans (hb2.mono (by have:=HS1.out;omega)))
 have HD2:=zH ((hb2.block _ (zj HD1.out)).trans HD1.out)
 have hs2:=hb2.size
 have hz1:=HS1.out
 clear hb2 HSI HW1
 go_upto_region 2 with fail
 obtain ⟨w3,hw3,d3,hs3,hb3⟩:=zm w2 (gC N (yQ N word 0)) 62
 have hw3':w2.alloc (.cells #[.int .i64 (N:Int),.int .i64 (qI N 0:Int),.int .i64 (qI N 1:Int),.int .i64 (qI N 2:Int),.int .i64 (qI N 3:Int),.int .i64 (qI N 4:Int)] 62)=w3:=hw3
 rw [hw3']
 obtain ⟨b5,hb5⟩:∃b,w2.heap.size=b:=⟨_,rfl⟩
 rw [hb5] at d3
 have hlt5:w.heap.size<b5:=by omega
 have HD3:=zH ((hb3.block _ (zj HD2.out)).trans HD2.out)
 have HB3:=zH (HB2.out.trans (hb3.mono HB2.out.size))
 have H0:=zH d3
 have HS3:Hid (b5<w3.heap.size):=zj d3
 simp only [hb5]
 clear hw3 hw3' d3 hs3 hb3 HB2 HD1 HB1 HD2 hs2 hz1 HS1 hb5
 go_wp2_with fail
 go_loopw [7] (fun i wr=>∃m:Nat,m≤k∧i=.int .i64 (m:Int)∧Hid (wr.heap[b5]?=some (.cells (gC N (yQ N word m)) 62 (0,0)))∧Hid (Wrote (fun z=>z=b5) w3 wr)) (fun i _=>k-(intOf i).toNat)
 case atStart=>exact ⟨0,by omega,rfl,H0,Wrote.refl _ _⟩
 case round=>
  obtain ⟨m,hm,rfl,hG,hW⟩:=hrel
  clear H0
  have HBW:Hid (Below w.heap.size w wr):=HB3.out.trans (kR hW.out (by omega) HB3.out.size)
  by_cases hlt:m<k
  · have hmw:m<word.length:=by have:=HKL.out;omega
    obtain ⟨bw,ow,eW,hbw,y0,y1,y2,y3,y4,y5,y6⟩:=(HR.out wr HBW.out).row m hmw
    subst eW
    obtain ⟨a1,a2⟩:=HWD.out _ (List.getElem_mem hmw)
    have hg:word.getD m default=word[m]'hmw:=zD hmw default
    have HC:=HPR.out m hlt wr.drew
    rw [hg] at HC
    have e0:=(Xq a1 a2 h5 (show 0<5 by omega)).1
    have e1:=(Xq a1 a2 h5 (show 1<5 by omega)).1
    have e2:=(Xq a1 a2 h5 (show 2<5 by omega)).1
    have e3:=(Xq a1 a2 h5 (show 3<5 by omega)).1
    have e4:=(Xq a1 a2 h5 (show 4<5 by omega)).1
    have hNX:=HNX.out m
    rw [hg] at hNX
    obtain ⟨r,hr⟩:∃r,word[m]'hmw=r:=⟨_,rfl⟩
    rw [hr] at y0 y1 y2 y3 y4 y5 y6 a2 HC e0 e1 e2 e3 e4 hNX
    rw [hNX] at HC
    rw [show r.h0=(((r.h 0).toNat:Nat):Int) from e0] at y1
    rw [show r.h1=(((r.h 1).toNat:Nat):Int) from e1] at y2
    rw [show r.h2=(((r.h 2).toNat:Nat):Int) from e2] at y3
    rw [show r.h3=(((r.h 3).toNat:Nat):Int) from e3] at y4
    rw [show r.h4=(((r.h 4).toNat:Nat):Int) from e4] at y5
    rw [a2] at y0
    have HC:=zH (show Calls Tryz.prog 47 #[.agg #[.int .i64 (N:Int),.int .i64 (yQ N word m 0:Int),.int .i64 (yQ N word m 1:Int),.int .i64 (yQ N word m 2:Int),.int .i64 (yQ N word m 3:Int),.int .i64 (yQ N word m 4:Int)],.agg #[.int .i64 (N:Int),.int .i64 (((r.h 0).toNat:Nat):Int),.int .i64 (((r.h 1).toNat:Nat):Int),.int .i64 (((r.h 2).toNat:Nat):Int),.int .i64 (((r.h 3).toNat:Nat):Int),.int .i64 (((r.h 4).toNat:Nat):Int)]] wr.drew (fun e w'=>e=.returned (.agg #[.int .i64 (N:Int),.int .i64 (yQ N word (m+1) 0:Int),.int .i64 (yQ N word (m+1) 1:Int),.int .i64 (yQ N word (m+1) 2:Int),.int .i64 (yQ N word (m+1) 3:Int),.int .i64 (yQ N word (m+1) 4:Int)])∧Below wr.drew.heap.size wr.drew w') from HC)
    clear e0 e1 e2 e3 e4
    obtain ⟨u0,hu0⟩:∃u,(r.h 0).toNat=u:=⟨_,rfl⟩
    obtain ⟨u1,hu1⟩:∃u,(r.h 1).toNat=u:=⟨_,rfl⟩
    obtain ⟨u2,hu2⟩:∃u,(r.h 2).toNat=u:=⟨_,rfl⟩
    obtain ⟨u3,hu3⟩:∃u,(r.h 3).toNat=u:=⟨_,rfl⟩
    obtain ⟨u4,hu4⟩:∃u,(r.h 4).toNat=u:=⟨_,rfl⟩
    rw [hu0] at y1 HC
    rw [hu1] at y2 HC
    rw [hu2] at y3 HC
    rw [hu3] at y4 HC
    rw [hu4] at y5 HC
    clear hu0 hu1 hu2 hu3 hu4
    have hm0:(0:Int)≤(m:Int):=by omega
    have hm1:(m:Int)<(k:Int):=by omega
    have c0:wr.cell? ⟨b5,0,none⟩=some (.int .i64 (N:Int)):=zh hG.out 0 rfl
    have c1:wr.cell? ⟨b5,1,none⟩=some (.int .i64 (yQ N word m 0:Int)):=zh hG.out 1 rfl
    have c2:wr.cell? ⟨b5,2,none⟩=some (.int .i64 (yQ N word m 1:Int)):=zh hG.out 2 rfl
    have c3:wr.cell? ⟨b5,3,none⟩=some (.int .i64 (yQ N word m 2:Int)):=zh hG.out 3 rfl
    have c4:wr.cell? ⟨b5,4,none⟩=some (.int .i64 (yQ N word m 3:Int)):=zh hG.out 4 rfl
    have c5:wr.cell? ⟨b5,5,none⟩=some (.int .i64 (yQ N word m 4:Int)):=zh hG.out 5 rfl
    clear a1 hg hNX hr a2 y6
    go_upto_region 5 with fail
    refine zz [(0,true),(1,true),(2,true),(3,true),(4,true),(5,true),(6,false),(7,false)] (fun X=>X=wr.drew) (by kernel_rfl) (by kernel_rfl) rfl ?_
    repeat
     apply zM rfl
     · rintro K' hK' X rfl
       go_simp
       exact hK'
    refine yM rfl (by kernel_rfl) ?_
    intro K' hK'
    go_simp
    refine HC.out.mono ?_
    rintro e w6 ⟨rfl,hb6⟩
    have hb6:Below wr.heap.size wr w6:=(Below.refl _ wr).drew.trans hb6
    have hG6:=(hb6.block b5 (by have:=hW.out.size;have:=HS3.out;omega)).trans hG.out
    unfold gC at hG6
    obtain ⟨WF,hWF,f1,f2,f3,f4⟩:=set6 hG6 (.int .i64 (N:Int)) (.int .i64 (yQ N word (m+1) 0:Int)) (.int .i64 (yQ N word (m+1) 1:Int)) (.int .i64 (yQ N word (m+1) 2:Int)) (.int .i64 (yQ N word (m+1) 3:Int)) (.int .i64 (yQ N word (m+1) 4:Int))
    have g0:=zi hG6 0
    have g1:=zi hG6 1
    have g2:=zi hG6 2
    have g3:=zi hG6 3
    have g4:=zi hG6 4
    have g5:=zi hG6 5
    have k0:=zh hG6 0 rfl
    have k1:=zh hG6 1 rfl
    have k2:=zh hG6 2 rfl
    have k3:=zh hG6 3 rfl
    have k4:=zh hG6 4 rfl
    have k5:=zh hG6 5 rfl
    have lz:=zj hG6
    have HWF:=zH hWF
    have HST:Hid (WF.heap[b5]?=some (.cells (gC N (yQ N word (m+1))) 62 (0,0))):=f1
    have HWn:Hid (Wrote (fun z=>z=b5) w3 WF):=hW.out.trans ⟨(f3 b5 (Nat.le_refl _)).os.trans hb6.os,(f3 b5 (Nat.le_refl _)).tape.trans hb6.tape,(f3 b5 (Nat.le_refl _)).output.trans hb6.output,by have:=hb6.size;omega,fun z hz hne=>(f2 z hne).trans (hb6.block z hz)⟩ (fun _ _ h=>h)
    clear hWF f1 f2 f3 f4 hG6
    refine hK' (fun _=>True) _ _ trivial ?_
    clear hK' K' HC hb6 c0 c1 c2 c3 c4 c5 y0 y1 y2 y3 y4 y5
    refine zC rfl ?_
    intro K' hK'
    go_simp
    rw [HWF.out]
    refine hK' _ _ trivial ?_
    refine zT ?_
    clear hK' K' g0 g1 g2 g3 g4 g5 k0 k1 k2 k3 k4 k5 lz HWF hG hW
    go_wp2_with fail
    go_roundw
    case rel=>exact ⟨m+1,by omega,by go_num,HST,HWn⟩
    case measure=>simp [intOf];omega
  · obtain rfl:m=k:=by omega
    have hkk:¬(m:Int)<(m:Int):=by omega
    have HGN:=hG
    have HD:=zH ((hW.out.block w.heap.size (by have:=HS3.out;omega) (by show ¬w.heap.size=b5;omega)).trans HD3.out)
    clear hG hW
    have c0:wr.cell? ⟨b5,0,none⟩=some (.int .i64 (N:Int)):=zh HGN.out 0 rfl
    have c1:wr.cell? ⟨b5,1,none⟩=some (.int .i64 (yQ N word m 0:Int)):=zh HGN.out 1 rfl
    have c2:wr.cell? ⟨b5,2,none⟩=some (.int .i64 (yQ N word m 1:Int)):=zh HGN.out 2 rfl
    have c3:wr.cell? ⟨b5,3,none⟩=some (.int .i64 (yQ N word m 2:Int)):=zh HGN.out 3 rfl
    have c4:wr.cell? ⟨b5,4,none⟩=some (.int .i64 (yQ N word m 3:Int)):=zh HGN.out 4 rfl
    have c5:wr.cell? ⟨b5,5,none⟩=some (.int .i64 (yQ N word m 4:Int)):=zh HGN.out 5 rfl
    have y0:=zh HD.out 0 rfl
    have y1:=zh HD.out 1 rfl
    have y2:=zh HD.out 2 rfl
    have y3:=zh HD.out 3 rfl
    have y4:=zh HD.out 4 rfl
    have y5:=zh HD.out 5 rfl
    have g0:=zi HD.out 0
    have g1:=zi HD.out 1
    have g2:=zi HD.out 2
    have g3:=zi HD.out 3
    have g4:=zi HD.out 4
    have g5:=zi HD.out 5
    have lz:=zj HD.out
    obtain ⟨WF,hWF,f1,f2,f3,f4⟩:=set6 HD.out (.int .i64 (N:Int)) (.int .i64 (yQ N word m 0:Int)) (.int .i64 (yQ N word m 1:Int)) (.int .i64 (yQ N word m 2:Int)) (.int .i64 (yQ N word m 3:Int)) (.int .i64 (yQ N word m 4:Int))
    have HWF:=zH hWF
    have HF1:=zH f1
    have HBF:=zH (HBW.out.trans (f3 _ (Nat.le_refl _)))
    clear hWF f1 f2 f3 f4
    go_wp2_with fail
    rw [HWF.out]
    have z0:=zh HF1.out 0 rfl
    have z1:=zh HF1.out 1 rfl
    have z2:=zh HF1.out 2 rfl
    have z3:=zh HF1.out 3 rfl
    have z4:=zh HF1.out 4 rfl
    have z5:=zh HF1.out 5 rfl
    (try simp only [Exit.inBlock,Exit.then])
    refine bodyPost_ret (results_cell_row (P:=Tryz.prog) rfl _ _ w.heap.size 62 _ (0,0) _ rfl HF1.out Tryz.underlying62 rfl (by kernel_rfl)) rfl ?_
    exact ⟨rfl,HBF.out⟩
end
section
open Go.RowKit
attribute [local go_sem] Oper.semAt_some
set_option maxRecDepth 100000 in
theorem law_phears (p:Pb) (hl:wn p) (A:Option Addr) (kc:Nat) (SV:Option Addr) (ks:Nat) (ma mb:Nat) (hma:ma<256) (hmb:mb<256) (w:World) (hA:CAt w w.heap.size A p.t.cases) (hS:SAt w w.heap.size SV p.a.sts) :
  Calls Tryz.prog 4 #[.agg (p.vs A kc SV ks),.int .u8 (ma:Int),.int .u8 (mb:Int)] w fun e w'=>e=.returned (.bool true)∧Below w.heap.size w w':=by
 obtain ⟨w1,hw1,d0,hs1,hB1⟩:=zm w (p.vs A kc SV ks) 29
 have HS6:=zH (uz p hl A kc SV ks w1 ((hA.keep hB1).more hB1.size) ((hS.keep hB1).more hB1.size))
 have HFS:=zH (fun (h:xE p=true)=>Xb h)
 have HLW:Hid (xE p=true→LowS (zx p)):=fun h=>by
  obtain ⟨hbE,_,hf,_⟩:=kI h
  have:=ji hl hf
  rwa [hbE] at this
 have HBb:=zH hB1
 unfold Pb.vs at hw1 d0 HS6 ⊢
 have HW1:=zH hw1
 have HD0:=zH d0
 have p0:=zh (d0) 0 rfl
 have p1:=zh (d0) 1 rfl
 have p2:=zh (d0) 2 rfl
 have p3:=zh (d0) 3 rfl
 have p4:=zh (d0) 4 rfl
 have p5:=zh (d0) 5 rfl
 have p6:=zh (d0) 6 rfl
 clear hw1 d0 hB1 hA hS hs1 hl
 go_enter Tryz.func4,Tryz.ntmps4
 go_wp2_with fail
 rw [HW1.out]
 go_wp2_with fail
 refine HS6.out.mono ?_
 rintro e w2 ⟨hb2,hcase⟩
 have B2:=zH (HBb.out.trans (hb2.mono HBb.out.size))
 have hs2:=hb2.size
 have HD2:=zH ((hb2.block _ (zj HD0.out)).trans HD0.out)
 clear hb2 HS6 HW1 HBb HD0 p0 p1 p2 p3 p4 p5 p6
 rcases hcase with ⟨_,rfl⟩ | ⟨hr,A2,kc2,SV2,ks2,AV,kv,AX,kx,rfl,hSY,hXC⟩
 · clear HFS HLW HD2
   go_upto_region 2 with fail
   obtain ⟨WF,hWF,dz,hsF,hBa2⟩:=zm w2 #[.int .i64 0,.int .i64 0,.int .i64 0,.slice none 0 0,.int .i64 0,.slice none 0 0,.int .i64 0,.int .i64 0,.slice none 0 0,.slice none 0 0] 35
   rw [hWF]
   clear hWF dz
   go_wp2_with fail
   refine (xe WF).mono ?_
   rintro e v3 ⟨rfl,hb3⟩
   have B3:=zH (B2.out.trans ((hBa2.trans (hb3.mono (by omega))).mono B2.out.size))
   clear hb3 hBa2
   go_wp2_with fail
   go_ret
   exact ⟨rfl,B3.out⟩
 obtain ⟨K,N,hF,hSe,hTn,hpk,hN1,hN3,hK6,hfx,hvE,hpn,hM60,hn7⟩:=HFS.out hr
 have HR:=zH hr
 have HLO:=zH (HLW.out hr)
 have HFi:=zH hF
 have HSe:=zH hSe
 have hpk2:(zx p).p.k=(K:Int):=hpk
 rw [hpk] at HD2
 have HPK:=zH hpk
 clear hF hSe HFS HLW hr
 have hqN:=Nat.mod_lt ma (show 0<N by omega)
 have hoN:=Nat.mod_lt mb (show 0<N by omega)
 have htq:Int.tmod (ma:Int) (N:Int)=((ma % N:Nat):Int):=(Int.ofNat_tmod ma N).symm
 have hto:Int.tmod (mb:Int) (N:Int)=((mb % N:Nat):Int):=(Int.ofNat_tmod mb N).symm
 obtain ⟨q,hq⟩:∃q,ma % N=q:=⟨_,rfl⟩
 obtain ⟨o,ho⟩:∃o,mb % N=o:=⟨_,rfl⟩
 rw [hq] at hqN htq
 rw [ho] at hoN hto
 have hHF:=zH (fun (i:Nat) (hi:i<(zx p).xs.length) (k:Nat) (hk:k≤K)=>Jm HFi.out HSe.out (wZ p) q o hqN hoN i hi k hk)
 have HWD:=zH HFi.out.word
 have HCE:Hid (jD (zx p) [] 0 (hrF q o)=(qr (zx p) [] (hrF q o).h,0)):=hrF_atm hTn hvE hN3 hqN hoN
 have hcq:IntKind.i64.wrap (ma:Int)=(ma:Int):=by rw [IntKind.wrap_i64];omega
 have hco:IntKind.i64.wrap (mb:Int)=(mb:Int):=by rw [IntKind.wrap_i64];omega
 have hN0:¬(N:Int)=0:=by omega
 have hN00:¬N=0:=by omega
 have HLL:Hid ((qr (zx p) [] (hrF q o).h).length=ptn (zx p)):=by
  rw [Hid,YH,hpn,hpk2,Int.toNat_natCast]
 obtain ⟨T,hT⟩:∃T,zx p=T:=⟨_,rfl⟩
 rw [hT] at hTn hpk2 hfx hvE hpn hM60 hn7 HLO hSY hXC HCE HLL hHF HWD ⊢
 have C1:=zH (fun (X:World) (h:SyAt X X.heap.size A2 SV2 AV AX T)=>wj T HLO.out hfx [] 0 (hrF q o) (hrF_siz q o) A2 SV2 AV AX none none kc2 ks2 kv kx 0 0 X h (fun h0=>absurd h0 (by simp)) rfl)
 rw [HCE.out] at C1
 have C2:=zH (fun (word:List Rd) (hw:∀r∈word,yc r=0∧r.n=(N:Int)) (k:Nat) (hk:k≤word.length) (hk6:k≤6) (AW:Option Addr) (c:Nat) (X:World) (hR:RAt X X.heap.size AW word)=>rall15_any N hN1 (by omega) word hw k hk (by omega) AW c X hR)
 obtain ⟨L,hL⟩:∃L,qr T [] (hrF q o).h=L:=⟨_,rfl⟩
 rw [hL] at C1 hHF HLL
 unfold YK Sy.vs_ Fm.vs hrF at C1
 rw [hTn] at C1
 simp only [Fm.h,Fm.args,List.length_nil] at C1
 rw [HLL.out] at C1
 obtain ⟨n,hn⟩:∃n,ptn T=n:=⟨_,rfl⟩
 rw [hn] at hpn hn7 C1 HLL
 clear HCE HFi HSe HR hT hpk hpk2 hvE hfx hn HLO hL hq ho
 unfold Sy.vs_
 rw [hTn]
 go_upto_region 2 with fail
 obtain ⟨W3,hW3,d3,hs3,hb3⟩:=zm w2 #[.int .i64 T.p.t.n,.int .i64 T.p.t.ins,.int .i64 T.p.t.outs,.slice A2 T.p.t.cases.length kc2,.int .i64 T.p.a.n,.slice SV2 T.p.a.sts.length ks2,.int .i64 T.p.k,.int .i64 (N:Int),.slice AV T.vs.length kv,.slice AX T.xs.length kx] 35
 rw [hW3]
 have HDB:Hid (∀X,Below W3.heap.size W3 X→X.heap[w2.heap.size]?=some (.cells #[.int .i64 T.p.t.n,.int .i64 T.p.t.ins,.int .i64 T.p.t.outs,.slice A2 T.p.t.cases.length kc2,.int .i64 T.p.a.n,.slice SV2 T.p.a.sts.length ks2,.int .i64 T.p.k,.int .i64 (N:Int),.slice AV T.vs.length kv,.slice AX T.xs.length kx] 35 (0,0))∧X.heap[w.heap.size]?=some (.cells #[.int .i64 p.t.n,.int .i64 p.t.ins,.int .i64 p.t.outs,.slice A p.t.cases.length kc,.int .i64 p.a.n,.slice SV p.a.sts.length ks,.int .i64 (K:Int)] 29 (0,0))):=fun X hX=>⟨(hX.block _ (by omega)).trans d3,(hX.block _ (by have:=zj HD2.out;omega)).trans ((hb3.block _ (zj HD2.out)).trans HD2.out)⟩
 have HSB:Hid (∀X,Below W3.heap.size W3 X→SyAt X X.heap.size A2 SV2 AV AX T):=fun X hX=>(hSY.up hb3).up hX
 have HXC:Hid (∀X,Below W3.heap.size W3 X→XCap X AX T.xs):=fun X hX=>(hXC.up hSY.fx hb3).up (hSY.up hb3).fx hX
 have HB3:=zH (B2.out.trans (hb3.mono B2.out.size))
 have G3:Hid (Below W3.heap.size W3 W3):=Below.refl _ _
 have HS3:=zH hs3
 clear hW3 d3 hb3 hXC hSY hs3 B2 HD2 hs2
 obtain ⟨M,hM⟩:∃M,T.xs.length=M:=⟨_,rfl⟩
 rw [hM] at hpn hM60 C1 HDB ⊢
 have HM:=zH hM
 clear hM hTn
 have HPN:=zH hpn
 obtain ⟨nn,hnn⟩:∃nn,K+1=nn:=⟨_,rfl⟩
 rw [hnn] at hHF hpn
 have hwK:IntKind.i64.wrap ((K:Int)+1)=(nn:Int):=by rw [IntKind.wrap_i64];omega
 have hmul:(M:Int)*(nn:Int)=(n:Int):=by rw [hpn];push_cast;rfl
 have hwM:IntKind.i64.wrap (n:Int)=(n:Int):=by rw [IntKind.wrap_i64];omega
 have hnn7:1≤nn∧nn≤7:=by omega
 have HNN:=zH hnn
 have HP2:=zH hpn
 clear hpn hnn HPN
 go_upto_region 4 with fail
 refine zz [(0,true),(1,true),(2,true),(3,true),(4,true),(5,true),(6,true),(7,true),(8,true),(9,true),(10,true),(11,true),(12,true),(13,true)] (fun X=>X.heap[w2.heap.size]?=some (.cells #[.int .i64 T.p.t.n,.int .i64 T.p.t.ins,.int .i64 T.p.t.outs,.slice A2 T.p.t.cases.length kc2,.int .i64 T.p.a.n,.slice SV2 T.p.a.sts.length ks2,.int .i64 T.p.k,.int .i64 (N:Int),.slice AV T.vs.length kv,.slice AX M kx] 35 (0,0))∧X=W3.drew) (by kernel_rfl) (by kernel_rfl) ⟨(HDB.out _ G3.out.drew).1,rfl⟩ ?_
 repeat
  apply zM rfl
  · rintro K' hK' X u
    obtain ⟨u,rfl⟩:=u
    obtain ⟨p0,p1,p2,p3,p4,p5,p6,p7,p8,p9⟩:=zA (u)
    clear u
    go_simp
    exact hK'
 refine zT ?_
 have G3d:Hid (Below W3.heap.size W3 W3.drew):=G3.out.drew
 obtain ⟨D0,D1⟩:=HDB.out _ G3d.out
 obtain ⟨p0,p1,p2,p3,p4,p5,p6,p7,p8,p9⟩:=zA (D0)
 have r6:=zh D1 6 rfl
 clear D0 D1 htq hto hcq hco
 go_wp2_with fail
 refine (C1.out W3.drew (HSB.out _ G3d.out)).mono ?_
 rintro e w4 ⟨A4,c4,rfl,hI4,hb4⟩
 have G4:=zH (G3d.out.trans (hb4.mono G3d.out.size))
 have HI4:Hid (∀X,Below w4.heap.size w4 X→BAt X X.heap.size A4 L):=fun X hX=>(hI4.keep hX).more hX.size
 have F4:Hid (Below w4.heap.size w4 w4):=Below.refl _ _
 clear hI4 hb4 C1 p0 p1 p2 p3 p4 p5 p6 p7 p8 p9 r6
 obtain ⟨D0,D1⟩:=HDB.out _ G4.out
 obtain ⟨p0,p1,p2,p3,p4,p5,p6,p7,p8,p9⟩:=zA (D0)
 have r6:=zh D1 6 rfl
 clear D0 D1
 go_wp2_with fail
 go_loopw [64] (fun i wr=>∃x:Nat,x≤M∧i=.int .i64 (x:Int)∧Hid (Below w4.heap.size w4 wr)) (fun i _=>M-(intOf i).toNat)
 case atStart=>exact ⟨0,by omega,rfl,F4⟩
 case round=>
  obtain ⟨x,hx,rfl,F5⟩:=hrel
  clear p0 p1 p2 p3 p4 p5 p6 p7 p8 p9 r6
  by_cases hxl:x<M
  · have hx0:(0:Int)≤(x:Int):=by omega
    have hx1:(x:Int)<(M:Int):=by omega
    have G5:=zH (G4.out.trans (F5.out.mono G4.out.size))
    obtain ⟨bX,oX,A5,c5,A6,c6,eX,hbX,x0,x1,x2,hRW,_⟩:=(HSB.out _ G5.out).fx.row x (by rw [HM.out];exact hxl)
    have hXc:=HXC.out _ G5.out bX oX none eX x (by rw [HM.out];exact hxl) _ _ _ x1
    have hHx:=zH (hHF.out x (by rw [HM.out];exact hxl))
    obtain ⟨hWl,hWr⟩:=HWD.out _ (List.getElem_mem (by rw [HM.out];exact hxl:x<T.xs.length))
    have HRW:=zH hRW
    obtain ⟨xx,hxx⟩:∃xx,T.xs[x]'(by rw [HM.out];exact hxl)=xx:=⟨_,rfl⟩
    rw [hxx] at x0 x1 x2 HRW hXc hWl hWr hHx
    have HWR:=zH hWr
    subst eX
    rw [hWl] at x1 hXc
    have HWL:=zH hWl
    clear hxx hRW hWr hWl
    have hmx:(x:Int)*(nn:Int)=((x*nn:Nat):Int):=by push_cast;rfl
    have hxn:(x+1)*nn≤n:=by rw [HP2.out];exact Nat.mul_le_mul_right _ hxl
    rw [Nat.succ_mul] at hxn
    obtain ⟨a,ha⟩:∃a,x*nn=a:=⟨_,rfl⟩
    rw [ha] at hmx hxn hHx
    have hwx:IntKind.i64.wrap (a:Int)=(a:Int):=by rw [IntKind.wrap_i64];omega
    clear ha
    go_upto_region 12 with fail
    obtain ⟨W6,hW6,d6,hs6,hb6⟩:=zm wr #[.int .i64 xx.c,.slice A5 K c5,.slice A6 xx.views.length c6] 59
    have G6:=zH (G5.out.trans (hb6.mono G5.out.size))
    have F6:=zH (F5.out.trans (hb6.mono F5.out.size))
    have HXB:Hid (∀X,Below W6.heap.size W6 X→X.heap[wr.heap.size]?=some (.cells #[.int .i64 xx.c,.slice A5 K c5,.slice A6 xx.views.length c6] 59 (0,0))):=fun X hX=>(hX.block _ (by omega)).trans d6
    have HRW6:Hid (∀X,Below W6.heap.size W6 X→RAt X X.heap.size A5 xx.word):=fun X hX=>(((HRW.out.keep hb6).more hb6.size).keep hX).more hX.size
    have hs56:=hb6.size
    have hG5s:=G5.out.size
    have hF5s:=F5.out.size
    have E6:Hid (Below W6.heap.size W6 W6):=Below.refl _ _
    rw [hW6]
    clear hW6 d6 hb6 x0 x1 x2 HRW
    go_wp2_with fail
    obtain ⟨bE,hbE⟩:∃y,y=wr.heap.size:=⟨_,rfl⟩
    rw [←hbE] at HXB ⊢
    have hbE2:bE<W6.heap.size:=by omega
    clear hbE
    go_loopw [70] (fun i wr=>∃k:Nat,k≤nn∧i=.int .i64 (k:Int)∧Hid (Below W6.heap.size W6 wr)) (fun i _=>nn-(intOf i).toNat)
    case atStart=>exact ⟨0,by omega,rfl,E6⟩
    case round=>
     obtain ⟨k,hk,rfl,E7⟩:=hrel
     by_cases hkl:k<nn
     · have hk0:(0:Int)≤(k:Int):=by omega
       have hk1:(k:Int)<(nn:Int):=by omega
       have hkc:(k:Int)≤(c5:Int):=by have:=HNN.out;omega
       have hkc2:k≤c5:=by omega
       have G7:=zH (G6.out.trans (E7.out.mono G6.out.size))
       have F7:=zH (F6.out.trans (E7.out.mono F6.out.size))
       have hE7:=E7.out.size
       obtain ⟨h1,h2⟩:=hHx.out k (by have:=HNN.out;omega)
       have hLn:=HLL.out
       rw [zD (by omega)] at h1
       obtain ⟨b4,o4,rfl,hb4,z1⟩:=(HI4.out _ F7.out).at_ (a+k) (by omega)
       obtain ⟨b4',o4',e4,_,z2⟩:=(HI4.out _ F7.out).at_ a (by omega)
       cases e4
       obtain ⟨y,hy⟩:∃y,L[a+k]'(by omega)=y:=⟨_,rfl⟩
       rw [hy] at z1 h1
       have E2:=zH (C2.out xx.word HWR.out k (by have:=HWL.out;have:=HNN.out;omega) (by omega) A5 c5)
       have hf32:=Qm (show N≤5 by omega) xx.word k
       obtain ⟨f,hf⟩:∃f,yQ N xx.word k=f:=⟨_,rfl⟩
       rw [hf] at h1 h2 E2 hf32
       unfold gC at E2
       have hb1:=jk (hf32 q) (show o<5 by omega)
       rw [←h1] at hb1
       have hq0:(0:Int)≤(q:Int):=by omega
       have hq5:(q:Int)<5:=by omega
       have ho0:(0:Int)≤(o:Int):=by omega
       have hmo:min o 64=o:=by omega
       have hfq:(0:Int)≤(f q:Int):=by omega
       obtain ⟨z,hz⟩:∃z,a+k=z:=⟨_,rfl⟩
       rw [hz] at z1
       have hwz:IntKind.i64.wrap ((a:Int)+(k:Int))=(z:Int):=by rw [IntKind.wrap_i64];omega
       have hz0:(0:Int)≤(z:Int):=by omega
       have hz1:(z:Int)<(n:Int):=by omega
       have ha0:(0:Int)≤(a:Int):=by omega
       have ha1:(a:Int)<(n:Int):=by omega
       have HCELL:Hid (∀X,Below wr.heap.size wr X→X.cell? ⟨w2.heap.size,7,none⟩=some (.int .i64 (N:Int))∧X.cell? ⟨bE,1,none⟩=some (.slice A5 K c5)∧X.cell? ⟨b4,o4+z,none⟩=some (.bool y)∧X.cell? ⟨b4,o4+a,none⟩=some (.bool (L[a]'(by omega)))):=fun X hX=>
        ⟨zh (HDB.out X (G7.out.trans (hX.mono G7.out.size))).1 7 rfl,zh (HXB.out X (E7.out.trans (hX.mono E7.out.size))) 1 rfl,(hX.cell (p:=⟨b4,o4+z,none⟩) hb4).trans z1,(hX.cell (p:=⟨b4,o4+a,none⟩) hb4).trans z2⟩
       have HEND:Hid (∀X,Below wr.heap.size wr X→Hid (Below W6.heap.size W6 X)):=fun X hX=>E7.out.trans (hX.mono E7.out.size)
       have HRWX:Hid (∀X,Below wr.heap.size wr X→RAt X X.heap.size A5 xx.word):=fun X hX=>HRW6.out X (E7.out.trans (hX.mono E7.out.size))
       by_cases hk00:k=0
       · subst hk00
         have hqo:=h2 rfl
         rw [←h1] at hqo
         have hqe:((q:Int)==(o:Int))=y:=by
          rw [hqo]
          by_cases e:q=o
          · subst e;simp
          · rw [decide_eq_false e];simp;omega
         have hza:z=a:=by omega
         subst hza
         have hy0:L[z]'(by omega)=y:=hy
         rw [hy0] at HCELL
         clear h2 z1 z2 hy hHx hqo hy0
         go_upto_region 15 with fail
         refine zz [(0,true),(1,true),(2,true),(3,true),(4,true),(5,true),(6,true),(7,true),(8,true),(9,true),(10,true),(11,true),(12,true),(13,true),(14,true),(17,true),(19,true),(15,false),(16,true),(18,true),(20,true),(21,true),(22,true),(23,true),(24,true),(25,true),(26,true),(27,true),(28,true),(29,true),(30,true),(31,true),(32,true),(33,true),(34,true),(35,true),(36,true),(37,true),(38,true),(39,true)] (fun X=>Below wr.heap.size wr X) (by kernel_rfl) (by kernel_rfl) (Below.refl _ wr).drew ?_
         repeat
          apply zM rfl
          · rintro K' hK' X u
            obtain ⟨c1,c2,c3,c4⟩:=HCELL.out X u
            have hix:=uS f q (by omega) X
            have hfd:=uX (N:Int) (f 0:Int) (f 1:Int) (f 2:Int) (f 3:Int) (f 4:Int) X
            clear u
            go_simp
            exact hK'
         refine zC rfl ?_
         intro K' hK'
         go_simp
         refine (E2.out wr.drew (HRWX.out _ (Below.refl _ wr).drew)).mono ?_
         rintro e v7 ⟨rfl,hb7⟩
         have HB7:=zH ((Below.refl wr.heap.size wr).drew.trans hb7)
         refine hK' _ _ HB7.out ?_
         clear hK' K' hb7
         repeat
          apply zM rfl
          · rintro K' hK' X u
            obtain ⟨c1,c2,c3,c4⟩:=HCELL.out X u
            have hix:=uS f q (by omega) X
            have hfd:=uX (N:Int) (f 0:Int) (f 1:Int) (f 2:Int) (f 3:Int) (f 4:Int) X
            clear u
            go_simp
            exact hK'
         refine zT ?_
         clear HRWX HCELL E2
         go_wp2_with fail
         go_roundw
         case rel=>exact ⟨0+1,by omega,by go_num,HEND.out _ HB7.out⟩
         case measure=>simp [intOf];omega
       · have e0:((k:Int)==0)=false:=by simp;omega
         clear h2 z1 z2 hy hHx
         go_upto_region 15 with fail
         refine zz [(0,true),(1,true),(2,true),(3,true),(4,true),(5,true),(6,true),(7,true),(8,true),(9,true),(10,true),(11,true),(12,true),(13,true),(14,true),(17,true),(19,true),(15,false),(16,true),(18,true),(20,true),(21,true),(22,true),(23,true),(24,true),(25,true),(26,true),(27,true),(28,true),(29,true),(30,true),(31,true),(32,true),(33,true),(34,true),(35,true),(36,true),(37,true),(38,true),(39,true)] (fun X=>Below wr.heap.size wr X) (by kernel_rfl) (by kernel_rfl) (Below.refl _ wr).drew ?_
         repeat
          apply zM rfl
          · rintro K' hK' X u
            obtain ⟨c1,c2,c3,c4⟩:=HCELL.out X u
            have hix:=uS f q (by omega) X
            have hfd:=uX (N:Int) (f 0:Int) (f 1:Int) (f 2:Int) (f 3:Int) (f 4:Int) X
            clear u
            go_simp
            exact hK'
         refine zC rfl ?_
         intro K' hK'
         go_simp
         refine (E2.out wr.drew (HRWX.out _ (Below.refl _ wr).drew)).mono ?_
         rintro e v7 ⟨rfl,hb7⟩
         have HB7:=zH ((Below.refl wr.heap.size wr).drew.trans hb7)
         refine hK' _ _ HB7.out ?_
         clear hK' K' hb7
         repeat
          apply zM rfl
          · rintro K' hK' X u
            obtain ⟨c1,c2,c3,c4⟩:=HCELL.out X u
            have hix:=uS f q (by omega) X
            have hfd:=uX (N:Int) (f 0:Int) (f 1:Int) (f 2:Int) (f 3:Int) (f 4:Int) X
            clear u
            go_simp
            exact hK'
         refine zT ?_
         clear HRWX HCELL E2
         go_wp2_with fail
         go_roundw
         case rel=>exact ⟨k+1,by omega,by go_num,HEND.out _ HB7.out⟩
         case measure=>simp [intOf];omega
     · obtain rfl:k=nn:=by omega
       have G8:=zH (F6.out.trans (E7.out.mono F6.out.size))
       go_wp2_with fail
       go_roundw
       case rel=>exact ⟨x+1,by omega,by go_num,G8⟩
       case measure=>simp [intOf];omega
  · obtain rfl:x=M:=by omega
    have G9:=zH (G4.out.trans (F5.out.mono G4.out.size))
    clear HI4 F5
    go_wp2_with fail
    refine (xe wr).mono ?_
    rintro e v9 ⟨rfl,hb9⟩
    have HF:=zH (HB3.out.trans ((G9.out.trans (hb9.mono G9.out.size)).mono HB3.out.size))
    clear hb9
    go_wp2_with fail
    go_ret
    exact ⟨rfl,HF.out⟩
end
end Go.Proofs.YtiookelkkekbeaaGreat
