/- Parts FmlB FmlC AtmA AtmB AtmC CmnH AtmD AtmE Aw36. -/
import Derived.Test.YtiookelkkekbeaaGreatProg
import Derived.Test.YtiookelkkekbeaaGreatPg
import Derived.Test.YtiookelkkekbeaaGreatPa
import Derived.Deep.RegionHeld3
import Derived.Test.YtiookelkkekbeaaGreatPc
import Derived.Deep.CutBlock
import Derived.Laws.EntriesVeiled
import Derived.Deep.Cut
import Derived.Test.YtiookelkkekbeaaGreatPf
import Derived.Test.YtiookelkkekbeaaGreatPe
import Derived.Test.YtiookelkkekbeaaGreatPb
import Derived.Carry

namespace Go.Proofs.YtiookelkkekbeaaGreat
set_option maxHeartbeats 4000000
section
open Go.RowKit Go.Shelf
attribute [local go_sem] Oper.semAt_some
def qp (op:Int):List Nat:=if op=1∨op=5 then [1,3] else if op=2 then [3] else if op=3 then [1,2] else if op=4∨op=10 then [1] else if op=6 then [3] else if op=11∨op=12∨op=13 then [4] else []
def Jr (n:Nat) (op:Int):List Int:=if op=1∨op=5 then [(n:Int)-1,7] else if op=2 then [7] else if op=3 then [(n:Int)-1,(n:Int)-1] else if op=4∨op=10 then [(n:Int)-1] else if op=6 then [6] else if op=11∨op=12∨op=13 then [(2:Int)^n-1] else []
def kF (os:List Nat) (ms:List Int) (b:Nat) (w:World) (e:Ending) (w':World):Prop:=
 ∃A1 A2,e=.returned (.tuple #[.slice A1 os.length os.length,.slice A2 os.length os.length])∧Below w.heap.size w w' ∧
  ∀k (h:k<os.length),∃g1 g2,A1=some ⟨g1,0,none⟩∧A2=some ⟨g2,0,none⟩∧w.heap.size≤g1∧w.heap.size≤g2∧g1<w'.heap.size∧g2<w'.heap.size∧w'.cell? ⟨g1,k,none⟩=some (.pointer (some ⟨b,os[k],none⟩))∧w'.cell? ⟨g2,k,none⟩=some (.int .i64 (ms.getD k 0))
theorem vr {w w':World} {b:Nat} {o1 o2:Nat} {m1 m2:Int} {t1 t2:TypeId} {g1 g2:Nat} (hb:Below w.heap.size w w') (h1:w.heap.size≤g1) (h2:w.heap.size≤g2)
  (d1:w'.heap[g1]?=some (.cells #[.pointer (some ⟨b,o1,none⟩),.pointer (some ⟨b,o2,none⟩)] t1 (0,0))) (d2:w'.heap[g2]?=some (.cells #[.int .i64 m1,.int .i64 m2] t2 (0,0))) :
  kF [o1,o2] [m1,m2] b w (.returned (.tuple #[.slice (some ⟨g1,0,none⟩) 2 2,.slice (some ⟨g2,0,none⟩) 2 2])) w':=by
 refine ⟨_,_,rfl,hb,fun k hk=>⟨g1,g2,rfl,rfl,h1,h2,zj d1,zj d2,?_⟩⟩
 have hk2:k<2:=hk
 obtain rfl | rfl:k=0∨k=1:=by omega
 · exact ⟨zh d1 0 rfl,zh d2 0 rfl⟩
 · exact ⟨zh d1 1 rfl,zh d2 1 rfl⟩
theorem qF {w w':World} {b:Nat} {o1:Nat} {m1:Int} {t1 t2:TypeId} {g1 g2:Nat} (hb:Below w.heap.size w w') (h1:w.heap.size≤g1) (h2:w.heap.size≤g2)
  (d1:w'.heap[g1]?=some (.cells #[.pointer (some ⟨b,o1,none⟩)] t1 (0,0))) (d2:w'.heap[g2]?=some (.cells #[.int .i64 m1] t2 (0,0))) :
  kF [o1] [m1] b w (.returned (.tuple #[.slice (some ⟨g1,0,none⟩) 1 1,.slice (some ⟨g2,0,none⟩) 1 1])) w':=by
 refine ⟨_,_,rfl,hb,fun k hk=>⟨g1,g2,rfl,rfl,h1,h2,zj d1,zj d2,?_⟩⟩
 have hk2:k<1:=hk
 obtain rfl:k=0:=by omega
 exact ⟨zh d1 0 rfl,zh d2 0 rfl⟩
theorem jy (n:Nat) (hn:n≤5) (w:World):Calls Tryz.prog 138 #[.int .i64 (n:Int)] w fun e w'=>e=.returned (.int .i64 ((2:Int)^n-1))∧w'=w:=by
 obtain rfl | rfl | rfl | rfl | rfl | rfl:n=0∨n=1∨n=2∨n=3∨n=4∨n=5:=by omega
 all_goals
  go_enter Tryz.func138,Tryz.ntmps138
  go_wp2
  go_ret
  exact ⟨rfl,rfl⟩
theorem xk (w:World) (c1 c2:Array Value) (t1 t2:TypeId):(((w.alloc (.cells c1 t1)).alloc (.cells c2 t2)).heap[w.heap.size]?=some (.cells c1 t1 (0,0)))∧(((w.alloc (.cells c1 t1)).alloc (.cells c2 t2)).heap[w.heap.size+1]?=some (.cells c2 t2 (0,0)))∧Below w.heap.size w ((w.alloc (.cells c1 t1)).alloc (.cells c2 t2)):=by
 obtain ⟨W,h,h1,h2,_,h3⟩:=yD w c1 c2 t1 t2
 rw [h];exact ⟨h1,h2,h3⟩
set_option maxRecDepth 100000 in
theorem fields_1 (h:Fh) (A:Option Addr) (len c n:Nat) (hn:n≤5) (b:Nat) (w:World) (hb:w.heap[b]?=some (.cells #[.int .i64 h.op,.int .i64 h.p,.int .i64 h.o,.int .i64 h.v,.int .i64 h.g,.slice A len c] 41 (0,0))) (ho:h.op=1) :
  Calls Tryz.prog 122 #[.pointer (some ⟨b,0,none⟩),.int .i64 (n:Int)] w (kF [1,3] [(n:Int)-1,7] b w):=by
 have p0:=zh hb 0 rfl
 have hbl:=zj hb
 rw [ho] at p0
 have hw1:IntKind.i64.wrap ((n:Int)-1)=(n:Int)-1:=by rw [IntKind.wrap_i64];omega
 clear hb ho
 go_enter Tryz.func122,Tryz.ntmps122
 go_wp2_with fail
 have hTT:(fun _:World=>True) w:=trivial
 go_region_held3 (fun _=>True) (exact trivial) (fail)
 all_goals
  go_wp2_with fail
  go_ret2
 all_goals
  first
  | (obtain ⟨H1, H2, H3⟩ := xk w #[.pointer (some ⟨b, 1, none⟩), .pointer (some ⟨b, 3, none⟩)] #[.int .i64 ((n : Int) - 1), .int .i64 (7)] 188 3
     exact vr H3.drew (by omega) (by omega) H1 H2)
  | (obtain ⟨H1, H2, H3⟩ := xk w #[.int .i64 ((n : Int) - 1), .int .i64 (7)] #[.pointer (some ⟨b, 1, none⟩), .pointer (some ⟨b, 3, none⟩)] 3 188
     exact vr H3.drew (by omega) (by omega) H2 H1)
set_option maxRecDepth 100000 in
theorem fields_5 (h:Fh) (A:Option Addr) (len c n:Nat) (hn:n≤5) (b:Nat) (w:World) (hb:w.heap[b]?=some (.cells #[.int .i64 h.op,.int .i64 h.p,.int .i64 h.o,.int .i64 h.v,.int .i64 h.g,.slice A len c] 41 (0,0))) (ho:h.op=5) :
  Calls Tryz.prog 122 #[.pointer (some ⟨b,0,none⟩),.int .i64 (n:Int)] w (kF [1,3] [(n:Int)-1,7] b w):=by
 have p0:=zh hb 0 rfl
 have hbl:=zj hb
 rw [ho] at p0
 have hw1:IntKind.i64.wrap ((n:Int)-1)=(n:Int)-1:=by rw [IntKind.wrap_i64];omega
 clear hb ho
 go_enter Tryz.func122,Tryz.ntmps122
 go_wp2_with fail
 have hTT:(fun _:World=>True) w:=trivial
 go_region_held3 (fun _=>True) (exact trivial) (fail)
 all_goals
  go_wp2_with fail
  go_ret2
 all_goals
  first
  | (obtain ⟨H1, H2, H3⟩ := xk w #[.pointer (some ⟨b, 1, none⟩), .pointer (some ⟨b, 3, none⟩)] #[.int .i64 ((n : Int) - 1), .int .i64 (7)] 188 3
     exact vr H3.drew (by omega) (by omega) H1 H2)
  | (obtain ⟨H1, H2, H3⟩ := xk w #[.int .i64 ((n : Int) - 1), .int .i64 (7)] #[.pointer (some ⟨b, 1, none⟩), .pointer (some ⟨b, 3, none⟩)] 3 188
     exact vr H3.drew (by omega) (by omega) H2 H1)
set_option maxRecDepth 100000 in
theorem fields_2 (h:Fh) (A:Option Addr) (len c n:Nat) (hn:n≤5) (b:Nat) (w:World) (hb:w.heap[b]?=some (.cells #[.int .i64 h.op,.int .i64 h.p,.int .i64 h.o,.int .i64 h.v,.int .i64 h.g,.slice A len c] 41 (0,0))) (ho:h.op=2) :
  Calls Tryz.prog 122 #[.pointer (some ⟨b,0,none⟩),.int .i64 (n:Int)] w (kF [3] [7] b w):=by
 have p0:=zh hb 0 rfl
 have hbl:=zj hb
 rw [ho] at p0
 have hw1:IntKind.i64.wrap ((n:Int)-1)=(n:Int)-1:=by rw [IntKind.wrap_i64];omega
 clear hb ho
 go_enter Tryz.func122,Tryz.ntmps122
 go_wp2_with fail
 go_ret2
 obtain ⟨H1,H2,H3⟩:=xk w #[.pointer (some ⟨b,3,none⟩)] #[.int .i64 (7)] 188 3
 exact qF H3 (by omega) (by omega) H1 H2
set_option maxRecDepth 100000 in
theorem fields_3 (h:Fh) (A:Option Addr) (len c n:Nat) (hn:n≤5) (b:Nat) (w:World) (hb:w.heap[b]?=some (.cells #[.int .i64 h.op,.int .i64 h.p,.int .i64 h.o,.int .i64 h.v,.int .i64 h.g,.slice A len c] 41 (0,0))) (ho:h.op=3) :
  Calls Tryz.prog 122 #[.pointer (some ⟨b,0,none⟩),.int .i64 (n:Int)] w (kF [1,2] [(n:Int)-1,(n:Int)-1] b w):=by
 have p0:=zh hb 0 rfl
 have hbl:=zj hb
 rw [ho] at p0
 have hw1:IntKind.i64.wrap ((n:Int)-1)=(n:Int)-1:=by rw [IntKind.wrap_i64];omega
 clear hb ho
 go_enter Tryz.func122,Tryz.ntmps122
 go_wp2_with fail
 have hTT:(fun _:World=>True) w:=trivial
 go_region_held3 (fun _=>True) (exact trivial) (fail)
 all_goals
  go_wp2_with fail
  go_ret2
 all_goals
  first
  | (obtain ⟨H1, H2, H3⟩ := xk w #[.pointer (some ⟨b, 1, none⟩), .pointer (some ⟨b, 2, none⟩)] #[.int .i64 ((n : Int) - 1), .int .i64 ((n : Int) - 1)] 188 3
     exact vr H3.drew (by omega) (by omega) H1 H2)
  | (obtain ⟨H1, H2, H3⟩ := xk w #[.int .i64 ((n : Int) - 1), .int .i64 ((n : Int) - 1)] #[.pointer (some ⟨b, 1, none⟩), .pointer (some ⟨b, 2, none⟩)] 3 188
     exact vr H3.drew (by omega) (by omega) H2 H1)
set_option maxRecDepth 100000 in
theorem fields_4 (h:Fh) (A:Option Addr) (len c n:Nat) (hn:n≤5) (b:Nat) (w:World) (hb:w.heap[b]?=some (.cells #[.int .i64 h.op,.int .i64 h.p,.int .i64 h.o,.int .i64 h.v,.int .i64 h.g,.slice A len c] 41 (0,0))) (ho:h.op=4) :
  Calls Tryz.prog 122 #[.pointer (some ⟨b,0,none⟩),.int .i64 (n:Int)] w (kF [1] [(n:Int)-1] b w):=by
 have p0:=zh hb 0 rfl
 have hbl:=zj hb
 rw [ho] at p0
 have hw1:IntKind.i64.wrap ((n:Int)-1)=(n:Int)-1:=by rw [IntKind.wrap_i64];omega
 clear hb ho
 go_enter Tryz.func122,Tryz.ntmps122
 go_wp2_with fail
 go_ret2
 obtain ⟨H1,H2,H3⟩:=xk w #[.pointer (some ⟨b,1,none⟩)] #[.int .i64 ((n:Int)-1)] 188 3
 exact qF H3 (by omega) (by omega) H1 H2
set_option maxRecDepth 100000 in
theorem fields_10 (h:Fh) (A:Option Addr) (len c n:Nat) (hn:n≤5) (b:Nat) (w:World) (hb:w.heap[b]?=some (.cells #[.int .i64 h.op,.int .i64 h.p,.int .i64 h.o,.int .i64 h.v,.int .i64 h.g,.slice A len c] 41 (0,0))) (ho:h.op=10) :
  Calls Tryz.prog 122 #[.pointer (some ⟨b,0,none⟩),.int .i64 (n:Int)] w (kF [1] [(n:Int)-1] b w):=by
 have p0:=zh hb 0 rfl
 have hbl:=zj hb
 rw [ho] at p0
 have hw1:IntKind.i64.wrap ((n:Int)-1)=(n:Int)-1:=by rw [IntKind.wrap_i64];omega
 clear hb ho
 go_enter Tryz.func122,Tryz.ntmps122
 go_wp2_with fail
 go_ret2
 obtain ⟨H1,H2,H3⟩:=xk w #[.pointer (some ⟨b,1,none⟩)] #[.int .i64 ((n:Int)-1)] 188 3
 exact qF H3 (by omega) (by omega) H1 H2
set_option maxRecDepth 100000 in
theorem fields_6 (h:Fh) (A:Option Addr) (len c n:Nat) (hn:n≤5) (b:Nat) (w:World) (hb:w.heap[b]?=some (.cells #[.int .i64 h.op,.int .i64 h.p,.int .i64 h.o,.int .i64 h.v,.int .i64 h.g,.slice A len c] 41 (0,0))) (ho:h.op=6) :
  Calls Tryz.prog 122 #[.pointer (some ⟨b,0,none⟩),.int .i64 (n:Int)] w (kF [3] [6] b w):=by
 have p0:=zh hb 0 rfl
 have hbl:=zj hb
 rw [ho] at p0
 have hw1:IntKind.i64.wrap ((n:Int)-1)=(n:Int)-1:=by rw [IntKind.wrap_i64];omega
 clear hb ho
 go_enter Tryz.func122,Tryz.ntmps122
 go_wp2_with fail
 go_ret2
 obtain ⟨H1,H2,H3⟩:=xk w #[.pointer (some ⟨b,3,none⟩)] #[.int .i64 (6)] 188 3
 exact qF H3 (by omega) (by omega) H1 H2
set_option maxRecDepth 100000 in
theorem fields_11 (h:Fh) (A:Option Addr) (len c n:Nat) (hn:n≤5) (b:Nat) (w:World) (hb:w.heap[b]?=some (.cells #[.int .i64 h.op,.int .i64 h.p,.int .i64 h.o,.int .i64 h.v,.int .i64 h.g,.slice A len c] 41 (0,0))) (ho:h.op=11) :
  Calls Tryz.prog 122 #[.pointer (some ⟨b,0,none⟩),.int .i64 (n:Int)] w (kF [4] [(2:Int)^n-1] b w):=by
 have p0:=zh hb 0 rfl
 have hbl:=zj hb
 rw [ho] at p0
 have hw1:IntKind.i64.wrap ((n:Int)-1)=(n:Int)-1:=by rw [IntKind.wrap_i64];omega
 have HE:=zH (fun W=>jy n hn W)
 clear hb ho
 go_enter Tryz.func122,Tryz.ntmps122
 go_wp2_with fail
 have hTT:(fun _:World=>True) w:=trivial
 go_region_held3 (fun _=>True) (exact trivial) ((go_at_call 138;refine (HE.out _).mono ?_;rintro e w2 ⟨rfl,rfl⟩))
 all_goals
  go_wp2_with fail
  go_ret2
 all_goals
  first
  | (obtain ⟨H1, H2, H3⟩ := xk w #[.pointer (some ⟨b, 4, none⟩)] #[.int .i64 ((2 : Int) ^ n - 1)] 188 3
     exact qF H3.drew (by omega) (by omega) H1 H2)
  | (obtain ⟨H1, H2, H3⟩ := xk w #[.int .i64 ((2 : Int) ^ n - 1)] #[.pointer (some ⟨b, 4, none⟩)] 3 188
     exact qF H3.drew (by omega) (by omega) H2 H1)
set_option maxRecDepth 100000 in
theorem fields_12 (h:Fh) (A:Option Addr) (len c n:Nat) (hn:n≤5) (b:Nat) (w:World) (hb:w.heap[b]?=some (.cells #[.int .i64 h.op,.int .i64 h.p,.int .i64 h.o,.int .i64 h.v,.int .i64 h.g,.slice A len c] 41 (0,0))) (ho:h.op=12) :
  Calls Tryz.prog 122 #[.pointer (some ⟨b,0,none⟩),.int .i64 (n:Int)] w (kF [4] [(2:Int)^n-1] b w):=by
 have p0:=zh hb 0 rfl
 have hbl:=zj hb
 rw [ho] at p0
 have hw1:IntKind.i64.wrap ((n:Int)-1)=(n:Int)-1:=by rw [IntKind.wrap_i64];omega
 have HE:=zH (fun W=>jy n hn W)
 clear hb ho
 go_enter Tryz.func122,Tryz.ntmps122
 go_wp2_with fail
 have hTT:(fun _:World=>True) w:=trivial
 go_region_held3 (fun _=>True) (exact trivial) ((go_at_call 138;refine (HE.out _).mono ?_;rintro e w2 ⟨rfl,rfl⟩))
 all_goals
  go_wp2_with fail
  go_ret2
 all_goals
  first
  | (obtain ⟨H1, H2, H3⟩ := xk w #[.pointer (some ⟨b, 4, none⟩)] #[.int .i64 ((2 : Int) ^ n - 1)] 188 3
     exact qF H3.drew (by omega) (by omega) H1 H2)
  | (obtain ⟨H1, H2, H3⟩ := xk w #[.int .i64 ((2 : Int) ^ n - 1)] #[.pointer (some ⟨b, 4, none⟩)] 3 188
     exact qF H3.drew (by omega) (by omega) H2 H1)
set_option maxRecDepth 100000 in
theorem fields_13 (h:Fh) (A:Option Addr) (len c n:Nat) (hn:n≤5) (b:Nat) (w:World) (hb:w.heap[b]?=some (.cells #[.int .i64 h.op,.int .i64 h.p,.int .i64 h.o,.int .i64 h.v,.int .i64 h.g,.slice A len c] 41 (0,0))) (ho:h.op=13) :
  Calls Tryz.prog 122 #[.pointer (some ⟨b,0,none⟩),.int .i64 (n:Int)] w (kF [4] [(2:Int)^n-1] b w):=by
 have p0:=zh hb 0 rfl
 have hbl:=zj hb
 rw [ho] at p0
 have hw1:IntKind.i64.wrap ((n:Int)-1)=(n:Int)-1:=by rw [IntKind.wrap_i64];omega
 have HE:=zH (fun W=>jy n hn W)
 clear hb ho
 go_enter Tryz.func122,Tryz.ntmps122
 go_wp2_with fail
 have hTT:(fun _:World=>True) w:=trivial
 go_region_held3 (fun _=>True) (exact trivial) ((go_at_call 138;refine (HE.out _).mono ?_;rintro e w2 ⟨rfl,rfl⟩))
 all_goals
  go_wp2_with fail
  go_ret2
 all_goals
  first
  | (obtain ⟨H1, H2, H3⟩ := xk w #[.pointer (some ⟨b, 4, none⟩)] #[.int .i64 ((2 : Int) ^ n - 1)] 188 3
     exact qF H3.drew (by omega) (by omega) H1 H2)
  | (obtain ⟨H1, H2, H3⟩ := xk w #[.int .i64 ((2 : Int) ^ n - 1)] #[.pointer (some ⟨b, 4, none⟩)] 3 188
     exact qF H3.drew (by omega) (by omega) H2 H1)
set_option maxRecDepth 100000 in
theorem fields_no (h:Fh) (A:Option Addr) (len c n:Nat) (b:Nat) (w:World) (hb:w.heap[b]?=some (.cells #[.int .i64 h.op,.int .i64 h.p,.int .i64 h.o,.int .i64 h.v,.int .i64 h.g,.slice A len c] 41 (0,0))) (ho:¬(h.op=1∨h.op=5∨h.op=2∨h.op=3∨h.op=4∨h.op=10∨h.op=6∨h.op=11∨h.op=12∨h.op=13)) :
  Calls Tryz.prog 122 #[.pointer (some ⟨b,0,none⟩),.int .i64 (n:Int)] w (kF [] [] b w):=by
 have p0:=zh hb 0 rfl
 have hbl:=zj hb
 have n1:¬h.op=1:=by omega
 have n5:¬h.op=5:=by omega
 have n2:¬h.op=2:=by omega
 have n3:¬h.op=3:=by omega
 have n4:¬h.op=4:=by omega
 have n10:¬h.op=10:=by omega
 have n6:¬h.op=6:=by omega
 have n11:¬h.op=11:=by omega
 have n12:¬h.op=12:=by omega
 have n13:¬h.op=13:=by omega
 clear hb ho
 go_enter Tryz.func122,Tryz.ntmps122
 go_wp2_with fail
 go_ret2
 exact ⟨none,none,rfl,Below.refl _ _,fun k hk=>absurd hk (by simp)⟩
theorem fields_any (h:Fh) (A:Option Addr) (len c n:Nat) (hn:n≤5) (b:Nat) (w:World) (hb:w.heap[b]?=some (.cells #[.int .i64 h.op,.int .i64 h.p,.int .i64 h.o,.int .i64 h.v,.int .i64 h.g,.slice A len c] 41 (0,0))) :
  Calls Tryz.prog 122 #[.pointer (some ⟨b,0,none⟩),.int .i64 (n:Int)] w (kF (qp h.op) (Jr n h.op) b w):=by
 by_cases e1:h.op=1
 · have:=fields_1 h A len c n hn b w hb e1
   rw [e1]
   exact this
 by_cases e5:h.op=5
 · have:=fields_5 h A len c n hn b w hb e5
   rw [e5]
   exact this
 by_cases e2:h.op=2
 · have:=fields_2 h A len c n hn b w hb e2
   rw [e2]
   exact this
 by_cases e3:h.op=3
 · have:=fields_3 h A len c n hn b w hb e3
   rw [e3]
   exact this
 by_cases e4:h.op=4
 · have:=fields_4 h A len c n hn b w hb e4
   rw [e4]
   exact this
 by_cases e10:h.op=10
 · have:=fields_10 h A len c n hn b w hb e10
   rw [e10]
   exact this
 by_cases e6:h.op=6
 · have:=fields_6 h A len c n hn b w hb e6
   rw [e6]
   exact this
 by_cases e11:h.op=11
 · have:=fields_11 h A len c n hn b w hb e11
   rw [e11]
   exact this
 by_cases e12:h.op=12
 · have:=fields_12 h A len c n hn b w hb e12
   rw [e12]
   exact this
 by_cases e13:h.op=13
 · have:=fields_13 h A len c n hn b w hb e13
   rw [e13]
   exact this
 have h1:qp h.op=[]:=by unfold qp;simp [e1,e5,e2,e3,e4,e10,e6,e11,e12,e13]
 have h2:Jr n h.op=[]:=by unfold Jr;simp [e1,e5,e2,e3,e4,e10,e6,e11,e12,e13]
 rw [h1,h2]
 exact fields_no h A len c n b w hb (by omega)
end
section
open Go.RowKit Go.Shelf
attribute [local go_sem] Oper.semAt_some
theorem kR {w w':World} {b B:Nat} (h:Wrote (fun z=>z=b) w w') (hb:B≤b) (hl:B≤w.heap.size):Below B w w':=⟨h.os,h.tape,h.output,h.size,fun k hk=>h.block k (by omega) (by show ¬k=b;omega)⟩
def Fh.at (h:Fh) (a:Nat):Int:=if a=1 then h.p else if a=2 then h.o else if a=3 then h.v else h.g
def Fh.zero (h:Fh) (a:Nat):Fh:=if a=1 then { h with p:=0 } else if a=2 then { h with o:=0 } else if a=3 then { h with v:=0 } else { h with g:=0 }
def zF (h:Fh) (os:List Nat):Nat→Fh
 | 0=>h
 | k+1=>(zF h os k).zero (os.getD k 0)
def fcs (h:Fh) (A:Option Addr) (len c:Nat):Array Value:=#[.int .i64 h.op,.int .i64 h.p,.int .i64 h.o,.int .i64 h.v,.int .i64 h.g,.slice A len c]
theorem fcs_cell {w:World} {b:Nat} {h:Fh} {A:Option Addr} {len c:Nat} (hb:w.heap[b]?=some (.cells (fcs h A len c) 41 (0,0))) {a:Nat} (h1:1≤a) (h4:a≤4):w.cell? ⟨b,a,none⟩=some (.int .i64 (h.at a)):=by
 obtain rfl | rfl | rfl | rfl:a=1∨a=2∨a=3∨a=4:=by omega
 · exact zh hb 1 rfl
 · exact zh hb 2 rfl
 · exact zh hb 3 rfl
 · exact zh hb 4 rfl
theorem fcs_set (h:Fh) (A:Option Addr) (len c:Nat) {a:Nat} (h1:1≤a) (h4:a≤4):(fcs h A len c).set! a (.int .i64 0)=fcs (h.zero a) A len c:=by
 obtain rfl | rfl | rfl | rfl:a=1∨a=2∨a=3∨a=4:=by omega
 all_goals rfl
theorem fld_ok (op:Int):(qp op).length≤2∧(∀k (h:k<(qp op).length),1≤(qp op)[k]∧(qp op)[k]≤4):=by
 have key:∀l:List Nat,l∈[[1,3],[3],[1,2],[1],[4],[]]→l.length≤2∧∀k (h:k<l.length),1≤l[k]∧l[k]≤4:=by
  intro l hl
  simp only [List.mem_cons,List.not_mem_nil,or_false] at hl
  have h2:(∀a∈l,1≤a∧a≤4)∧l.length≤2:=by
   rcases hl with rfl | rfl | rfl | rfl | rfl | rfl<;>decide
  exact ⟨h2.2,fun k hk=>h2.1 _ (List.getElem_mem hk)⟩
 refine key _ ?_
 unfold qp
 repeat' split
 all_goals simp
theorem nod_prog {n:Nat} {h:Fh} {m:Nat} (h0:0≤h.op) (h17:h.op≤17) (hm:(m:Int)=arN h.op) :
  (∀k (hk:k<(qp h.op).length),((zF h (qp h.op) k).at (qp h.op)[k]<0∨(Jr n h.op).getD k 0<(zF h (qp h.op) k).at (qp h.op)[k])→kZ n h m=2) ∧
  ((∀k (hk:k<(qp h.op).length),0≤(zF h (qp h.op) k).at (qp h.op)[k]∧(zF h (qp h.op) k).at (qp h.op)[k]≤(Jr n h.op).getD k 0) →
   kZ n h m=if (zF h (qp h.op) (qp h.op).length).p≠0∨(zF h (qp h.op) (qp h.op).length).o≠0∨(zF h (qp h.op) (qp h.op).length).v≠0∨(zF h (qp h.op) (qp h.op).length).g≠0 then 3 else 0):=by
 obtain ⟨op,p,o,v,g⟩:=h
 dsimp only at h0 h17 hm ⊢
 have e1:¬(op<0∨17<op):=by omega
 have e2:¬((m:Int)≠arN op):=by simp [hm]
 unfold kZ
 dsimp only
 rw [if_neg e1,if_neg e2]
 clear e1 e2 hm
 have hl2:=(fld_ok op).1
 obtain rfl | rfl | rfl | rfl | rfl | rfl | rfl | rfl | rfl | rfl | rfl | rfl | rfl | rfl | rfl | rfl | rfl | rfl:op=0∨op=1∨op=2∨op=3∨op=4∨op=5∨op=6∨op=7∨op=8∨op=9∨op=10∨op=11∨op=12∨op=13∨op=14∨op=15∨op=16∨op=17:=by omega
 all_goals
  refine ⟨fun k hk hh=>?_,fun hh=>?_⟩
  · have hk2:k=0∨k=1:=by omega
    simp only [usP,usO,usV,usG,mxV]
    rcases hk2 with rfl | rfl
    all_goals
     simp [qp,Jr,zF,Fh.at,Fh.zero] at hk hh ⊢
     try omega
  · have h0:=hh 0
    have h1:=hh 1
    simp only [usP,usO,usV,usG,mxV]
    clear hh
    simp [qp,Jr,zF,Fh.at,Fh.zero] at h0 h1 ⊢
    try omega
set_option maxRecDepth 100000 in
theorem gY (n:Nat) (_hn1:1≤n) (hn:n≤5) (f:Fm) (R:Fm→Int) (A:Option Addr) (c:Nat) (w:World) (hl:f.args.length≤1000000)
  (hrec:RecAt w A f.args fun cs x X=>Calls Tryz.prog 92 #[.agg cs,.int .i64 (n:Int)] X fun e w'=>e=.returned (.int .i64 (R x))∧Below X.heap.size X w') :
  Calls Tryz.prog 92 #[.agg (f.vs A c),.int .i64 (n:Int)] w fun e w'=>e=.returned (.int .i64 (nodS n R f))∧Below w.heap.size w w':=by
 obtain ⟨w1,hw1,d0,hs1,hB⟩:=zm w (f.vs A c) 41
 have HREC:=zH hrec
 have HS1:=zH hs1
 clear hs1
 have HBT:=zH (fun a b c W=>Zf a b c W)
 obtain ⟨⟨op,hp,ho,hv,hg⟩,l⟩:=f
 obtain ⟨E,hE⟩:∃E,nodS n R (.mk ⟨op,hp,ho,hv,hg⟩ l)=E:=⟨_,rfl⟩
 have HE:Hid (E=if kZ n ⟨op,hp,ho,hv,hg⟩ l.length≠0 then kZ n ⟨op,hp,ho,hv,hg⟩ l.length else YW (l.map R)):=hE.symm
 rw [hE]
 simp only [Fm.vs,Fm.args,Fm.h] at hw1 d0 HREC hl HE ⊢
 obtain ⟨m,hm⟩:∃m,l.length=m:=⟨_,rfl⟩
 have HM:=zH hm
 rw [hm] at hw1 d0 hl HE ⊢
 have HW1:=zH hw1
 have HB:=zH hB
 have HD0:=zH d0
 have p0:=zh d0 0 rfl
 have p1:=zh d0 1 rfl
 have p2:=zh d0 2 rfl
 have p3:=zh d0 3 rfl
 have p4:=zh d0 4 rfl
 have p5:=zh d0 5 rfl
 clear hw1 d0 hB hrec hm hE
 go_enter Tryz.func92,Tryz.ntmps92
 go_wp2_with fail
 rw [HW1.out]
 go_wp2_with fail
 refine (HBT.out _ _ _ _).mono ?_
 rintro e w2 ⟨rfl,hw2⟩
 obtain rfl:=hw2
 by_cases hop:0≤op∧op≤17
 case neg=>
  have e0:decide (0≤op∧op≤17)=false:=decide_eq_false hop
  have hEE:Hid (E=1):=by
   have h1:kZ n ⟨op,hp,ho,hv,hg⟩ m=1:=if_pos (by show op<0∨17<op;omega)
   rw [Hid,HE.out,h1];rfl
  clear HE HREC hop
  go_wp2_with fail
  go_ret
  rw [hEE.out]
  exact ⟨rfl,HB.out⟩
 have e0:decide (0≤op∧op≤17)=true:=decide_eq_true hop
 go_upto_block 0 with fail
 go_cut [0,5] from 14 (fun s0 s5 wx=>s0=.agg #[.int .i64 op,.int .i64 hp,.int .i64 ho,.int .i64 hv,.int .i64 hg,.slice A m c]∧s5=.int .i64 (arN op)∧wx=w2)
 case first=>
  clear HE HREC
  obtain rfl | rfl | rfl | rfl | rfl | rfl | rfl | rfl | rfl | rfl | rfl | rfl | rfl | rfl | rfl | rfl | rfl | rfl:op=0∨op=1∨op=2∨op=3∨op=4∨op=5∨op=6∨op=7∨op=8∨op=9∨op=10∨op=11∨op=12∨op=13∨op=14∨op=15∨op=16∨op=17:=by omega
  all_goals
   go_wp2_with fail
   go_meet
   exact ⟨rfl,rfl,rfl⟩
 case rest=>
  obtain ⟨rfl,rfl,rfl⟩:=hcut
  by_cases hm:(m:Int)=arN op
  case neg=>
   have hEE:Hid (E=15):=by
    have h1:kZ n ⟨op,hp,ho,hv,hg⟩ m=15:=by unfold kZ;rw [if_neg (by show ¬(op<0∨17<op);omega),if_pos hm]
    rw [Hid,HE.out,h1];rfl
   have e1:((m:Int) != arN op)=true:=by simpa using hm
   clear HE HREC hop
   go_wp2_with fail
   go_ret
   rw [hEE.out]
   exact ⟨rfl,HB.out⟩
  have e1:((m:Int) != arN op)=false:=by simpa using hm
  go_upto_region 20 with fail
  obtain ⟨W2,hW2,d2,hs2,hb2⟩:=zm wc #[.int .i64 op,.int .i64 hp,.int .i64 ho,.int .i64 hv,.int .i64 hg,.slice A m c] 41
  rw [hW2]
  have hBs:=HB.out.size
  have HS2:=zH hs2
  clear hs2
  have HB2:=zH (HB.out.trans (hb2.mono hBs))
  have HF:=zH (fields_any ⟨op,hp,ho,hv,hg⟩ A m c n hn wc.heap.size W2 d2)
  obtain ⟨hfl,hfo⟩:=fld_ok op
  obtain ⟨hN2,hN3⟩:=nod_prog (n:=n) (h:=⟨op,hp,ho,hv,hg⟩) (m:=m) hop.1 hop.2 hm
  have HD0:=zH ((hb2.block _ (zj HD0.out)).trans HD0.out)
  have HD2:=zH d2
  dsimp only at HF hN2 hN3 hfl hfo
  revert HF hN2 hN3 hfl hfo
  generalize qp op=os
  generalize Jr n op=ms
  intro HF hfl hfo hN2 hN3
  have HN2:=zH hN2
  have HN3:=zH hN3
  have HFO:=zH hfo
  unfold kF at HF
  obtain ⟨q,hq⟩:∃q,os.length=q:=⟨_,rfl⟩
  have HQ:=zH hq
  rw [hq] at hfl
  simp only [hq] at HF
  clear hW2 d2 hb2 hN2 hN3 hfo p0 p1 p2 p3 p4 p5 e0 e1 hm
  go_wp2_with fail
  refine HF.out.mono ?_
  rintro e W3 ⟨A1,A2,rfl,hb3,hcells⟩
  have hs3:=hb3.size
  have HB3:=zH (HB2.out.trans (hb3.mono (by have:=HS2.out;omega)))
  have HCL:=zH hcells
  have HD0:=zH ((hb3.block _ (zj HD0.out)).trans HD0.out)
  have HD3:Hid (W3.heap[wc.heap.size]?=some (.cells (fcs (zF ⟨op,hp,ho,hv,hg⟩ os 0) A m c) 41 (0,0))):=(hb3.block _ (zj HD2.out)).trans HD2.out
  have HR3:Hid (∀X,Wrote (fun z=>z=wc.heap.size) W3 X→X.heap[w.heap.size]?=some (.cells #[.int .i64 op,.int .i64 hp,.int .i64 ho,.int .i64 hv,.int .i64 hg,.slice A m c] 41 (0,0))):=fun X hX=>(hX.block _ (zj HD0.out) (by have:=HS1.out;omega)).trans HD0.out
  clear hb3 hcells HF HD2 HD0
  go_wp2_with fail
  go_loopw [45] (fun i wr=>∃k:Nat,k≤q∧i=.int .i64 (k:Int)∧Hid (∀j (hj:j<os.length),j<k→0≤(zF ⟨op,hp,ho,hv,hg⟩ os j).at os[j]∧(zF ⟨op,hp,ho,hv,hg⟩ os j).at os[j]≤ms.getD j 0)∧Hid (wr.heap[wc.heap.size]?=some (.cells (fcs (zF ⟨op,hp,ho,hv,hg⟩ os k) A m c) 41 (0,0)))∧Hid (Wrote (fun z=>z=wc.heap.size) W3 wr)) (fun i _=>q-(intOf i).toNat)
  case atStart=>exact ⟨0,by omega,rfl,fun j _ h=>absurd h (by omega),HD3,Wrote.refl _ _⟩
  case round=>
   obtain ⟨k,hk,rfl,hgood,hZ,hWr⟩:=hrel
   clear HD3
   by_cases hkq:k<q
   · have hko:k<os.length:=by have:=HQ.out;omega
     obtain ⟨g1,g2,rfl,rfl,hg1,hg2,hl1,hl2,c1,c2⟩:=HCL.out k (by have:=HQ.out;omega)
     obtain ⟨ha1,ha4⟩:=HFO.out k hko
     have hE2:=HN2.out k hko
     obtain ⟨a,ha⟩:∃a,os[k]=a:=⟨_,rfl⟩
     have hga:os.getD k 0=a:=by rw [zD hko];exact ha
     obtain ⟨Z,hZZ⟩:∃Z,zF ⟨op,hp,ho,hv,hg⟩ os k=Z:=⟨_,rfl⟩
     have hZ1:zF ⟨op,hp,ho,hv,hg⟩ os (k+1)=Z.zero a:=by rw [zF,hZZ,hga]
     obtain ⟨mx,hmx⟩:∃mx,ms.getD k 0=mx:=⟨_,rfl⟩
     have HGK:Hid (0≤Z.at a∧Z.at a≤mx→∀j (hj:j<os.length),j<k+1→0≤(zF ⟨op,hp,ho,hv,hg⟩ os j).at os[j]∧(zF ⟨op,hp,ho,hv,hg⟩ os j).at os[j]≤ms.getD j 0):=fun h j hj hjk=>by
      by_cases e:j=k
      · subst e;rw [hZZ,ha,hmx];exact h
      · exact hgood.out j hj (by omega)
     simp only [ha,hZZ,hmx] at hE2 c1 c2 ha1 ha4
     rw [hZZ] at hZ
     have u1:=(World.cell?_of_block (a:=⟨g1,k,none⟩) (hWr.out.block g1 hl1 (by show ¬g1=wc.heap.size;have:=HS2.out;omega))).trans c1
     have u2:=(World.cell?_of_block (a:=⟨g2,k,none⟩) (hWr.out.block g2 hl2 (by show ¬g2=wc.heap.size;have:=HS2.out;omega))).trans c2
     have z0:=fcs_cell hZ.out ha1 ha4
     have zf:=zi hZ.out a
     have zl:=zj hZ.out
     have hset:=qE hZ.out a (.int .i64 0)
     rw [fcs_set Z A m c ha1 ha4,←hZ1] at hset
     have HST:=zH hset.1
     obtain ⟨y,hy⟩:∃y,Z.at a=y:=⟨_,rfl⟩
     rw [hy] at z0
     simp only [hy] at HGK hE2
     have HE2:=zH hE2
     have hk0:(0:Int)≤(k:Int):=by omega
     have hk1:(k:Int)<(q:Int):=by omega
     have hWn:Hid (Wrote (fun z=>z=wc.heap.size) W3 (wr.setCell ⟨wc.heap.size,a,none⟩ (.int .i64 0)).drew):=(hWr.out.trans (Wrote.of_grown (zQ wr wc.heap.size a _) (fun z e _=>by cases e;rfl)) (fun _ _ h=>h)).trans (Wrote.of_below ((Below.refl _ _).drew)) (fun _ _ h=>h)
     have HBY:Hid (∃bt:Bool,(bt=true↔(0≤y∧y≤mx))∧∀W,Calls Tryz.prog 89 #[.int .i64 y,.int .i64 0,.int .i64 mx] W fun e w'=>e=.returned (.bool bt)∧w'=W):=⟨_,by simp,fun W=>HBT.out y 0 mx W⟩
     obtain ⟨bt,hbt,hcb⟩:=HBY.out
     have HCB:=zH hcb
     have HBV:=zH hbt
     clear HBY hcb hbt
     clear c1 c2 hZ hset ha hga hZZ hZ1 hmx hgood hy hE2
     go_upto_region 24 with fail
     refine zz [(0,true),(1,true),(2,true),(3,true),(4,true),(5,true),(6,true),(7,false),(8,true)] (fun X=>X=wr.drew) (by kernel_rfl) (by kernel_rfl) rfl ?_
     repeat
      apply zM rfl
      · rintro K' hK' X rfl
        go_simp
        exact hK'
     refine zC rfl ?_
     intro K' hK'
     go_simp
     refine (HCB.out _).mono ?_
     rintro e w5 ⟨rfl,rfl⟩
     refine hK' _ _ rfl ?_
     clear hK' K'
     repeat
      apply zM rfl
      · rintro K' hK' X rfl
        go_simp
        exact hK'
     refine zT ?_
     clear HCB
     cases bt with
     | false=>
      have hEE:Hid (E=2):=by
       have h1:=HE2.out (by
        have:=HBV.out
        simp at this
        omega)
       rw [Hid,HE.out,h1];rfl
      have hBF:Hid (Below w.heap.size w wr.drew):=(HB3.out.trans (kR hWr.out (by omega) (by have:=HB3.out.size;omega))).drew
      clear HE2 HE HREC HBV HGK HST hWn hWr
      go_wp2_with fail
      go_ret
      rw [hEE.out]
      exact ⟨rfl,hBF.out⟩
     | true=>
     have HG2:=zH (HGK.out (HBV.out.1 rfl))
     have HST2:Hid ((wr.setCell ⟨wc.heap.size,a,none⟩ (.int .i64 0)).drew.heap[wc.heap.size]?=some (.cells (fcs (zF ⟨op,hp,ho,hv,hg⟩ os (k+1)) A m c) 41 (0,0))):=HST.out
     clear HE2 HBV HGK HST hWr
     go_wp2_with fail
     go_roundw
     case rel=>exact ⟨k+1,by omega,by go_num,HG2,HST2,hWn⟩
     case measure=>simp [intOf];omega
   · obtain rfl:q=k:=by omega
     have hNE:=HN3.out fun j hj=>hgood.out j hj (by have:=HQ.out;omega)
     rw [HQ.out] at hNE
     obtain ⟨⟨zo0,zp,zo,zv,zg⟩,hZZ⟩:∃Z,zF ⟨op,hp,ho,hv,hg⟩ os q=Z:=⟨_,rfl⟩
     rw [hZZ] at hNE hZ
     dsimp only at hNE
     have z1:wr.cell? ⟨wc.heap.size,1,none⟩=some (.int .i64 zp):=zh hZ.out 1 rfl
     have z2:wr.cell? ⟨wc.heap.size,2,none⟩=some (.int .i64 zo):=zh hZ.out 2 rfl
     have z3:wr.cell? ⟨wc.heap.size,3,none⟩=some (.int .i64 zv):=zh hZ.out 3 rfl
     have z4:wr.cell? ⟨wc.heap.size,4,none⟩=some (.int .i64 zg):=zh hZ.out 4 rfl
     have HNE:=zH hNE
     have hBF:Hid (Below w.heap.size w wr):=HB3.out.trans (kR hWr.out (by omega) (by have:=HB3.out.size;omega))
     have HD5:=zH (HR3.out wr hWr.out)
     clear hNE hZZ hZ hgood HN2 HN3 HFO HCL HR3 hWr hkq hk
     by_cases hnz:zp≠0∨zo≠0∨zv≠0∨zg≠0
     case pos=>
      have hEE:Hid (E=3):=by
       have h1:=HNE.out
       rw [if_pos hnz] at h1
       rw [Hid,HE.out,h1];rfl
      clear HE HREC HNE
      by_cases i1:zp=0
      · by_cases i2:zo=0
        · by_cases i3:zv=0
          · have i4:¬zg=0:=by omega
            clear hnz
            go_wp2_with fail
            go_ret
            rw [hEE.out]
            exact ⟨rfl,hBF.out⟩
          · clear hnz
            go_wp2_with fail
            go_ret
            rw [hEE.out]
            exact ⟨rfl,hBF.out⟩
        · clear hnz
          go_wp2_with fail
          go_ret
          rw [hEE.out]
          exact ⟨rfl,hBF.out⟩
      · clear hnz
        go_wp2_with fail
        go_ret
        rw [hEE.out]
        exact ⟨rfl,hBF.out⟩
     have HE9:Hid (E=YW (l.map R)):=by
      have h1:=HNE.out
      rw [if_neg hnz] at h1
      rw [Hid,HE.out,h1];rfl
     obtain rfl:zp=0:=by omega
     obtain rfl:zo=0:=by omega
     obtain rfl:zv=0:=by omega
     obtain rfl:zg=0:=by omega
     have p5:=zh HD5.out 5 rfl
     clear hnz HE HNE HD5
     go_wp2_with fail
     go_loopw [83] (fun i wx=>∃k:Nat,k≤m∧i=.int .i64 (k:Int)∧Hid (∀j (hj:j<l.length),j<k→R l[j]=0)∧Hid (Below w.heap.size w wx)) (fun i _=>m-(intOf i).toNat)
     case atStart=>exact ⟨0,by omega,rfl,fun j _ h=>absurd h (by omega),hBF⟩
     case round=>
      obtain ⟨k,hk,rfl,hzero,hbr⟩:=hrel
      clear z1 z2 z3 z4 p5 hBF
      by_cases hlt:k<m
      · have hkl:k<l.length:=by have:=HM.out;omega
        obtain ⟨bb,o,A',c',eA,hbb,hcell,hcall⟩:=HREC.out k hkl
        subst eA
        obtain ⟨x,hx⟩:∃x,l[k]=x:=⟨_,rfl⟩
        have hsn:Hid (R l[k]=R x):=by rw [Hid,hx]
        rw [hx] at hcell hcall
        obtain ⟨Rx,hRx⟩:∃Rx,R x=Rx:=⟨_,rfl⟩
        dsimp only at hcall
        simp only [hRx] at hcall hsn
        obtain ⟨⟨h0,h1,h2,h3,h4⟩,xl⟩:=x
        have hc:∀j v,#[Value.int .i64 h0,.int .i64 h1,.int .i64 h2,.int .i64 h3,.int .i64 h4,.slice A' xl.length c'][j]?=some v→wr.cell? ⟨bb,o+k*6+j,none⟩=some v:=hcell wr hbr.out
        have z0:wr.cell? ⟨bb,o+k*6,none⟩=some (.int .i64 h0):=hc 0 _ rfl
        have z1:wr.cell? ⟨bb,o+k*6+1,none⟩=some (.int .i64 h1):=hc 1 _ rfl
        have z2:wr.cell? ⟨bb,o+k*6+2,none⟩=some (.int .i64 h2):=hc 2 _ rfl
        have z3:wr.cell? ⟨bb,o+k*6+3,none⟩=some (.int .i64 h3):=hc 3 _ rfl
        have z4:wr.cell? ⟨bb,o+k*6+4,none⟩=some (.int .i64 h4):=hc 4 _ rfl
        have z5:wr.cell? ⟨bb,o+k*6+5,none⟩=some (.slice A' xl.length c'):=hc 5 _ rfl
        have hk0:(0:Int)≤(k:Int):=by omega
        have hk1:(k:Int)<(m:Int):=by omega
        have hbw:bb<wr.heap.size:=by have:=hbr.out.size;omega
        have HC:=zH hcall
        simp only [Fm.vs,Fm.args,Fm.h] at HC
        clear hcell hcall hx hRx hc
        go_upto_region 33 with fail
        obtain ⟨W5,hW5,d5,hs5,hb5⟩:=zm wr #[.int .i64 h0,.int .i64 h1,.int .i64 h2,.int .i64 h3,.int .i64 h4,.slice A' xl.length c'] 41
        rw [hW5]
        have hbs:=hbr.out.size
        have HB5:=zH (hbr.out.trans (hb5.mono hbs))
        have HC2:=zH (HC.out W5 HB5.out)
        have y0:=zh d5 0 rfl
        have y1:=zh d5 1 rfl
        have y2:=zh d5 2 rfl
        have y3:=zh d5 3 rfl
        have y4:=zh d5 4 rfl
        have y5:=zh d5 5 rfl
        clear hW5 d5 hb5 z0 z1 z2 z3 z4 z5 HC hs5
        go_wp2_with fail
        refine HC2.out.mono ?_
        rintro e w6 ⟨rfl,hb6⟩
        have HB6:=zH (HB5.out.trans (hb6.mono HB5.out.size))
        clear hb6 HC2 y0 y1 y2 y3 y4 y5
        by_cases hr:Rx=0
        · have hz2 : Hid (∀ j (hj : j < l.length), j < k + 1 → R l[j] = 0) := fun j hj hjk => by
           by_cases e:j=k
           · subst e;rw [hsn.out];exact hr
           · exact hzero.out j hj (by omega)
          have er:(Rx != 0)=false:=by simpa using hr
          subst hr
          clear hsn hzero
          go_wp2_with fail
          go_roundw
          case rel=>exact ⟨k+1,by omega,by go_num,hz2,HB6⟩
          case measure=>simp [intOf];omega
        · have hEE : Hid (E = Rx) := by
           rw [Hid,HE9.out]
           refine (ffsE_at (l:=l.map R) (k:=k) (by simpa using hkl) (fun j hj hjk=>?_) ?_).trans ?_
           · rw [List.getElem_map];exact hzero.out j (by simpa using hj) hjk
           · rw [List.getElem_map,hsn.out];exact hr
           · rw [List.getElem_map,hsn.out]
          have er:(Rx != 0)=true:=by simpa using hr
          clear hsn hzero HE9
          go_wp2_with fail
          go_ret
          rw [hEE.out]
          exact ⟨rfl,HB6.out⟩
      · obtain rfl:m=k:=by omega
        have hEE:Hid (E=0):=by
         rw [Hid,HE9.out]
         refine Xt fun e he=>?_
         obtain ⟨x,hx,rfl⟩:=List.mem_map.1 he
         obtain ⟨j,hj,rfl⟩:=List.getElem_of_mem hx
         exact hzero.out j hj (by have:=HM.out;omega)
        clear HE9 hzero
        go_wp2_with fail
        go_ret
        rw [hEE.out]
        exact ⟨rfl,hbr.out⟩
theorem Yq (n:Nat) (hn1:1≤n) (hn:n≤5):∀(d:Nat) (f:Fm) (A:Option Addr) (c:Nat) (w:World),FsAt w w.heap.size d A f.args→(yx d f).1≤1000000 →
  Calls Tryz.prog 92 #[.agg (f.vs A c),.int .i64 (n:Int)] w fun e w'=>e=.returned (.int .i64 (jH n d f))∧Below w.heap.size w w'
 | 0,f,A,c,w,hA,_=>by
  have h0:f.args=[]:=hA
  exact gY n hn1 hn f (fun _=>0) A c w (by rw [h0];decide) (RecAt.none hA)
 | d+1,f,A,c,w,hA,hb=>by
  have h1:(yi (yx d) f.args).1≤1000000:=hb
  have h3:=vn (yx d) (jL d) f.args
  exact gY n hn1 hn f (jH n d) A c w (by omega) (RecAt.of hA fun x A' c' X hx hX=>Yq n hn1 hn d x A' c' X hX (Nat.le_trans (uC (yx d) hx) h1))
set_option maxRecDepth 100000 in
theorem checkF_any (n:Int) (d:Nat) (f:Fm) (A:Option Addr) (c:Nat) (w:World) (hA:FsAt w w.heap.size d A f.args) (hb:(yx d f).1≤1000000) :
  Calls Tryz.prog 66 #[.agg (f.vs A c),.int .i64 n] w fun e w'=>e=.returned (.int .i64 (kO n d f))∧Below w.heap.size w w':=by
 obtain ⟨w1,hw1,d0,hs1,hB⟩:=zm w (f.vs A c) 41
 have HBT:=zH (fun a b c W=>Zf a b c W)
 have HSZ:=zH (fun a b W=>JU a b W)
 have HA:=zH hA
 have HFS:=zH (fun (X:World) (hX:Below w.heap.size w X)=>Xr d f A c X ((hA.keep hX).more hX.size) hb)
 have HFN:=zH (fun (k:Nat) (h1:1≤k) (h5:k≤5) (X:World) (hX:Below w.heap.size w X)=>Yq k h1 h5 d f A c X ((hA.keep hX).more hX.size) hb)
 have HE:Hid (kO n d f=if n<1∨5<n then 2 else if jl (yx d f)≠0 then jl (yx d f) else jH n.toNat d f):=rfl
 obtain ⟨E,hE⟩:∃E,kO n d f=E:=⟨_,rfl⟩
 rw [hE] at HE ⊢
 obtain ⟨⟨z1,z2⟩,hz⟩:∃z,yx d f=z:=⟨_,rfl⟩
 rw [hz] at HFS HE
 unfold Fm.vs at hw1 d0 HFS HFN ⊢
 have HW1:=zH hw1
 have HB:=zH hB
 have HD0:=zH d0
 clear hw1 d0 hB hE hA hb hz hs1
 have HBY:Hid (∃bt:Bool,(bt=true↔(1≤n∧n≤5))∧∀W,Calls Tryz.prog 89 #[.int .i64 n,.int .i64 1,.int .i64 5] W fun e w'=>e=.returned (.bool bt)∧w'=W):=⟨_,by simp,fun W=>HBT.out n 1 5 W⟩
 obtain ⟨bt,hbt,hcb⟩:=HBY.out
 have HCB:=zH hcb
 have HBV:=zH hbt
 clear HBY hcb hbt
 go_enter Tryz.func66,Tryz.ntmps66
 go_wp2_with fail
 rw [HW1.out]
 go_wp2_with fail
 refine (HCB.out _).mono ?_
 rintro e w2 ⟨rfl,hw2⟩
 obtain rfl:=hw2
 clear HCB
 cases bt with
 | false=>
  have hEE:Hid (E=2):=by
   have:=HBV.out
   simp at this
   rw [Hid,HE.out,if_pos (by omega)]
  clear HE HBV HFS HFN
  go_wp2_with fail
  go_ret
  rw [hEE.out]
  exact ⟨rfl,HB.out⟩
 | true=>
 have hn:=HBV.out.1 rfl
 obtain ⟨k,rfl⟩:=Int.eq_ofNat_of_zero_le (show 0≤n by omega)
 have HE2:=zH (HE.out.trans (if_neg (by omega)))
 rw [Int.toNat_natCast] at HE2
 have HFN2:=zH (HFN.out k (by omega) (by omega))
 have HC:=zH (HFS.out w2 HB.out)
 have p0:=zh HD0.out 0 rfl
 have p1:=zh HD0.out 1 rfl
 have p2:=zh HD0.out 2 rfl
 have p3:=zh HD0.out 3 rfl
 have p4:=zh HD0.out 4 rfl
 have p5:=zh HD0.out 5 rfl
 clear HE HBV HFS HFN hn
 go_wp2_with fail
 refine HC.out.mono ?_
 rintro e w3 ⟨rfl,hb3⟩
 have HB3:=zH (HB.out.trans (hb3.mono HB.out.size))
 have HD3:=zH ((hb3.block _ (zj HD0.out)).trans HD0.out)
 have HC2:=zH (HSZ.out z1 z2 w3)
 obtain ⟨r,hr⟩:∃r,jl (z1,z2)=r:=⟨_,rfl⟩
 rw [hr] at HC2 HE2
 clear hb3 HC p0 p1 p2 p3 p4 p5 HSZ hr HD0
 go_wp2_with fail
 refine HC2.out.mono ?_
 rintro e w4 ⟨rfl,hw4⟩
 obtain rfl:=hw4
 clear HC2
 by_cases h0:r=0
 · subst h0
   have HC:=zH (HFN2.out w4 HB3.out)
   have HE3:Hid (E=jH k d f):=HE2.out.trans (if_neg (by simp))
   have p0:=zh HD3.out 0 rfl
   have p1:=zh HD3.out 1 rfl
   have p2:=zh HD3.out 2 rfl
   have p3:=zh HD3.out 3 rfl
   have p4:=zh HD3.out 4 rfl
   have p5:=zh HD3.out 5 rfl
   clear HE2 HFN2
   go_wp2_with fail
   refine HC.out.mono ?_
   rintro e w5 ⟨rfl,hb5⟩
   have HB5:=zH (HB3.out.trans (hb5.mono HB3.out.size))
   clear hb5 HC p0 p1 p2 p3 p4 p5
   go_wp2_with fail
   go_ret
   rw [HE3.out]
   exact ⟨rfl,HB5.out⟩
 · have HE3:Hid (E=r):=HE2.out.trans (if_pos h0)
   have e0:(r != 0)=true:=by simpa using h0
   clear HE2 HFN2
   go_wp2_with fail
   go_ret
   rw [HE3.out]
   exact ⟨rfl,HB3.out⟩
set_option maxRecDepth 100000 in
theorem fcheck_any (n:Int) (d:Nat) (f:Fm) (A:Option Addr) (c:Nat) (w:World) (hA:FsAt w w.heap.size d A f.args) (hb:(yx d f).1≤1000000) :
  Calls Tryz.prog 30 #[.agg (f.vs A c),.int .i64 n] w fun e w'=>e=.returned (.int .i64 (kO n d f))∧Below w.heap.size w w':=by
 obtain ⟨w1,hw1,d0,hs1,hB⟩:=zm w (f.vs A c) 41
 have HC:=zH (checkF_any n d f A c w1 ((hA.keep hB).more hB.size) hb)
 unfold Fm.vs at hw1 d0 HC ⊢
 have HW1:=zH hw1
 have HB:=zH hB
 have p0:=zh d0 0 rfl
 have p1:=zh d0 1 rfl
 have p2:=zh d0 2 rfl
 have p3:=zh d0 3 rfl
 have p4:=zh d0 4 rfl
 have p5:=zh d0 5 rfl
 clear hw1 d0 hB hA hb hs1
 go_enter Tryz.func30,Tryz.ntmps30
 go_wp2_with fail
 rw [HW1.out]
 go_wp2_with fail
 refine HC.out.mono ?_
 rintro e w2 ⟨rfl,hb2⟩
 have HB2:=zH (HB.out.trans (hb2.mono HB.out.size))
 clear hb2 HC p0 p1 p2 p3 p4 p5
 go_wp2_with fail
 go_ret
 exact ⟨rfl,HB2.out⟩
end
section
open Go.RowKit Go.Shelf
attribute [local go_sem] Oper.semAt_some
structure AtW (s:Sy) (A SV AV AX:Option Addr) (kc ks kv kx:Nat) (h:Fh) (AF:Option Addr) (lf cf:Nat) (out:List Int) (AR:Option Addr) (cr bS bF bR bH bV bI gH:Nat) (W:World):Prop where
 xs:XAt W W.heap.size AX s.xs
 cs:CAt W W.heap.size A s.p.t.cases
 ro:IAt W W.heap.size AR out
 hS:W.heap[bS]?=some (.cells (s.vs_ A kc SV ks AV kv AX kx) 35 (0,0))
 hF:W.heap[bF]?=some (.cells (fcs h AF lf cf) 41 (0,0))
 hR:W.heap[bR]?=some (.cells #[.slice AR out.length cr] 38 (0,0))
 hH:W.heap[bH]?=some (.cells #[.slice (some ⟨gH,0,none⟩) s.vs.length s.vs.length] 36 (0,0))
 hG:RowAt W gH (qj s.vs s.vs.length)
 hV:W.heap[bV]?=some (.cells #[.func (.func 32) #[] #[.pointer (some ⟨bS,0,none⟩),.pointer (some ⟨bF,0,none⟩)]] 85 (0,0))
 hI:W.heap[bI]?=some (.cells #[.func (.func 33) #[] #[.pointer (some ⟨bS,0,none⟩)]] 88 (0,0))
section
variable {s:Sy} {A SV AV AX:Option Addr} {kc ks kv kx:Nat} {h:Fh} {AF:Option Addr} {lf cf:Nat} {out:List Int} {AR:Option Addr} {cr bS bF bR bH bV bI gH:Nat} {W W':World}
theorem AtW.keep (H:AtW s A SV AV AX kc ks kv kx h AF lf cf out AR cr bS bF bR bH bV bI gH W) (hb:Below W.heap.size W W'):AtW s A SV AV AX kc ks kv kx h AF lf cf out AR cr bS bF bR bH bV bI gH W':=
 have k:∀ {b:Nat} {o:Obj},W.heap[b]?=some o→W'.heap[b]?=some o:=fun e=>(hb.block _ (Array.getElem?_eq_some_iff.1 e).1).trans e
 ⟨(H.xs.keep hb).more hb.size,(H.cs.keep hb).more hb.size,(H.ro.keep hb).more hb.size,k H.hS,k H.hF,k H.hR,k H.hH,k H.hG,k H.hV,k H.hI⟩
end
set_option maxRecDepth 100000 in
theorem atv_any (s:Sy) (K N:Nat) (hF:Fine s K N) (h:Fh) (e k q:Nat) (he:e<s.xs.length) (hk:k≤K) (hq:q<N) (hhp:h.p=(q:Int)) (A SV AV AX AF AR:Option Addr) (kc ks kv kx lf cf:Nat) (out:List Int) (cr bS bF bR bH bV bI gH:Nat) (w:World)
  (hW:AtW s A SV AV AX kc ks kv kx h AF lf cf out AR cr bS bF bR bH bV bI gH w) :
  Calls Tryz.prog 32 #[.agg #[.int .i64 (e:Int),.int .i64 (k:Int)],.pointer (some ⟨bS,0,none⟩),.pointer (some ⟨bF,0,none⟩)] w fun r w'=>r=.returned (.int .i64 (xw s.xs[e] k q))∧Below w.heap.size w w':=by
 have hX:=hW.xs
 have hb:=hW.hS
 have hp:=hW.hF
 clear hW
 unfold fcs at hp
 rw [hhp] at hp
 obtain ⟨w1,hw1,d0,hs1,hB⟩:=zm w #[.int .i64 (e:Int),.int .i64 (k:Int)] 84
 have hxm:=List.getElem_mem he
 obtain ⟨hvl,hrow⟩:=hF.views _ hxm
 obtain ⟨bx,ox,A1,c1,A2,c2,eX,hbx,x0,x1,x2,hRw,hLv⟩:=(hX.keep hB).row e he
 subst eX
 obtain ⟨x,hx⟩:∃x,x=s.xs[e]:=⟨_,rfl⟩
 rw [←hx] at hvl hrow x2 hLv ⊢
 obtain ⟨bl,ol,A3,c3,eL,hbl,y1,hI⟩:=hLv.at_ k (by omega)
 subst eL
 obtain ⟨hl,hpos⟩:=hrow _ (List.getElem_mem (by omega:k<x.views.length))
 have hxw:∀row,x.views[k]'(by omega)=row→xw x k q=row.getD q 0:=fun row hr=>by unfold xw;rw [zD (by omega:k<x.views.length),hr]
 obtain ⟨row,hrw⟩:∃row,x.views[k]'(by omega)=row:=⟨_,rfl⟩
 rw [hxw row hrw]
 rw [hrw] at y1 hI hl
 obtain ⟨b4,o4,e4,hb4,z4⟩:=hI.at_ q (by omega)
 subst e4
 have hval:row[q]'(by omega)=row.getD q 0:=by rw [List.getD_eq_getElem?_getD,List.getElem?_eq_getElem (by omega)];rfl
 rw [hval] at z4
 obtain ⟨u,hu⟩:∃u,row.getD q 0=u:=⟨_,rfl⟩
 rw [hu] at z4 ⊢
 obtain ⟨nv,hnv⟩:∃nv,x.views.length=nv:=⟨_,rfl⟩
 rw [hnv] at x2 hvl
 obtain ⟨nr,hnr⟩:∃nr,row.length=nr:=⟨_,rfl⟩
 rw [hnr] at y1 hl
 have HW1:=zH hw1
 have HB:=zH hB
 have g0:=zh d0 0 rfl
 have g1:=zh d0 1 rfl
 have p0:w1.cell? ⟨bF,1,none⟩=some (.int .i64 (q:Int)):=zh ((hB.block _ (zj hp)).trans hp) 1 rfl
 have p9:w1.cell? ⟨bS,9,none⟩=some (.slice (some ⟨bx,ox,none⟩) s.xs.length kx):=zh ((hB.block _ (zj hb)).trans hb) 9 rfl
 have h1:(0:Int)≤(e:Int):=by omega
 have h2:(e:Int)<(s.xs.length:Int):=by omega
 have h3:(0:Int)≤(k:Int):=by omega
 have h4:(k:Int)<(nv:Int):=by omega
 have h5:(0:Int)≤(q:Int):=by omega
 have h6:(q:Int)<(nr:Int):=by omega
 have lbs:=zj hb
 have lbp:=zj hp
 clear hw1 d0 hB hX hb hp hF hval hu hnv hnr hx hRw hLv hI hpos hrow hxm hxw hrw x0 x1 hl hvl hhp
 go_enter Tryz.func32,Tryz.ntmps32
 go_wp2_with fail
 rw [HW1.out]
 go_quiet (fail)
 go_wp2_with fail
 go_ret
 exact ⟨rfl,zR HB.out _⟩
set_option maxRecDepth 100000 in
theorem ati_any (s:Sy) (h:Fh) (e k c:Nat) (he:e<s.xs.length) (hc:s.xs[e].c=(c:Int)) (hcl:c<s.p.t.cases.length) (A SV AV AX AF AR:Option Addr) (kc ks kv kx lf cf:Nat) (out:List Int) (cr bS bF bR bH bV bI gH:Nat) (w:World)
  (hW:AtW s A SV AV AX kc ks kv kx h AF lf cf out AR cr bS bF bR bH bV bI gH w) :
  Calls Tryz.prog 33 #[.agg #[.int .i64 (e:Int),.int .i64 (k:Int)],.pointer (some ⟨bS,0,none⟩)] w fun r w'=>∃A' c',r=.returned (.slice A' (yf s.p c).length c')∧IAt w' w.heap.size A' (yf s.p c)∧Below w.heap.size w w':=by
 have hX:=hW.xs
 have hC:=hW.cs
 have hb:=hW.hS
 clear hW
 obtain ⟨w1,hw1,d0,hs1,hB⟩:=zm w #[.int .i64 (e:Int),.int .i64 (k:Int)] 84
 obtain ⟨bx,ox,A1,c1,A2,c2,eX,hbx,x0,x1,x2,hRw,hLv⟩:=(hX.keep hB).row e he
 subst eX
 rw [hc] at x0
 obtain ⟨bc,oc,A3,c3,A4,c4,A5,c5,eC,hbc,y0,y1,y2,hI,_,_⟩:=(hC.keep hB).row c hcl
 subst eC
 have hin:yf s.p c=s.p.t.cases[c].inp:=by unfold yf;rw [List.getD_eq_getElem?_getD,List.getElem?_eq_getElem hcl];rfl
 rw [←hin] at y0 hI
 obtain ⟨L,hL⟩:∃L,yf s.p c=L:=⟨_,rfl⟩
 rw [hL] at y0 hI ⊢
 obtain ⟨nl,hnl⟩:∃nl,L.length=nl:=⟨_,rfl⟩
 rw [hnl] at y0 ⊢
 have HI:=zH hI
 have HW1:=zH hw1
 have HB:=zH hB
 have g0:=zh d0 0 rfl
 have g1:=zh d0 1 rfl
 have p3:w1.cell? ⟨bS,3,none⟩=some (.slice (some ⟨bc,oc,none⟩) s.p.t.cases.length kc):=zh ((hB.block _ (zj hb)).trans hb) 3 rfl
 have p9:w1.cell? ⟨bS,9,none⟩=some (.slice (some ⟨bx,ox,none⟩) s.xs.length kx):=zh ((hB.block _ (zj hb)).trans hb) 9 rfl
 have h1:(0:Int)≤(e:Int):=by omega
 have h2:(e:Int)<(s.xs.length:Int):=by omega
 have h3:(0:Int)≤(c:Int):=by omega
 have h4:(c:Int)<(s.p.t.cases.length:Int):=by omega
 have lbs:=zj hb
 clear hw1 d0 hB hX hC hb hc hRw hLv hI hin hL hnl x1 x2 y1 y2
 go_enter Tryz.func33,Tryz.ntmps33
 go_wp2_with fail
 rw [HW1.out]
 go_quiet (fail)
 go_wp2_with fail
 go_ret
 exact ⟨_,_,rfl,IAt.keep HI.out (zR (Below.refl w.heap.size w1) _),zR HB.out _⟩
end
section
open Go.RowKit Go.Shelf
attribute [local go_sem] Oper.semAt_some
set_option maxRecDepth 100000 in
theorem at0_any (s:Sy) (h:Fh) (e k:Nat) (_he:e<s.xs.length) (hop:h.op=0) (A SV AV AX AF AR:Option Addr) (kc ks kv kx lf cf:Nat) (out:List Int) (cr bS bF bR bH bV bI gH:Nat) (w:World)
  (_hW:AtW s A SV AV AX kc ks kv kx h AF lf cf out AR cr bS bF bR bH bV bI gH w) :
  Calls Tryz.prog 34 #[.agg #[.int .i64 (e:Int),.int .i64 (k:Int)]] w fun r w'=>r=.returned (.bool (xv s out h (e,k)))∧Below w.heap.size w w':=by
 obtain ⟨w1,hw1,d0,hs1,hB⟩:=zm w #[.int .i64 (e:Int),.int .i64 (k:Int)] 84
 have hE:xv s out h (e,k)=true:=by unfold xv;rw [if_pos hop]
 rw [hE]
 have HW1:=zH hw1
 have HB:=zH hB
 clear hw1 d0 hB _hW hE hop _he hs1
 go_enter Tryz.func34,Tryz.ntmps34
 go_wp2_with fail
 rw [HW1.out]
 go_wp2_with fail
 go_ret
 exact ⟨rfl,HB.out⟩
set_option maxRecDepth 100000 in
theorem at1_any (s:Sy) (h:Fh) (e k:Nat) (he:e<s.xs.length) (c q:Nat) (hc:s.xs[e].c=(c:Int)) (hcl:c<s.p.t.cases.length) (hq:q<(yf s.p c).length) (hhp:h.p=(q:Int)) (hop:h.op=1) (A SV AV AX AF AR:Option Addr) (kc ks kv kx lf cf:Nat) (out:List Int) (cr bS bF bR bH bV bI gH:Nat) (w:World)
  (hW:AtW s A SV AV AX kc ks kv kx h AF lf cf out AR cr bS bF bR bH bV bI gH w) :
  Calls Tryz.prog 35 #[.agg #[.int .i64 (e:Int),.int .i64 (k:Int)],.pointer (some ⟨bI,0,none⟩),.pointer (some ⟨bF,0,none⟩)] w fun r w'=>r=.returned (.bool (xv s out h (e,k)))∧Below w.heap.size w w':=by
 obtain ⟨w1,hw1,d0,hs1,hB⟩:=zm w #[.int .i64 (e:Int),.int .i64 (k:Int)] 84
 have hE:xv s out h (e,k)=decide ((yf s.p c).getD q 0=h.v):=by
  unfold xv
  rw [if_neg (by rw [hop];decide),if_pos hop]
  dsimp only
  rw [zD he,hc,hhp,Int.toNat_natCast,Int.toNat_natCast]
 rw [hE]
 have HC:=zH (ati_any s h e k c he hc hcl A SV AV AX AF AR kc ks kv kx lf cf out cr bS bF bR bH bV bI gH w1.drew (hW.keep hB.drew))
 have hF:=hW.hF
 unfold fcs at hF
 rw [hhp] at hF
 obtain ⟨vv,hoo⟩:∃x,h.v=x:=⟨_,rfl⟩
 rw [hoo] at hF ⊢
 obtain ⟨L,hL⟩:∃L,yf s.p c=L:=⟨_,rfl⟩
 rw [hL] at HC hq ⊢
 obtain ⟨y,hy⟩:∃y,L.getD q 0=y:=⟨_,rfl⟩
 have HY:Hid (L[q]=y):=by rw [Hid,←hy,zD hq]
 rw [hy]
 have hIw:=hW.hI
 have lF:=zj hF
 have lI:=zj hIw
 have HKP:Hid (∀X,Below w1.heap.size w1 X→X.heap[bF]?=some (.cells #[.int .i64 h.op,.int .i64 (q:Int),.int .i64 h.o,.int .i64 vv,.int .i64 h.g,.slice AF lf cf] 41 (0,0))∧X.heap[bI]?=some (.cells #[.func (.func 33) #[] #[.pointer (some ⟨bS,0,none⟩)]] 88 (0,0))∧X.heap[w.heap.size]?=some (.cells #[.int .i64 (e:Int),.int .i64 (k:Int)] 84 (0,0))):=
  fun X hX=>⟨(hX.block _ (by omega)).trans ((hB.block _ lF).trans hF),(hX.block _ (by omega)).trans ((hB.block _ lI).trans hIw),(hX.block _ (by omega)).trans d0⟩
 have HW1:=zH hw1
 have HB:=zH hB
 have HS1:=zH hs1
 obtain ⟨n,hn⟩:∃n,L.length=n:=⟨_,rfl⟩
 have HN:=zH hn
 have hqn:q<n:=by omega
 rw [hn] at HC
 have h5:(0:Int)≤(q:Int):=by omega
 have h6:(q:Int)<(n:Int):=by omega
 clear hw1 d0 hB hW hF hIw hE hL hoo hop hhp hc hcl he hs1 hy hn
 go_enter Tryz.func35,Tryz.ntmps35
 go_wp2_with fail
 rw [HW1.out]
 refine zz [(0,true),(1,true),(3,true),(4,true),(7,true),(8,true),(2,false),(5,false),(6,false),(9,false),(10,false)] (fun X=>X.heap[bF]?=some (.cells #[.int .i64 h.op,.int .i64 (q:Int),.int .i64 h.o,.int .i64 vv,.int .i64 h.g,.slice AF lf cf] 41 (0,0))∧X.heap[bI]?=some (.cells #[.func (.func 33) #[] #[.pointer (some ⟨bS,0,none⟩)]] 88 (0,0))∧X.heap[w.heap.size]?=some (.cells #[.int .i64 (e:Int),.int .i64 (k:Int)] 84 (0,0))) (by kernel_rfl) (by kernel_rfl) (HKP.out _ (Below.refl _ _).drew) ?_
 repeat
  apply zM rfl
  · rintro K' hK' X ⟨u1,u2,u3⟩
    have q1:=zh u1 1 rfl
    have q3:=zh u1 3 rfl
    have i0:=zh u2 0 rfl
    have g0:=zh u3 0 rfl
    have g1:=zh u3 1 rfl
    clear u1 u2 u3
    go_simp
    exact hK'
 refine zC rfl ?_
 intro K' hK'
 go_simp
 refine HC.out.mono ?_
 rintro r w5 ⟨A',c',rfl,hI5,hb5⟩
 have hb5:Below w1.heap.size w1 w5:=(Below.refl _ w1).drew.trans (hb5.mono (Nat.le_refl _))
 have HB5:=zH (HB.out.trans (hb5.mono HB.out.size))
 have HK5:=zH (HKP.out w5 hb5)
 obtain ⟨b4,o4,rfl,hb4,z4⟩:=hI5.at_ q (by rw [HN.out];exact hqn)
 rw [HY.out] at z4
 have HZ4:=zH z4
 clear hI5 HC hb5 z4
 refine hK' _ _ HK5.out ?_
 clear hK' K'
 have z4:=HZ4.out
 refine zC rfl ?_
 intro K' hK'
 go_simp
 refine hK' _ _ HK5.out ?_
 clear hK' K'
 refine zC rfl ?_
 intro K' hK'
 go_simp
 refine hK' _ _ HK5.out ?_
 clear hK' K'
 refine zC rfl ?_
 intro K' hK'
 go_simp
 refine hK' _ _ HK5.out ?_
 clear hK' K'
 refine zC rfl ?_
 intro K' hK'
 go_simp
 refine hK' _ _ HK5.out ?_
 clear hK' K'
 refine zT ?_
 clear HKP HK5 z4 HZ4
 go_wp2_with fail
 go_ret
 exact ⟨zn (by first | rfl | simp),HB5.out⟩
set_option maxRecDepth 100000 in
theorem at2_any (s:Sy) (h:Fh) (e k:Nat) (he:e<s.xs.length) (c:Nat) (hc:s.xs[e].c=(c:Int)) (hcl:c<s.p.t.cases.length) (hLl:(yf s.p c).length≤5) (hop:h.op=2) (A SV AV AX AF AR:Option Addr) (kc ks kv kx lf cf:Nat) (out:List Int) (cr bS bF bR bH bV bI gH:Nat) (w:World)
  (hW:AtW s A SV AV AX kc ks kv kx h AF lf cf out AR cr bS bF bR bH bV bI gH w) :
  Calls Tryz.prog 36 #[.agg #[.int .i64 (e:Int),.int .i64 (k:Int)],.pointer (some ⟨bI,0,none⟩),.pointer (some ⟨bF,0,none⟩)] w fun r w'=>r=.returned (.bool (xv s out h (e,k)))∧Below w.heap.size w w':=by
 obtain ⟨w1,hw1,d0,hs1,hB⟩:=zm w #[.int .i64 (e:Int),.int .i64 (k:Int)] 84
 have hE:xv s out h (e,k)=decide (h.v∈yf s.p c):=by
  unfold xv
  rw [if_neg (by rw [hop];decide),if_neg (by rw [hop];decide),if_pos hop]
  dsimp only
  rw [zD he,hc,Int.toNat_natCast]
 rw [hE]
 have HC:=zH (ati_any s h e k c he hc hcl A SV AV AX AF AR kc ks kv kx lf cf out cr bS bF bR bH bV bI gH w1 (hW.keep hB))
 have hF:=hW.hF
 unfold fcs at hF
 obtain ⟨vv,hoo⟩:∃x,h.v=x:=⟨_,rfl⟩
 rw [hoo] at hF ⊢
 obtain ⟨L,hL⟩:∃L,yf s.p c=L:=⟨_,rfl⟩
 rw [hL] at HC hLl ⊢
 have hIw:=hW.hI
 have lF:=zj hF
 have lI:=zj hIw
 have HKP:Hid (∀X,Below w1.heap.size w1 X→X.cell? ⟨bF,3,none⟩=some (.int .i64 vv)):=fun X hX=>zh ((hX.block _ (by omega)).trans ((hB.block _ lF).trans hF)) 3 rfl
 have i0:=zh ((hB.block _ lI).trans hIw) 0 rfl
 have g0:=zh d0 0 rfl
 have g1:=zh d0 1 rfl
 have HW1:=zH hw1
 have HB:=zH hB
 obtain ⟨n,hn⟩:∃n,L.length=n:=⟨_,rfl⟩
 have HN:=zH hn
 rw [hn] at HC hLl
 clear hw1 d0 hB hW hF hIw hE hL hoo hop hc hcl he hs1 hn
 go_enter Tryz.func36,Tryz.ntmps36
 go_upto_region 1 with fail
 rw [HW1.out]
 go_wp2_with fail
 refine HC.out.mono ?_
 rintro r w5 ⟨A',c',rfl,hI5,hb5⟩
 have hb5:Below w1.heap.size w1 w5:=hb5
 have HB5:=zH (HB.out.trans (hb5.mono HB.out.size))
 have p3:=HKP.out w5 hb5
 have HI5:=zH hI5
 have lF5:bF<w5.heap.size:=by have:=HB5.out.size;omega
 clear hI5 HC hb5 i0 g0 g1
 go_wp2_with fail
 go_loop [11] (fun i=>∃m:Nat,m≤n∧i=.int .i64 (m:Int)∧Hid (∀j (h:j<L.length),j<m→¬L[j]=vv)) (fun i=>n-(intOf i).toNat)
 case atStart=>exact ⟨0,by omega,rfl,fun j _ h=>absurd h (by omega)⟩
 case round=>
  obtain ⟨m,hm,rfl,hno⟩:=hrel
  by_cases hlt:m<n
  · have hml:m<L.length:=by have:=HN.out;omega
    obtain ⟨b,off,rfl,hbl,z0⟩:=HI5.out.at_ m hml
    obtain ⟨x,hx⟩:∃x,L[m]=x:=⟨_,rfl⟩
    have HX:=zH hx
    rw [hx] at z0
    have hk0:(0:Int)≤(m:Int):=by omega
    have hk1:(m:Int)<(n:Int):=by omega
    clear hx
    by_cases hxv:x=vv
    · subst hxv
      have hin:Hid (decide (x∈L)=true):=decide_eq_true (by rw [←HX.out];exact List.getElem_mem hml)
      clear hno HX
      go_wp2_with fail
      go_ret
      exact ⟨zn hin.out.symm,HB5.out⟩
    · have hno2 : Hid (∀ j (h : j < L.length), j < m + 1 → ¬ L[j] = vv) := fun j h h2 => by
       by_cases e:j=m
       · subst e;rw [HX.out];exact hxv
       · exact hno.out j h (by omega)
      clear HX hno
      go_wp2_with fail
      go_round
      case rel=>exact ⟨m+1,by omega,by go_num,hno2⟩
      case measure=>simp [intOf];omega
  · obtain rfl:n=m:=by omega
    have hni:Hid (decide (vv∈L)=false):=decide_eq_false fun h=>by
     obtain ⟨j,hj,e⟩:=List.getElem_of_mem h
     exact hno.out j hj (by have:=HN.out;omega) e
    clear hno
    go_wp2_with fail
    go_ret
    exact ⟨zn hni.out.symm,HB5.out⟩
set_option maxRecDepth 100000 in
theorem at3_any (s:Sy) (h:Fh) (e k:Nat) (he:e<s.xs.length) (K N q o' S u:Nat) (hFi:Fine s K N) (hk:k≤K) (hq:q<N) (hhp:h.p=(q:Int)) (ho:h.o=(o':Int)) (ho5:o'<5) (hu:xw s.xs[e] k q=(u:Int)) (hul:u<s.vs.length) (hS:(qj s.vs s.vs.length).getD u 0=(S:Int)) (hS32:S<32) (hop:h.op=3) (A SV AV AX AF AR:Option Addr) (kc ks kv kx lf cf:Nat) (out:List Int) (cr bS bF bR bH bV bI gH:Nat) (w:World)
  (hW:AtW s A SV AV AX kc ks kv kx h AF lf cf out AR cr bS bF bR bH bV bI gH w) :
  Calls Tryz.prog 37 #[.agg #[.int .i64 (e:Int),.int .i64 (k:Int)],.pointer (some ⟨bH,0,none⟩),.pointer (some ⟨bV,0,none⟩),.pointer (some ⟨bF,0,none⟩)] w fun r w'=>r=.returned (.bool (xv s out h (e,k)))∧Below w.heap.size w w':=by
 obtain ⟨w1,hw1,d0,hs1,hB⟩:=zm w #[.int .i64 (e:Int),.int .i64 (k:Int)] 84
 have hE:xv s out h (e,k)=S.testBit o':=by
  unfold xv
  rw [if_neg (by rw [hop];decide),if_neg (by rw [hop];decide),if_neg (by rw [hop];decide),if_pos hop]
  dsimp only
  rw [zD he,hhp,Int.toNat_natCast,hu,Int.toNat_natCast,hS,Int.toNat_natCast,ho,Int.toNat_natCast]
 rw [hE]
 have hC:=atv_any s K N hFi h e k q he hk hq hhp A SV AV AX AF AR kc ks kv kx lf cf out cr bS bF bR bH bV bI gH w1.drew (hW.keep hB.drew)
 rw [hu] at hC
 have HC:=zH hC
 have hF:=hW.hF
 unfold fcs at hF
 rw [ho] at hF
 have hHw:=hW.hH
 have hVw:=hW.hV
 have hGw:=hW.hG
 have z0:=hGw.cell u (by rw [jd];exact hul)
 have e0:(qj s.vs s.vs.length)[u]'(by rw [jd];exact hul)=(S:Int):=by rw [←hS,zD (by rw [jd];exact hul)]
 rw [e0] at z0
 obtain ⟨n,hn⟩:∃n,s.vs.length=n:=⟨_,rfl⟩
 rw [hn] at hHw hul
 have lF:=zj hF
 have lH:=zj hHw
 have lV:=zj hVw
 have lG:=hGw.lt
 have HKP:Hid (∀X,Below w1.heap.size w1 X→X.heap[bF]?=some (.cells #[.int .i64 h.op,.int .i64 h.p,.int .i64 (o':Int),.int .i64 h.v,.int .i64 h.g,.slice AF lf cf] 41 (0,0))∧X.heap[bH]?=some (.cells #[.slice (some ⟨gH,0,none⟩) n n] 36 (0,0))∧X.heap[bV]?=some (.cells #[.func (.func 32) #[] #[.pointer (some ⟨bS,0,none⟩),.pointer (some ⟨bF,0,none⟩)]] 85 (0,0))∧X.heap[w.heap.size]?=some (.cells #[.int .i64 (e:Int),.int .i64 (k:Int)] 84 (0,0))):=
  fun X hX=>⟨(hX.block _ (by omega)).trans ((hB.block _ lF).trans hF),(hX.block _ (by omega)).trans ((hB.block _ lH).trans hHw),(hX.block _ (by omega)).trans ((hB.block _ lV).trans hVw),(hX.block _ (by omega)).trans d0⟩
 have HZ0:Hid (∀X,Below w1.heap.size w1 X→X.cell? ⟨gH,u,none⟩=some (.int .i64 (S:Int))):=fun X hX=>(hX.cell (p:=⟨gH,u,none⟩) (by show gH<w1.heap.size;omega)).trans ((hB.cell (p:=⟨gH,u,none⟩) lG).trans z0)
 have HW1:=zH hw1
 have HB:=zH hB
 have hb1:=jk hS32 ho5
 have h5:(0:Int)≤(u:Int):=by omega
 have h6:(u:Int)<(n:Int):=by omega
 have hoi0:(0:Int)≤(o':Int):=by omega
 have hG00:(0:Int)≤(S:Int):=by omega
 have hmn:min o' 64=o':=by omega
 obtain ⟨bt,hbt⟩:∃bt,S.testBit o'=bt:=⟨_,rfl⟩
 rw [hbt] at hb1 ⊢
 clear hw1 d0 hB hW hF hHw hVw hGw hE hop hhp ho he hs1 hu hS z0 e0 hFi hC hk hq hbt hn
 go_enter Tryz.func37,Tryz.ntmps37
 go_wp2_with fail
 rw [HW1.out]
 refine zz [(0,true),(1,true),(2,true),(6,true),(7,true),(3,false),(4,false),(5,false),(8,false),(9,false),(10,false),(11,false)] (fun X=>X.heap[bF]?=some (.cells #[.int .i64 h.op,.int .i64 h.p,.int .i64 (o':Int),.int .i64 h.v,.int .i64 h.g,.slice AF lf cf] 41 (0,0))∧X.heap[bH]?=some (.cells #[.slice (some ⟨gH,0,none⟩) n n] 36 (0,0))∧X.heap[bV]?=some (.cells #[.func (.func 32) #[] #[.pointer (some ⟨bS,0,none⟩),.pointer (some ⟨bF,0,none⟩)]] 85 (0,0))∧X.heap[w.heap.size]?=some (.cells #[.int .i64 (e:Int),.int .i64 (k:Int)] 84 (0,0))) (by kernel_rfl) (by kernel_rfl) (HKP.out _ (Below.refl _ _).drew) ?_
 repeat
  apply zM rfl
  · rintro K' hK' X ⟨u1,u2,u3,u4⟩
    have q2:=zh u1 2 rfl
    have j0:=zh u2 0 rfl
    have i0:=zh u3 0 rfl
    have g0:=zh u4 0 rfl
    have g1:=zh u4 1 rfl
    clear u1 u2 u3 u4
    go_simp
    exact hK'
 refine zC rfl ?_
 intro K' hK'
 go_simp
 refine HC.out.mono ?_
 rintro r w5 ⟨rfl,hb5⟩
 have hb5:Below w1.heap.size w1 w5:=(Below.refl _ w1).drew.trans (hb5.mono (Nat.le_refl _))
 have HB5:=zH (HB.out.trans (hb5.mono HB.out.size))
 have HK5:=zH (HKP.out w5 hb5)
 have z4:=HZ0.out w5 hb5
 clear HC hb5 HZ0
 refine hK' _ _ HK5.out ?_
 clear hK' K'
 refine zC rfl ?_
 intro K' hK'
 go_simp
 refine hK' _ _ HK5.out ?_
 clear hK' K'
 refine zC rfl ?_
 intro K' hK'
 go_simp
 refine hK' _ _ HK5.out ?_
 clear hK' K'
 refine zC rfl ?_
 intro K' hK'
 go_simp
 refine hK' _ _ HK5.out ?_
 clear hK' K'
 refine zC rfl ?_
 intro K' hK'
 go_simp
 refine hK' _ _ HK5.out ?_
 clear hK' K'
 refine zC rfl ?_
 intro K' hK'
 go_simp
 refine hK' _ _ HK5.out ?_
 clear hK' K'
 refine zC rfl ?_
 intro K' hK'
 go_simp
 refine hK' _ _ HK5.out ?_
 clear hK' K'
 refine zT ?_
 clear HKP HK5 z4
 go_wp2_with fail
 go_ret
 exact ⟨rfl,HB5.out⟩
set_option maxRecDepth 100000 in
theorem at4_any (s:Sy) (h:Fh) (e k:Nat) (he:e<s.xs.length) (K N q:Nat) (hFi:Fine s K N) (hk:k≤K) (hq5:q<5) (hhp:h.p=(q:Int)) (hfl:∀r∈s.xs[e].word,∃F:Nat,r.f=(F:Int)∧F<32) (hop:h.op=4) (A SV AV AX AF AR:Option Addr) (kc ks kv kx lf cf:Nat) (out:List Int) (cr bS bF bR bH bV bI gH:Nat) (w:World)
  (hW:AtW s A SV AV AX kc ks kv kx h AF lf cf out AR cr bS bF bR bH bV bI gH w) :
  Calls Tryz.prog 38 #[.agg #[.int .i64 (e:Int),.int .i64 (k:Int)],.pointer (some ⟨bS,0,none⟩),.pointer (some ⟨bF,0,none⟩)] w fun r w'=>r=.returned (.bool (xv s out h (e,k)))∧Below w.heap.size w w':=by
 obtain ⟨w1,hw1,d0,hs1,hB⟩:=zm w #[.int .i64 (e:Int),.int .i64 (k:Int)] 84
 have hE:xv s out h (e,k)=(decide (0<k)&&((s.xs[e].word.getD (k-1) default).f).toNat.testBit q):=by
  unfold xv
  rw [if_neg (by rw [hop];decide),if_neg (by rw [hop];decide),if_neg (by rw [hop];decide),if_neg (by rw [hop];decide),if_pos hop]
  dsimp only
  rw [zD he,hhp,Int.toNat_natCast]
 rw [hE]
 have hF:=hW.hF
 unfold fcs at hF
 rw [hhp] at hF
 have hSw:=hW.hS
 have lF:=zj hF
 have lS:=zj hSw
 have hF1:=(hB.block _ lF).trans hF
 have hS1:=(hB.block _ lS).trans hSw
 have g0:=zh d0 0 rfl
 have g1:=zh d0 1 rfl
 have q1:=zh hF1 1 rfl
 obtain ⟨bx,ox,A1,c1,A2,c2,eX,hbx,x0,x1,x2,hRw,hLw⟩:=(hW.xs.keep hB).row e he
 subst eX
 have p9:w1.cell? ⟨bS,9,none⟩=some (.slice (some ⟨bx,ox,none⟩) s.xs.length kx):=zh hS1 9 rfl
 have h1:(0:Int)≤(e:Int):=by omega
 have h2:(e:Int)<(s.xs.length:Int):=by omega
 obtain ⟨x,hx⟩:∃x,x=s.xs[e]:=⟨_,rfl⟩
 have hwl:=(hFi.word _ (List.getElem_mem he)).1
 rw [←hx] at hfl hwl x1 hRw ⊢
 have HW1:=zH hw1
 have HB:=zH hB
 have hs1':=hs1
 clear hw1 d0 hB hW hF hF1 hSw hS1 hE hop hhp x0 x2 hx hLw
 by_cases hkz:0<k
 case neg=>
  have hE2:(decide (0<k)&&((x.word.getD (k-1) default).f).toNat.testBit q)=false:=by rw [decide_eq_false hkz];rfl
  rw [hE2]
  have hk1:decide ((k:Int)>0)=false:=decide_eq_false (by omega)
  obtain ⟨ki,hki⟩:∃ki:Int,(k:Int)=ki:=⟨_,rfl⟩
  rw [hki] at hk1 HW1 g1 ⊢
  clear hfl hRw x1 hE2 hkz hki
  go_enter Tryz.func38,Tryz.ntmps38
  go_wp2_with fail
  rw [HW1.out]
  refine zz [(0,true),(1,true),(2,true),(3,true),(4,true),(5,true),(6,true),(7,true),(8,true),(9,true),(10,true),(11,true),(12,true),(13,true),(14,true),(15,true),(16,true),(17,true),(18,true),(19,true),(20,true),(21,true),(22,true),(23,true)] (fun X=>X=w1.drew) (by kernel_rfl) (by kernel_rfl) rfl ?_
  repeat
   apply zM rfl
   · rintro K' hK' X rfl
     go_simp
     exact hK'
  refine zT ?_
  go_wp2_with fail
  go_ret
  exact ⟨rfl,HB.out.drew⟩
 case pos=>
  obtain ⟨k,rfl⟩:∃j,k=j+1:=⟨k-1,by omega⟩
  obtain ⟨bw,ow,eW,hbw,y0,y1,y2,y3,y4,y5,y6⟩:=hRw.row k (by omega)
  subst eW
  have hgw:x.word.getD k default=x.word[k]'(by omega):=zD (by omega) default
  obtain ⟨F,hFf,hF32⟩:=hfl _ (List.getElem_mem (by omega:k<x.word.length))
  rw [hFf] at y6
  have hE2:(decide (0<k+1)&&((x.word.getD (k+1-1) default).f).toNat.testBit q)=F.testBit q:=by
   rw [Nat.add_sub_cancel,hgw,hFf,Int.toNat_natCast];simp
  rw [hE2]
  have hb1:=jk hF32 hq5
  obtain ⟨bt,hbt⟩:∃bt,F.testBit q=bt:=⟨_,rfl⟩
  rw [hbt] at hb1 ⊢
  obtain ⟨nw,hnw⟩:∃nw,x.word.length=nw:=⟨_,rfl⟩
  rw [hnw] at x1 hwl
  have hk0:decide (((k+1:Nat):Int)>0)=true:=decide_eq_true (by omega)
  have hw0:IntKind.i64.wrap (((k+1:Nat):Int)-1)=(k:Int):=by have:=hFi.k6;rw [IntKind.wrap_i64];omega
  have h3:(0:Int)≤(k:Int):=by omega
  have h4:(k:Int)<(nw:Int):=by omega
  have hoi0:(0:Int)≤(q:Int):=by omega
  have hG00:(0:Int)≤(F:Int):=by omega
  have hmn:min q 64=q:=by omega
  obtain ⟨k1,hk1⟩:∃k1:Int,((k+1:Nat):Int)=k1:=⟨_,rfl⟩
  rw [hk1] at hk0 hw0 g1 HW1 ⊢
  clear hfl hRw hgw hFf hE2 hbt hnw y0 y1 y2 y3 y4 y5 hFi hwl he hk1 hk
  go_enter Tryz.func38,Tryz.ntmps38
  go_wp2_with fail
  rw [HW1.out]
  refine zz [(0,true),(1,true),(2,true),(3,true),(4,true),(5,true),(6,true),(7,true),(8,true),(9,true),(10,true),(11,true),(12,true),(13,true),(14,true),(15,true),(16,true),(17,true),(18,true),(19,true),(20,true),(21,true),(22,true),(23,true)] (fun X=>X=w1.drew) (by kernel_rfl) (by kernel_rfl) rfl ?_
  repeat
   apply zM rfl
   · rintro K' hK' X rfl
     go_simp
     exact hK'
  refine zT ?_
  go_wp2_with fail
  go_ret
  exact ⟨rfl,HB.out.drew⟩
set_option maxRecDepth 100000 in
theorem at5_any (s:Sy) (h:Fh) (e k:Nat) (he:e<s.xs.length) (K N q u:Nat) (hFi:Fine s K N) (hk:k≤K) (hq:q<N) (hhp:h.p=(q:Int)) (hu:xw s.xs[e] k q=(u:Int)) (hul:u<s.vs.length) (hop:h.op=5) (A SV AV AX AF AR:Option Addr) (kc ks kv kx lf cf:Nat) (out:List Int) (cr bS bF bR bH bV bI gH:Nat) (w:World)
  (hW:AtW s A SV AV AX kc ks kv kx h AF lf cf out AR cr bS bF bR bH bV bI gH w) (hol:0<out.length→out.length=s.vs.length) :
  Calls Tryz.prog 39 #[.agg #[.int .i64 (e:Int),.int .i64 (k:Int)],.pointer (some ⟨bR,0,none⟩),.pointer (some ⟨bV,0,none⟩),.pointer (some ⟨bF,0,none⟩)] w fun r w'=>r=.returned (.bool (xv s out h (e,k)))∧Below w.heap.size w w':=by
 obtain ⟨w1,hw1,d0,hs1,hB⟩:=zm w #[.int .i64 (e:Int),.int .i64 (k:Int)] 84
 have hE:xv s out h (e,k)=(decide (0<out.length)&&decide (out.getD u 0=h.v)):=by
  unfold xv
  rw [if_neg (by rw [hop];decide),if_neg (by rw [hop];decide),if_neg (by rw [hop];decide),if_neg (by rw [hop];decide),if_neg (by rw [hop];decide),if_pos hop]
  dsimp only
  rw [zD he,hhp,Int.toNat_natCast,hu,Int.toNat_natCast]
 rw [hE]
 have hC:=atv_any s K N hFi h e k q he hk hq hhp A SV AV AX AF AR kc ks kv kx lf cf out cr bS bF bR bH bV bI gH w1.drew (hW.keep hB.drew)
 rw [hu] at hC
 have HC:=zH hC
 have hF:=hW.hF
 unfold fcs at hF
 obtain ⟨vv,hoo⟩:∃x,h.v=x:=⟨_,rfl⟩
 rw [hoo] at hF ⊢
 have hRw:=hW.hR
 have hVw:=hW.hV
 have lF:=zj hF
 have lR:=zj hRw
 have lV:=zj hVw
 have hro:=hW.ro
 have HW1:=zH hw1
 by_cases h0:out.length=0
 · have hE0:(decide (0<out.length)&&decide (out.getD u 0=vv))=false:=by rw [h0];simp
   rw [hE0]
   have r0:=zh ((hB.block _ lR).trans hRw) 0 rfl
   rw [show (#[Value.slice AR out.length cr]:Array Value)[0]=.slice AR 0 cr by rw [h0];rfl] at r0
   have HB:=zH hB
   clear hw1 d0 hB hW hF hRw hVw hE hop hhp he hs1 hu hFi hC hk hq hoo hro HC hE0 hol h0
   go_enter Tryz.func39,Tryz.ntmps39
   go_wp2_with fail
   rw [HW1.out]
   go_quiet (fail)
   go_wp2_with fail
   go_ret
   exact ⟨rfl,zR HB.out _⟩
 have hol2:=hol (by omega)
 obtain ⟨b0,o0,eR,hb0,z0⟩:=hro.at_ u (by omega)
 subst eR
 obtain ⟨y,hy⟩:∃y,out[u]'(by omega)=y:=⟨_,rfl⟩
 rw [hy] at z0
 have hE1:(decide (0<out.length)&&decide (out.getD u 0=vv))=decide (y=vv):=by rw [decide_eq_true (by omega:0<out.length),Bool.true_and,zD (by omega:u<out.length),hy]
 rw [hE1]
 obtain ⟨n,hn⟩:∃n,out.length=n:=⟨_,rfl⟩
 rw [hn] at hRw h0 hol2
 have HKP:Hid (∀X,Below w1.heap.size w1 X→X.heap[bF]?=some (.cells #[.int .i64 h.op,.int .i64 h.p,.int .i64 h.o,.int .i64 vv,.int .i64 h.g,.slice AF lf cf] 41 (0,0))∧X.heap[bR]?=some (.cells #[.slice (some ⟨b0,o0,none⟩) n cr] 38 (0,0))∧X.heap[bV]?=some (.cells #[.func (.func 32) #[] #[.pointer (some ⟨bS,0,none⟩),.pointer (some ⟨bF,0,none⟩)]] 85 (0,0))∧X.heap[w.heap.size]?=some (.cells #[.int .i64 (e:Int),.int .i64 (k:Int)] 84 (0,0))):=
  fun X hX=>⟨(hX.block _ (by omega)).trans ((hB.block _ lF).trans hF),(hX.block _ (by omega)).trans ((hB.block _ lR).trans hRw),(hX.block _ (by omega)).trans ((hB.block _ lV).trans hVw),(hX.block _ (by omega)).trans d0⟩
 have HZ0:Hid (∀X,Below w1.heap.size w1 X→X.cell? ⟨b0,o0+u,none⟩=some (.int .i64 y)):=fun X hX=>(hX.cell (p:=⟨b0,o0+u,none⟩) (by show b0<w1.heap.size;omega)).trans ((hB.cell (p:=⟨b0,o0+u,none⟩) hb0).trans z0)
 have HB:=zH hB
 have h5:(0:Int)≤(u:Int):=by omega
 have h6:(u:Int)<(n:Int):=by omega
 have hn0:((n:Int)>0)=True:=eq_true (by omega)
 have hn1:decide ((n:Int)>0)=true:=decide_eq_true (by omega)
 have hn2:(0:Int)<(n:Int):=by omega
 have hn3:0<n:=by omega
 clear hw1 d0 hB hW hF hRw hVw hE hop hhp he hs1 hu hFi hC hk hq hoo hro hE1 hol hol2 hy hn z0
 go_enter Tryz.func39,Tryz.ntmps39
 go_wp2_with fail
 rw [HW1.out]
 refine zz [(0,true),(1,true),(2,true),(3,true),(4,true),(5,true),(6,true),(7,true),(8,true),(12,true),(13,true),(9,false),(10,false),(11,false),(14,false),(15,false),(16,false)] (fun X=>X.heap[bF]?=some (.cells #[.int .i64 h.op,.int .i64 h.p,.int .i64 h.o,.int .i64 vv,.int .i64 h.g,.slice AF lf cf] 41 (0,0))∧X.heap[bR]?=some (.cells #[.slice (some ⟨b0,o0,none⟩) n cr] 38 (0,0))∧X.heap[bV]?=some (.cells #[.func (.func 32) #[] #[.pointer (some ⟨bS,0,none⟩),.pointer (some ⟨bF,0,none⟩)]] 85 (0,0))∧X.heap[w.heap.size]?=some (.cells #[.int .i64 (e:Int),.int .i64 (k:Int)] 84 (0,0))) (by kernel_rfl) (by kernel_rfl) (HKP.out _ (Below.refl _ _).drew) ?_
 repeat
  apply zM rfl
  · rintro K' hK' X ⟨u1,u2,u3,u4⟩
    have q3:=zh u1 3 rfl
    have j0:=zh u2 0 rfl
    have i0:=zh u3 0 rfl
    have g0:=zh u4 0 rfl
    have g1:=zh u4 1 rfl
    clear u1 u2 u3 u4
    go_simp
    exact hK'
 refine zC rfl ?_
 intro K' hK'
 go_simp
 refine HC.out.mono ?_
 rintro r w5 ⟨rfl,hb5⟩
 have hb5:Below w1.heap.size w1 w5:=(Below.refl _ w1).drew.trans (hb5.mono (Nat.le_refl _))
 have HB5:=zH (HB.out.trans (hb5.mono HB.out.size))
 have HK5:=zH (HKP.out w5 hb5)
 have z4:=HZ0.out w5 hb5
 clear HC hb5 HZ0
 refine hK' _ _ HK5.out ?_
 clear hK' K'
 refine zC rfl ?_
 intro K' hK'
 go_simp
 refine hK' _ _ HK5.out ?_
 clear hK' K'
 refine zC rfl ?_
 intro K' hK'
 go_simp
 refine hK' _ _ HK5.out ?_
 clear hK' K'
 refine zC rfl ?_
 intro K' hK'
 go_simp
 refine hK' _ _ HK5.out ?_
 clear hK' K'
 refine zC rfl ?_
 intro K' hK'
 go_simp
 refine hK' _ _ HK5.out ?_
 clear hK' K'
 refine zC rfl ?_
 intro K' hK'
 go_simp
 refine hK' _ _ HK5.out ?_
 clear hK' K'
 refine zT ?_
 clear HKP HK5 z4
 go_wp2_with fail
 go_ret
 exact ⟨zn (by first | rfl | simp),HB5.out⟩
set_option maxRecDepth 100000 in
theorem at6_any (s:Sy) (h:Fh) (e k:Nat) (_he:e<s.xs.length) (hop:h.op=6) (A SV AV AX AF AR:Option Addr) (kc ks kv kx lf cf:Nat) (out:List Int) (cr bS bF bR bH bV bI gH:Nat) (w:World)
  (hW:AtW s A SV AV AX kc ks kv kx h AF lf cf out AR cr bS bF bR bH bV bI gH w) :
  Calls Tryz.prog 40 #[.agg #[.int .i64 (e:Int),.int .i64 (k:Int)],.pointer (some ⟨bF,0,none⟩)] w fun r w'=>r=.returned (.bool (xv s out h (e,k)))∧Below w.heap.size w w':=by
 obtain ⟨w1,hw1,d0,hs1,hB⟩:=zm w #[.int .i64 (e:Int),.int .i64 (k:Int)] 84
 have hE:xv s out h (e,k)=decide ((k:Int)=h.v):=by
  unfold xv
  rw [if_neg (by rw [hop];decide),if_neg (by rw [hop];decide),if_neg (by rw [hop];decide),if_neg (by rw [hop];decide),if_neg (by rw [hop];decide),if_neg (by rw [hop];decide)]
 rw [hE]
 have hF:=hW.hF
 unfold fcs at hF
 obtain ⟨vv,hoo⟩:∃x,h.v=x:=⟨_,rfl⟩
 rw [hoo] at hF ⊢
 have lF:=zj hF
 have q3:=zh ((hB.block _ lF).trans hF) 3 rfl
 have g0:=zh d0 0 rfl
 have g1:=zh d0 1 rfl
 have HW1:=zH hw1
 have HB:=zH hB
 clear hw1 d0 hB hW hF hE hop hoo _he
 go_enter Tryz.func40,Tryz.ntmps40
 go_upto_region 1 with fail
 rw [HW1.out]
 go_wp2_with fail
 go_ret
 exact ⟨zn (by first | rfl | simp),HB.out⟩
end
section
open Go.RowKit Go.Shelf
def atG (bS bF bR bH bV bI:Nat):Int→Option Value:=
 qQ (qQ (qQ (qQ (qQ (qQ (qQ (fun _=>none) 0 (.func (.func 34) #[] #[])) 1 (.func (.func 35) #[] #[.pointer (some ⟨bI,0,none⟩),.pointer (some ⟨bF,0,none⟩)]))
  2 (.func (.func 36) #[] #[.pointer (some ⟨bI,0,none⟩),.pointer (some ⟨bF,0,none⟩)])) 3 (.func (.func 37) #[] #[.pointer (some ⟨bH,0,none⟩),.pointer (some ⟨bV,0,none⟩),.pointer (some ⟨bF,0,none⟩)]))
  4 (.func (.func 38) #[] #[.pointer (some ⟨bS,0,none⟩),.pointer (some ⟨bF,0,none⟩)])) 5 (.func (.func 39) #[] #[.pointer (some ⟨bR,0,none⟩),.pointer (some ⟨bV,0,none⟩),.pointer (some ⟨bF,0,none⟩)]))
  6 (.func (.func 40) #[] #[.pointer (some ⟨bF,0,none⟩)])
theorem Xv {r:Rd} {N:Nat} (h:yc r=0) (hn:r.n=(N:Int)) (h5:N≤5):∃F:Nat,r.f=(F:Int)∧F<32:=by
 unfold yc at h
 split at h
 · rename_i hne;exact absurd h hne
 · unfold xp at h
   split at h
   · cases h
   · split at h
     · cases h
     · rename_i h2
       obtain ⟨F,hF⟩:=Int.eq_ofNat_of_zero_le (show 0≤r.f by omega)
       refine ⟨F,hF,?_⟩
       have h4:((2^r.n.toNat:Nat):Int)=(2:Int)^r.n.toNat:=by push_cast;rfl
       have h3:r.f<((2^r.n.toNat:Nat):Int):=by first | omega | (rw [h4];omega)
       rw [hF,hn,Int.toNat_natCast] at h3
       have:=Nat.pow_le_pow_right (n:=2) (by omega) h5
       omega
theorem atom_fn {s:Sy} {K N:Nat} (hF:Fine s K N) (hS:Sees s K N) (hl:LowV s.vs) (htk:∀c∈s.p.t.cases,c.inp.length=N) {out:List Int} (hol:0<out.length→out.length=s.vs.length) {h:Fh} (ok:AtmOk N h)
  (A SV AV AX AF AR:Option Addr) (kc ks kv kx lf cf cr bS bF bR bH bV bI gH:Nat) :
  ∃kf kb,atG bS bF bR bH bV bI h.op=some (.func (.func kf) #[] kb)∧Enters Tryz.prog kf∧∀x∈zt (K+1) 0 s.xs.length,∀W,AtW s A SV AV AX kc ks kv kx h AF lf cf out AR cr bS bF bR bH bV bI gH W →
   Calls Tryz.prog kf (#[.agg #[.int .i64 x.1,.int .i64 x.2]]++kb) W fun r w'=>r=.returned (.bool (xv s out h x))∧Below W.heap.size W w':=by
 have h0:=ok.op0
 have h6:=ok.op6
 have hn5:=hF.n5
 have hx:∀x∈zt (K+1) 0 s.xs.length,∃he:x.1<s.xs.length,x.2≤K∧∃c:Nat,s.xs[x.1].c=(c:Int)∧c<s.p.t.cases.length∧(yf s.p c).length=N:=fun x hx=>by
  obtain ⟨_,h1,h2⟩:=xd _ _ x hx
  have he:x.1<s.xs.length:=by omega
  obtain ⟨c,hc,hcl,_⟩:=hS.cs _ (List.getElem_mem he)
  refine ⟨he,by omega,c,hc,hcl,?_⟩
  unfold yf
  rw [List.getD_eq_getElem?_getD,List.getElem?_eq_getElem hcl]
  exact htk _ (List.getElem_mem hcl)
 rcases (by omega:h.op=0∨h.op=1∨h.op=2∨h.op=3∨h.op=4∨h.op=5∨h.op=6) with e | e | e | e | e | e | e
 · refine ⟨_,_,by rw [e];exact rfl,enters_of Tryz.func34 (by kernel_rfl) rfl,fun x hxm W hW=>?_⟩
   obtain ⟨he,hk,c,hc,hcl,hil⟩:=hx x hxm
   exact at0_any s h x.1 x.2 he e A SV AV AX AF AR kc ks kv kx lf cf out cr bS bF bR bH bV bI gH W hW
 · refine ⟨_,_,by rw [e];exact rfl,enters_of Tryz.func35 (by kernel_rfl) rfl,fun x hxm W hW=>?_⟩
   obtain ⟨he,hk,c,hc,hcl,hil⟩:=hx x hxm
   obtain ⟨hp0,hpN⟩:=ok.p (.inl e)
   obtain ⟨q,hq⟩:=Int.eq_ofNat_of_zero_le hp0
   exact at1_any s h x.1 x.2 he c q hc hcl (by omega) hq e A SV AV AX AF AR kc ks kv kx lf cf out cr bS bF bR bH bV bI gH W hW
 · refine ⟨_,_,by rw [e];exact rfl,enters_of Tryz.func36 (by kernel_rfl) rfl,fun x hxm W hW=>?_⟩
   obtain ⟨he,hk,c,hc,hcl,hil⟩:=hx x hxm
   exact at2_any s h x.1 x.2 he c hc hcl (by omega) e A SV AV AX AF AR kc ks kv kx lf cf out cr bS bF bR bH bV bI gH W hW
 · refine ⟨_,_,by rw [e];exact rfl,enters_of Tryz.func37 (by kernel_rfl) rfl,fun x hxm W hW=>?_⟩
   obtain ⟨he,hk,c,hc,hcl,hil⟩:=hx x hxm
   obtain ⟨hp0,hpN⟩:=ok.p (.inr (.inl e))
   obtain ⟨q,hq⟩:=Int.eq_ofNat_of_zero_le hp0
   obtain ⟨ho0,hoN⟩:=ok.o e
   obtain ⟨o,ho⟩:=Int.eq_ofNat_of_zero_le ho0
   have hxm2:=List.getElem_mem he
   obtain ⟨S,e1,e2,_⟩:=Jk hF hS hl hxm2 x.2 hk q (by omega)
   obtain ⟨v,hv,_⟩:=hS.pr hxm2 hk (show q<N by omega)
   have hlt:=hv.lt
   obtain ⟨u,hu⟩:=Int.eq_ofNat_of_zero_le hlt.1
   rw [hu,Int.toNat_natCast] at e1
   exact at3_any s h x.1 x.2 he K N q o S u hF hk (by omega) hq ho (by omega) hu (by omega) e1 e2 e A SV AV AX AF AR kc ks kv kx lf cf out cr bS bF bR bH bV bI gH W hW
 · refine ⟨_,_,by rw [e];exact rfl,enters_of Tryz.func38 (by kernel_rfl) rfl,fun x hxm W hW=>?_⟩
   obtain ⟨he,hk,c,hc,hcl,hil⟩:=hx x hxm
   obtain ⟨hp0,hpN⟩:=ok.p (.inr (.inr (.inl e)))
   obtain ⟨q,hq⟩:=Int.eq_ofNat_of_zero_le hp0
   exact at4_any s h x.1 x.2 he K N q hF hk (by omega) hq (fun r hr=>by
    obtain ⟨hr1,hr2⟩:=(hF.word _ (List.getElem_mem he)).2 r hr
    exact Xv hr1 hr2 hn5) e A SV AV AX AF AR kc ks kv kx lf cf out cr bS bF bR bH bV bI gH W hW
 · refine ⟨_,_,by rw [e];exact rfl,enters_of Tryz.func39 (by kernel_rfl) rfl,fun x hxm W hW=>?_⟩
   obtain ⟨he,hk,c,hc,hcl,hil⟩:=hx x hxm
   obtain ⟨hp0,hpN⟩:=ok.p (.inr (.inr (.inr e)))
   obtain ⟨q,hq⟩:=Int.eq_ofNat_of_zero_le hp0
   have hxm2:=List.getElem_mem he
   obtain ⟨v,hv,_⟩:=hS.pr hxm2 hk (show q<N by omega)
   have hlt:=hv.lt
   obtain ⟨u,hu⟩:=Int.eq_ofNat_of_zero_le hlt.1
   exact at5_any s h x.1 x.2 he K N q u hF hk (by omega) hq hu (by omega) e A SV AV AX AF AR kc ks kv kx lf cf out cr bS bF bR bH bV bI gH W hW hol
 · refine ⟨_,_,by rw [e];exact rfl,enters_of Tryz.func40 (by kernel_rfl) rfl,fun x hxm W hW=>?_⟩
   obtain ⟨he,hk,c,hc,hcl,hil⟩:=hx x hxm
   exact at6_any s h x.1 x.2 he e A SV AV AX AF AR kc ks kv kx lf cf out cr bS bF bR bH bV bI gH W hW
end
section
open Go.RowKit Go.Shelf
attribute [local go_sem] Oper.semAt_some
def YK (xs:List Bool) (n:Int) (w:World) (e:Ending) (w':World):Prop:=∃A c,e=.returned (.tuple #[.slice A xs.length c,.int .i64 n])∧BAt w' w'.heap.size A xs∧Below w.heap.size w w'
end
section
open Go.RowKit Go.Shelf
theorem Z6 {K:Kd} {w:World} {base:Nat} {v:Value} {n:Nat} {cs:List Value} (h:OwnR K w base v n cs):∀r,v.ownBlock=some r→∀o,w.heap[r]?=some o→o.isCells=true:=by
 intro r hr o ho
 rcases h.2 with ⟨rfl,_⟩ | ⟨g,cap,cur,rfl,_,hg,_⟩
 · cases hr
 · have e:g=r:=by injection hr
   subst e
   rw [hg] at ho
   cases ho
   rfl
structure AtIn (b:Nat) (bs:List Bool) (w0 W:World):Prop where
 wrote:Wrote (fun z=>z=b) w0 W
 box:∃P c,W.heap[b]?=some (.cells #[.slice P bs.length c] 46 (0,0))∧OwnR kBl W w0.heap.size (.slice P bs.length c) bs.length (bs.map .bool)
section
variable {b:Nat} {bs:List Bool} {w0 W W':World}
theorem AtIn.turn {row:Option Nat} (h:AtIn b bs w0 W) (hb:b<w0.heap.size) (hg:W.grownBy W' row) (hr:∀r,row=some r→w0.heap.size≤r∧∃o:Obj,W.heap[r]?=some o∧o.isCells=false):AtIn b bs w0 W':=by
 obtain ⟨P,c,hx,ho⟩:=h.box
 have hsz:=h.wrote.size
 refine ⟨h.wrote.trans (Wrote.of_grown (R:=fun k=>w0.heap.size≤k) hg (fun k e hk=>(hr k e).1)) (fun k h1 h2=>by omega),P,c,(hg.block b (by omega) (fun e=>by have:=(hr b e.symm).1;omega)).trans hx,ho.kept hg ?_⟩
 rcases e:(Value.slice P bs.length c).ownBlock with _ | g
 · exact .inl rfl
 · refine .inr fun e2=>?_
   obtain ⟨o,h1,h2⟩:=(hr g e2.symm).2
   have:=Z6 ho g e o h1
   rw [this] at h2;cases h2
theorem AtIn.call (h:AtIn b bs w0 W) (hb:b<w0.heap.size) (hw:Below W.heap.size W W'):AtIn b bs w0 W':=by
 obtain ⟨P,c,hx,ho⟩:=h.box
 have hsz:=h.wrote.size
 exact ⟨h.wrote.trans (Wrote.of_below hw) (fun _ _ h=>h),P,c,(hw.block b (by omega)).trans hx,ho.below hw (Nat.le_refl _)⟩
theorem AtIn.push {P P2:Option Addr} {c c2:Nat} {v:Bool} {W1:World} (h:AtIn b bs w0 W) (hb:b<w0.heap.size) (hx:W.heap[b]?=some (.cells #[.slice P bs.length c] 46 (0,0))) (ho:OwnR kBl W w0.heap.size (.slice P bs.length c) bs.length (bs.map .bool))
  (ho1:OwnR kBl W1 w0.heap.size (.slice P2 (bs.length+1) c2) (bs.length+1) (bs.map .bool++[.bool v])) (hg:W.grownBy W1 (Value.slice P bs.length c).ownBlock) :
  AtIn b (bs++[v]) w0 (W1.setCell ⟨b,0,none⟩ (.slice P2 (bs.length+1) c2)):=by
 have hsz:=h.wrote.size
 have hlo:=ho.lt
 have hb1:=(hg.block b (by omega) (fun e=>by have:=(hlo b e.symm).1;omega)).trans hx
 obtain ⟨x1,x2,x3⟩:=qR hb1 (.slice P2 (bs.length+1) c2)
 have a1:Wrote (fun k=>w0.heap.size≤k) W W1:=Wrote.of_grown hg (fun k e hk=>(hlo k e).1)
 have a2:Wrote (fun k=>k=b) W1 (W1.setCell ⟨b,0,none⟩ (.slice P2 (bs.length+1) c2)):=Wrote.of_grown (zQ W1 _ 0 _) (fun k e hk=>by cases e;rfl)
 refine ⟨(h.wrote.trans a1 (fun k h1 h2=>by omega)).trans a2 (fun _ _ h=>h),P2,c2,by rw [List.length_append];exact x1,?_⟩
 rw [List.length_append,List.map_append]
 refine OwnR.kept (row:=some b) ho1 (zQ W1 b 0 _) ?_
 rcases e:(Value.slice P2 (bs.length+1) c2).ownBlock with _ | g
 · exact .inl rfl
 · exact .inr fun e2 => by
    have:=(ho1.lt g e).1
    cases e2
    omega
theorem AtIn.keeps {P:Option Addr} {c bi:Nat} {W1:World} (h:AtIn b bs w0 W) (hb:b<w0.heap.size) (hi:bi<w0.heap.size) (hne:bi≠b) (hx:W.heap[b]?=some (.cells #[.slice P bs.length c] 46 (0,0))) (ho:OwnR kBl W w0.heap.size (.slice P bs.length c) bs.length (bs.map .bool))
  (hg:W.grownBy W1 (Value.slice P bs.length c).ownBlock) (v:Value):KeepsFrom w0.heap.size W (W1.setCell ⟨b,0,none⟩ v)∧KeepB (fun k=>k=bi) W (W1.setCell ⟨b,0,none⟩ v):=by
 have hlo:=ho.lt
 have hsz:=h.wrote.size
 have hs1:=hg.size
 have hb1:=(hg.block b (by omega) (fun e=>by have:=(hlo _ e.symm).1;omega)).trans hx
 obtain ⟨x1,x2,x3⟩:=qR hb1 v
 refine ⟨⟨by simp [World.setCell];omega,fun k o hk hk1 ho1=>?_⟩,⟨by simp [World.setCell];omega,fun k hk hl=>?_⟩⟩
 · refine (x3 k (by omega)).trans ((hg.block k (zj hk1) (fun e=>?_)).trans hk1)
   have:=Z6 ho k e.symm o hk1
   rw [this] at ho1;cases ho1
 · subst hk
   exact (x3 _ (by omega)).trans (hg.block _ (by omega) (fun e=>by have:=(hlo _ e.symm).1;omega))
end
end
section
open Go.RowKit Go.Shelf
attribute [local go_sem] Oper.semAt_some
theorem blk_lt' {w:World} {b:Nat} {o:Obj} (h:w.heap[b]?=some o):b<w.heap.size:=(Array.getElem?_eq_some_iff.1 h).1
set_option maxRecDepth 100000 in
theorem wj (s:Sy) (hs:LowS s) (hf:xY s.p) (out:List Int) (d:Nat) (f:Fm) (hsz:(yx d f).1≤1000000) (A SV AV AX AF AR:Option Addr) (kc ks kv kx cf cr:Nat) (w:World) (hS:SyAt w w.heap.size A SV AV AX s) (hO:IAt w w.heap.size AR out) (hA:FsAt w w.heap.size d AF f.args) :
  Calls Tryz.prog 10 #[.agg (s.vs_ A kc SV ks AV kv AX kx),.agg #[.slice AR out.length cr],.agg (f.vs AF cf)] w (YK (jD s out d f).1 (jD s out d f).2 w):=by
 obtain ⟨wa,hwa,da,hsa,hBa⟩:=zm w (s.vs_ A kc SV ks AV kv AX kx) 35
 obtain ⟨wb,hwb,db,hsb,hBb⟩:=zm wa #[.slice AR out.length cr] 38
 obtain ⟨w1,hw1,dc,hsc,hBc⟩:=zm wb (f.vs AF cf) 41
 have hB:Below w.heap.size w w1:=(hBa.trans (hBb.mono (by omega))).trans (hBc.mono (by omega))
 have da:w1.heap[w.heap.size]?=some (.cells (s.vs_ A kc SV ks AV kv AX kx) 35 (0,0)):=(hBc.block _ (by omega)).trans ((hBb.block _ (by omega)).trans da)
 have db:w1.heap[w.heap.size+1]?=some (.cells #[.slice AR out.length cr] 38 (0,0)):=by rw [←hsa];exact (hBc.block _ (by omega)).trans db
 have dc:w1.heap[w.heap.size+1+1]?=some (.cells (f.vs AF cf) 41 (0,0)):=by rw [←hsa,←hsb];exact dc
 have hz1:w1.heap.size=w.heap.size+3:=by omega
 have HV:=zH (ux s hs hf A SV AV AX kc ks kv kx w1 (hS.up hB))
 have HE:Hid (jD s out d f=if yn s≠0 then ([],yn s) else if 0<out.length∧out.length≠s.vs.length then ([],15) else if kO s.n d f≠0 then ([],kO s.n d f) else if 0<f.args.length then ([],11) else (qr s out f.h,0)):=rfl
 have HVF:=zH (fun h=>xq hf h)
 have HOK:=zH (fun (N:Nat) (hn:s.n=(N:Int)) (h:kO s.n d f=0) (ha:f.args.length=0)=>atm_ok hn h ha)
 have HFC:=zH (fun (X:World) (hX:Below w1.heap.size w1 X)=>fcheck_any s.n d f AF cf X ((hA.keep (hB.trans (hX.mono hB.size))).more (hB.trans (hX.mono hB.size)).size) hsz)
 have HSY:Hid (∀X,Below w1.heap.size w1 X→SyAt X X.heap.size A SV AV AX s):=fun X hX=>(hS.up hB).up hX
 have HOU:Hid (∀X,Below w1.heap.size w1 X→IAt X X.heap.size AR out):=fun X hX=>(hO.keep (hB.trans (hX.mono hB.size))).more (hB.trans (hX.mono hB.size)).size
 have HFW:Hid (∀c,yn s=0→c∈s.p.t.cases→(c.inp.length:Int)=s.p.t.n):=fun c h hc=>by
  obtain ⟨hb0,_⟩:=xq hf h
  have hp0:zV s.p=0:=by
   by_cases h0:zV s.p=0
   · exact h0
   · unfold yn at h
     rw [yO h0] at h
     simp [h0] at h
  exact uy (zX hp0).1 c hc
 have HLV:=zH (fun (h:yn s=0)=>(by
  have h1:=(xq hf h).1
  rw [h1];exact wZ _:LowV s.vs))
 have HSE:=zH (fun (K N:Nat) (hF:Fine s K N) (h:yn s=0)=>(by
  have h1:=(xq hf h).1
  have h2:=hF
  rw [h1] at h2 ⊢
  exact jB h2:Sees s K N))
 have HKL:=zH (fun (K:Nat) (h:s.p.k=(K:Int))=>(by unfold qr;rw [h];rfl:qr s out f.h=(zt (K+1) 0 s.xs.length).map (xv s out f.h)))
 obtain ⟨E,hE⟩:∃E,jD s out d f=E:=⟨_,rfl⟩
 rw [hE] at HE ⊢
 obtain ⟨r,hr⟩:∃r,yn s=r:=⟨_,rfl⟩
 rw [hr] at HV HE HVF HLV HSE HFW
 unfold Sy.vs_ at hwa da HV ⊢
 unfold Fm.vs at hw1 dc HFC ⊢
 have HW1:Hid (((w.alloc (.cells #[.int .i64 s.p.t.n,.int .i64 s.p.t.ins,.int .i64 s.p.t.outs,.slice A s.p.t.cases.length kc,.int .i64 s.p.a.n,.slice SV s.p.a.sts.length ks,.int .i64 s.p.k,.int .i64 s.n,.slice AV s.vs.length kv,.slice AX s.xs.length kx] 35)).alloc (.cells #[.slice AR out.length cr] 38)).alloc (.cells #[.int .i64 f.h.op,.int .i64 f.h.p,.int .i64 f.h.o,.int .i64 f.h.v,.int .i64 f.h.g,.slice AF f.args.length cf] 41)=w1):=by rw [Hid,hwa,hwb,hw1]
 have HB:=zH hB
 have HBX:Hid (∀X,Below w1.heap.size w1 X→X.heap[w.heap.size]?=some (.cells #[.int .i64 s.p.t.n,.int .i64 s.p.t.ins,.int .i64 s.p.t.outs,.slice A s.p.t.cases.length kc,.int .i64 s.p.a.n,.slice SV s.p.a.sts.length ks,.int .i64 s.p.k,.int .i64 s.n,.slice AV s.vs.length kv,.slice AX s.xs.length kx] 35 (0,0))∧X.heap[w.heap.size+1]?=some (.cells #[.slice AR out.length cr] 38 (0,0))∧X.heap[w.heap.size+1+1]?=some (.cells #[.int .i64 f.h.op,.int .i64 f.h.p,.int .i64 f.h.o,.int .i64 f.h.v,.int .i64 f.h.g,.slice AF f.args.length cf] 41 (0,0))):=
  fun X hX=>⟨(hX.block _ (by omega)).trans da,(hX.block _ (by omega)).trans db,(hX.block _ (by omega)).trans dc⟩
 have HZ1:=zH hz1
 have G1:Hid (Below w1.heap.size w1 w1):=Below.refl _ _
 clear hwa hwb hw1 da db dc hsa hsb hsc hBa hBb hBc hB hz1 hS hO hA hsz hE hs
 obtain ⟨D0,D1,D2⟩:=HBX.out _ G1.out
 obtain ⟨p0,p1,p2,p3,p4,p5,p6,p7,p8,p9⟩:=zA (D0)
 clear D0 D1 D2
 refine yE Tryz.func10 rfl ?_
 simp only [Tryz.ntmps10,List.size_toArray,List.length_cons,List.length_nil,Nat.reduceAdd,Nat.reduceSub,Array.replicate_succ,Array.replicate_zero,List.push_toArray,List.append_toArray,List.nil_append,List.cons_append]
 go_wp2_with fail
 rw [HW1.out]
 go_wp2_with fail
 refine HV.out.mono ?_
 rintro e w2 ⟨rfl,hb2⟩
 have G2:=zH (G1.out.trans (hb2.mono G1.out.size))
 clear hb2 HV HW1 p0 p1 p2 p3 p4 p5 p6 p7 p8 p9
 by_cases h0:r=0
 case neg=>
  have hR:Hid (E=([],r)):=HE.out.trans (if_pos h0)
  have e0:(r != 0)=true:=by simpa using h0
  have HBF:=zH (HB.out.trans (G2.out.mono HB.out.size))
  clear HE HVF HOK HFC HSY HOU HFW HLV HSE HKL HBX
  go_wp2_with fail
  refine yZ (Marks.nil w.heap.size _) (v:=.tuple #[.slice none 0 0,.int .i64 r]) (fun W=>by kernel_rfl) ?_
  intro X hX
  rw [hR.out]
  exact ⟨none,0,rfl,fun h=>absurd h (by simp),HBF.out.trans hX.below⟩
 subst h0
 have HE2:=zH (HE.out.trans (if_neg (by simp)))
 obtain ⟨hsb,K,N,hF⟩:=HVF.out rfl
 clear hsb
 have HSe:=zH (HSE.out K N hF rfl)
 have HLV2:=zH (HLV.out rfl)
 have HTK:Hid (∀c∈s.p.t.cases,c.inp.length=N):=fun c hc=>by have h1:=HFW.out c rfl hc;have:=hF.pn;omega
 have HFi:=zH hF
 have HOK2:=zH (HOK.out N hF.n)
 have HKL2:=zH (HKL.out K hF.k)
 have hlv:=hF.lv
 clear HE HVF HLV HSE HFW HOK HKL hF hr
 obtain ⟨D0,D1,D2⟩:=HBX.out _ G2.out
 have p8:=zh D0 8 rfl
 have r0:=zh D1 0 rfl
 clear D0 D1 D2
 go_upto_region 4 with fail
 by_cases hbad:0<out.length∧out.length≠s.vs.length
 case pos=>
  have hR:Hid (E=([],15)):=HE2.out.trans (if_pos hbad)
  have e0:((out.length:Int) != 0)=true:=by simp;intro h;rw [h] at hbad;simp at hbad
  have e1:((out.length:Int) != (s.vs.length:Int))=true:=by simp;omega
  have e2:¬out=[]:=by rintro rfl;simp at hbad
  have e3:¬(out.length:Int)=0:=by omega
  have e4:¬(out.length:Int)=(s.vs.length:Int):=by omega
  have e5:¬out.length=s.vs.length:=by omega
  have HBF:=zH (HB.out.trans (G2.out.mono HB.out.size))
  clear HE2 HFC HSY HOU HTK HFi HOK2 HKL2 HSe HLV2 HBX hbad
  go_wp2_with fail
  refine yZ (Marks.nil w.heap.size _) (v:=.tuple #[.slice none 0 0,.int .i64 15]) (fun W=>by kernel_rfl) ?_
  intro X hX
  rw [hR.out]
  exact ⟨none,0,rfl,fun h=>absurd h (by simp),HBF.out.trans hX.below⟩
 have HE3:=zH (HE2.out.trans (if_neg hbad))
 have HOL : Hid (0 < out.length → out.length = s.vs.length) := fun h => by by_cases e : out.length = s.vs.length; · exact e
                                                                           · exact absurd ⟨h,e⟩ hbad
 clear HE2
 go_cut [1,34] from 16 (fun s1 s34 wx=>s1=.agg #[.slice AR out.length cr]∧s34=.bool false∧wx=w2)
 case first=>
  have hb2:out.length=0∨out.length=s.vs.length:=by omega
  by_cases h1:out.length=0
  · have e0:((out.length:Int) != 0)=false:=by simp [h1]
    clear hbad hb2 h1 HOL HFC HSY HOU HTK HFi HOK2 HKL2 HSe HLV2 HBX HE3 hlv
    go_wp2_with fail
    go_meet
    exact ⟨rfl,rfl,rfl⟩
  · have e0:((out.length:Int) != 0)=true:=by simp;intro h;rw [h] at h1;simp at h1
    have e1:((out.length:Int) != (s.vs.length:Int))=false:=by simp;omega
    clear hbad hb2 h1 HOL HFC HSY HOU HTK HFi HOK2 HKL2 HSe HLV2 HBX HE3 hlv
    go_wp2_with fail
    go_meet
    exact ⟨rfl,rfl,rfl⟩
 case rest=>
 obtain ⟨rfl,rfl,rfl⟩:=hcut
 clear p8 r0 hbad
 have HC:=zH (HFC.out _ G2.out)
 obtain ⟨q,hq⟩:∃q,kO s.n d f=q:=⟨_,rfl⟩
 rw [hq] at HC HE3 HOK2
 obtain ⟨D0,D1,D2⟩:=HBX.out _ G2.out
 have p7:=zh D0 7 rfl
 have q0:=zh (D2) 0 rfl
 have q1:=zh (D2) 1 rfl
 have q2:=zh (D2) 2 rfl
 have q3:=zh (D2) 3 rfl
 have q4:=zh (D2) 4 rfl
 have q5:=zh (D2) 5 rfl
 clear D0 D1 D2 HFC hq
 go_wp2_with fail
 refine HC.out.mono ?_
 rintro e w3 ⟨rfl,hb3⟩
 have G3:=zH (G2.out.trans (hb3.mono G2.out.size))
 clear hb3 HC p7 q0 q1 q2 q3 q4 q5
 by_cases h0:q=0
 case neg=>
  have hR:Hid (E=([],q)):=HE3.out.trans (if_pos h0)
  have e0:(q != 0)=true:=by simpa using h0
  have HBF:=zH (HB.out.trans (G3.out.mono HB.out.size))
  clear HE3 HSY HOU HTK HFi HOK2 HKL2 HSe HLV2 HBX HOL
  go_wp2_with fail
  refine yZ (Marks.nil w.heap.size _) (v:=.tuple #[.slice none 0 0,.int .i64 q]) (fun W=>by kernel_rfl) ?_
  intro X hX
  rw [hR.out]
  exact ⟨none,0,rfl,fun h=>absurd h (by simp),HBF.out.trans hX.below⟩
 subst h0
 have HE4:=zH (HE3.out.trans (if_neg (by simp)))
 obtain ⟨D0,D1,D2⟩:=HBX.out _ G3.out
 have q5:=zh D2 5 rfl
 clear D0 D1 D2 HE3
 by_cases hla:0<f.args.length
 case pos=>
  have hR:Hid (E=([],11)):=HE4.out.trans (if_pos hla)
  have e0:((f.args.length:Int)>0)=True:=eq_true (by omega)
  have e1:(0:Int)<(f.args.length:Int):=by omega
  have HBF:=zH (HB.out.trans (G3.out.mono HB.out.size))
  clear HE4 HSY HOU HTK HFi HOK2 HKL2 HSe HLV2 HBX HOL
  go_wp2_with fail
  refine yZ (Marks.nil w.heap.size _) (v:=.tuple #[.slice none 0 0,.int .i64 11]) (fun W=>by kernel_rfl) ?_
  intro X hX
  rw [hR.out]
  exact ⟨none,0,rfl,fun h=>absurd h (by simp),HBF.out.trans hX.below⟩
 have hR:Hid (E=(qr s out f.h,0)):=HE4.out.trans (if_neg hla)
 have HAO:=zH (HOK2.out rfl (by omega))
 have e1:¬(0:Int)<(f.args.length:Int):=by omega
 have HPH:=zH (pheard_any s HFi.out.lv (fun v hv=>by
  obtain ⟨⟨pq,h1,h2⟩,_⟩:=HFi.out.vs v hv
  refine ⟨⟨pq,h1,by have:=HFi.out.n5;omega⟩,fun j hj=>?_⟩
  obtain ⟨i,hi,rfl⟩:=List.getElem_of_mem hv
  have:=HLV2.out i hi j hj
  omega) A SV AV AX kc ks kv kx w3 (HSY.out _ G3.out).fv)
 unfold Sy.vs_ at HPH
 obtain ⟨D0,D1,D2⟩:=HBX.out _ G3.out
 obtain ⟨p0,p1,p2,p3,p4,p5,p6,p7,p8,p9⟩:=zA (D0)
 clear D0 D1 D2 HE4 HOK2
 go_wp2_with fail
 refine HPH.out.mono ?_
 rintro e w4 ⟨gH,rfl,hgH,hRH,hb4⟩
 have G4:=zH (G3.out.trans (hb4.mono G3.out.size))
 have hz14:w1.heap.size≤w4.heap.size:=G4.out.size
 have hlH:=hRH.lt
 clear hb4 HPH p0 p1 p2 p3 p4 p5 p6 p7 p8 p9
 go_upto_region 12 with fail
 obtain ⟨w5,hw5,d5,hs5,hb5⟩:=zm w4 #[.slice (some ⟨gH,0,none⟩) s.vs.length s.vs.length] 36
 rw [hw5]
 go_upto_region 13 with fail
 obtain ⟨w6,hw6,d6,hs6,hb6⟩:=zm w5 #[.func (.func 32) #[] #[.pointer (some ⟨w.heap.size,0,none⟩),.pointer (some ⟨w.heap.size+1+1,0,none⟩)]] 85
 rw [hw6]
 go_upto_region 14 with fail
 obtain ⟨w7,hw7,d7,hs7,hb7⟩:=zm w6 #[.func (.func 33) #[] #[.pointer (some ⟨w.heap.size,0,none⟩)]] 88
 rw [hw7]
 have ht:Tryz.prog.underlying 92=some (.map 3 89):=Tryz.underlying92
 have hmm2:=@run_makeMap Tryz.prog 92 w7
 obtain ⟨bH,hbH⟩:∃b,w4.heap.size=b:=⟨_,rfl⟩
 have e5:w5.heap.size=bH+1:=by omega
 have e6:w6.heap.size=bH+1+1:=by omega
 have e7:w7.heap.size=bH+1+1+1:=by omega
 have m0:MapOf (Value.int .i64) (w7.alloc (.map #[] 0)) (bH+1+1+1) 0 (fun _=>none):=by rw [←e7];exact MapOf.made w7
 obtain ⟨v1,u1,m1,g1⟩:=m0.put xm ht 0 (.func (.func 34) #[] #[])
 obtain ⟨v2,u2,m2,g2⟩:=m1.put xm ht 1 (.func (.func 35) #[] #[.pointer (some ⟨bH+1+1,0,none⟩),.pointer (some ⟨w.heap.size+1+1,0,none⟩)])
 obtain ⟨v3,u3,m3,g3⟩:=m2.put xm ht 2 (.func (.func 36) #[] #[.pointer (some ⟨bH+1+1,0,none⟩),.pointer (some ⟨w.heap.size+1+1,0,none⟩)])
 obtain ⟨v4,u4,m4,g4⟩:=m3.put xm ht 3 (.func (.func 37) #[] #[.pointer (some ⟨bH,0,none⟩),.pointer (some ⟨bH+1,0,none⟩),.pointer (some ⟨w.heap.size+1+1,0,none⟩)])
 obtain ⟨v5,u5,m5,g5⟩:=m4.put xm ht 4 (.func (.func 38) #[] #[.pointer (some ⟨w.heap.size,0,none⟩),.pointer (some ⟨w.heap.size+1+1,0,none⟩)])
 obtain ⟨v6,u6,m6,g6⟩:=m5.put xm ht 5 (.func (.func 39) #[] #[.pointer (some ⟨w.heap.size+1,0,none⟩),.pointer (some ⟨bH+1,0,none⟩),.pointer (some ⟨w.heap.size+1+1,0,none⟩)])
 obtain ⟨v7,u7,m7,g7⟩:=m6.put xm ht 6 (.func (.func 40) #[] #[.pointer (some ⟨w.heap.size+1+1,0,none⟩)])
 have HG7:Hid (Wrote (fun z=>z=bH+1+1+1) (w7.alloc (.map #[] 0)) v7):=by
  have t1:=Wrote.of_grown (R:=fun z=>z=bH+1+1+1) g1 (fun k e _=>by cases e;rfl)
  have t2:=t1.trans (Wrote.of_grown (R:=fun z=>z=bH+1+1+1) g2 (fun k e _=>by cases e;rfl)) (fun _ _ h=>h)
  have t3:=t2.trans (Wrote.of_grown (R:=fun z=>z=bH+1+1+1) g3 (fun k e _=>by cases e;rfl)) (fun _ _ h=>h)
  have t4:=t3.trans (Wrote.of_grown (R:=fun z=>z=bH+1+1+1) g4 (fun k e _=>by cases e;rfl)) (fun _ _ h=>h)
  have t5:=t4.trans (Wrote.of_grown (R:=fun z=>z=bH+1+1+1) g5 (fun k e _=>by cases e;rfl)) (fun _ _ h=>h)
  have t6:=t5.trans (Wrote.of_grown (R:=fun z=>z=bH+1+1+1) g6 (fun k e _=>by cases e;rfl)) (fun _ _ h=>h)
  exact t6.trans (Wrote.of_grown (R:=fun z=>z=bH+1+1+1) g7 (fun k e _=>by cases e;rfl)) (fun _ _ h=>h)
 have HM7:Hid (MapOf (Value.int .i64) v7 (bH+1+1+1) 7 (atG w.heap.size (w.heap.size+1+1) (w.heap.size+1) bH (bH+1) (bH+1+1))):=m7
 clear m0 m1 m2 m3 m4 m5 m6 m7 g1 g2 g3 g4 g5 g6 g7
 have HD5:=zH d5
 have HD6:=zH d6
 have HD7:=zH d7
 have HRH:=zH hRH
 have HS:=zH (And.intro hs5 (And.intro hs6 hs7))
 have HBB:=zH (And.intro hb5 (And.intro hb6 hb7))
 have HBN:=zH (And.intro hbH (And.intro e5 (And.intro e6 e7)))
 have hz14:=zH hz14
 have hlH:=zH hlH
 clear d5 d6 d7 hRH hs5 hs6 hs7 hb5 hb6 hb7 hw5 hw6 hw7
 simp only [hbH]
 rw [e7] at hmm2
 clear hbH e5 e6 e7
 go_upto_region 15 with fail
 obtain ⟨w8,hw8,d8,hs8,hb8⟩:=zm v7 #[.map (some (bH+1+1+1))] 92
 rw [hw8]
 obtain ⟨b13,hb13⟩:∃b,v7.heap.size=b:=⟨_,rfl⟩
 simp only [hb13]
 have HS8:=zH hs8
 clear hs8 hmm2 u1 u2 u3 u4 u5 u6 u7 hw8
 go_upto_region 16 with fail
 obtain ⟨w9,hw9,d9,hs9,hb9⟩:=zm w8 #[.slice none 0 0] 46
 rw [hw9]
 obtain ⟨b14,hb14⟩:∃b,w8.heap.size=b:=⟨_,rfl⟩
 simp only [hb14]
 have hz7:w7.heap.size+1≤v7.heap.size:=by have:=HG7.out.size;simpa using this
 obtain ⟨e4,e5,e6,e7⟩:=HBN.out
 obtain ⟨k5,k6,k7⟩:=HBB.out
 have B7:Below w7.heap.size w7 v7:=⟨HG7.out.os,HG7.out.tape,HG7.out.output,by omega,fun k hk=>(HG7.out.block k (by simp;omega) (by show ¬k=bH+1+1+1;omega)).trans ((zW w7 _).block k hk)⟩
 have B8:Below w7.heap.size w7 w8:=B7.trans (hb8.mono (by omega))
 have B68:Below w6.heap.size w6 w8:=k7.trans (B8.mono (by omega))
 have B58:Below w5.heap.size w5 w8:=k6.trans (B68.mono (by omega))
 have B48:Below w4.heap.size w4 w8:=k5.trans (B58.mono (by omega))
 have hz14':=hz14.out
 have hlH':=hlH.out
 have G8:=zH (G4.out.trans (B48.mono hz14'))
 have hs8':=HS8.out
 have HAW:Hid (AtW s A SV AV AX kc ks kv kx f.h AF f.args.length cf out AR cr w.heap.size (w.heap.size+1+1) (w.heap.size+1) bH (bH+1) (bH+1+1) gH w8):=by
  obtain ⟨x1,x2,x3⟩:=HBX.out _ G8.out
  refine ⟨(HSY.out _ G8.out).fx,(HSY.out _ G8.out).fc,HOU.out _ G8.out,x1,x3,x2,?_,?_,?_,?_⟩
  · have:=HD5.out;rw [e4] at this;exact (B58.block _ (by omega)).trans this
  · exact (B48.block gH hlH').trans HRH.out
  · have:=HD6.out;rw [e5] at this;exact (B68.block _ (by omega)).trans this
  · have:=HD7.out;rw [e6] at this;exact (B8.block _ (by omega)).trans this
 obtain ⟨w10,hw10,d10,hs10,hb10⟩:=zm w9 #[.int .i64 s.p.t.n,.int .i64 s.p.t.ins,.int .i64 s.p.t.outs,.slice A s.p.t.cases.length kc,.int .i64 s.p.a.n,.slice SV s.p.a.sts.length ks,.int .i64 s.p.k,.int .i64 s.n,.slice AV s.vs.length kv,.slice AX s.xs.length kx] 35
 have hz10:b14+2=w10.heap.size:=by omega
 have HAT:Hid (∀X,Wrote (fun z=>z=b14) w10 X→AtW s A SV AV AX kc ks kv kx f.h AF f.args.length cf out AR cr w.heap.size (w.heap.size+1+1) (w.heap.size+1) bH (bH+1) (bH+1+1) gH X):=fun X hX=>HAW.out.keep ⟨hX.os.trans (hb10.os.trans hb9.os),hX.tape.trans (hb10.tape.trans hb9.tape),hX.output.trans (hb10.output.trans hb9.output),by have:=hX.size;omega,fun k hk=>(hX.block k (by omega) (by show ¬k=b14;omega)).trans ((hb10.block k (by omega)).trans (hb9.block k (by omega)))⟩
 have HMP:Hid (∀X,Wrote (fun z=>z=b14) w10 X→X.heap[b13]?=some (.cells #[.map (some (bH+1+1+1))] 92 (0,0))∧X.heap[bH+1+1+1]?=v7.heap[bH+1+1+1]?∧X.heap[w.heap.size+1+1]?=some (.cells #[.int .i64 f.h.op,.int .i64 f.h.p,.int .i64 f.h.o,.int .i64 f.h.v,.int .i64 f.h.g,.slice AF f.args.length cf] 41 (0,0))):=fun X hX=>by
  have hk:∀k,k<b14→X.heap[k]?=w8.heap[k]?:=fun k hk=>(hX.block k (by omega) (by show ¬k=b14;omega)).trans ((hb10.block k (by omega)).trans (hb9.block k (by omega)))
  refine ⟨(hk b13 (by omega)).trans ?_,(hk _ (by omega)).trans (hb8.block _ (by omega)),?_⟩
  · rw [←hb13];exact d8
  · have h1:=HZ1.out
    exact (hk _ (by omega)).trans (HBX.out _ G8.out).2.2
 have h0I:AtIn b14 [] w10 w10:=⟨Wrote.refl _ _,none,0,by rw [←hb14];exact (hb10.block _ (by omega)).trans d9,OwnR.nil _ _ _⟩
 have HFN:=zH (atom_fn HFi.out HSe.out HLV2.out HTK.out HOL.out HAO.out A SV AV AX AF AR kc ks kv kx f.args.length cf cr w.heap.size (w.heap.size+1+1) (w.heap.size+1) bH (bH+1) (bH+1+1) gH)
 obtain ⟨kf,kb,hgo,ek,hcall⟩:=HFN.out
 have HCL:=zH hcall
 have HGO:=zH hgo
 have HAL:=zH (fun (X:World)=>Zy s A SV AV AX kc ks kv kx X)
 have hlen:(zt (K+1) 0 s.xs.length).length≤20000:=by
  rw [xF (K+1) _ (by omega)]
  exact Nat.le_trans (Nat.mul_le_mul HFi.out.lx (show K+1≤101 by have:=HFi.out.k6;omega)) (by decide)
 have HIT:=zH (vE (s.vs_ A kc SV ks AV kv AX kx) K s.xs.length (by have:=HFi.out.k6;omega) (by have:=HFi.out.lx;omega) AX kx ⟨by unfold Sy.vs_;rw [←HFi.out.k];rfl,by unfold Sy.vs_;rfl⟩ w9.heap.size w10 d10)
 obtain ⟨L,hL⟩:∃L,zt (K+1) 0 s.xs.length=L:=⟨_,rfl⟩
 rw [hL] at HIT HCL hlen HKL2
 unfold Sy.vs_ at HAL
 have G10:Hid (Below w.heap.size w w10):=by
  have g9:=G8.out.trans (hb9.mono (by have:=G8.out.size;omega))
  have g10:=g9.trans (hb10.mono (by have:=g9.size;omega))
  exact HB.out.trans (g10.mono HB.out.size)
 have HWB:Hid (w.heap.size+3≤b14):=by have:=G8.out.size;have:=HZ1.out;rw [Hid];omega
 have HW10:=zH hw10
 have H0I:=zH h0I
 have HZ10:=zH hz10
 have HS9:=zH hs9
 have D9:=zH ((hb9.block w.heap.size (by have:=G8.out.size;have:=HZ1.out;omega)).trans (HBX.out _ G8.out).1)
 have HB14:=zH hb14
 clear hw9 d9 hs9 hb9 hw10 d10 hs10 hb10 hz10 h0I hgo hcall HFN hz7 e4 e5 e6 e7 k5 k6 k7 B7 B8 B68 B58 B48 hz14' hlH' hs8' HAW hb13 hb14 d8 hb8 HD5 HD6 HD7 HRH HS HBB HBN HG7 G4 G3 G2 G1 HSY HOU HTK HOL HSe HLV2 hlH hz14 hL
 have hz14:Hid True:=trivial
 obtain ⟨p0,p1,p2,p3,p4,p5,p6,p7,p8,p9⟩:=zA (D9.out)
 go_wp2_with fail
 refine (HAL.out _).mono ?_
 rintro e wx ⟨rfl,hwx⟩
 rw [HW10.out] at hwx
 obtain rfl:=hwx
 clear p0 p1 p2 p3 p4 p5 p6 p7 p8 p9
 go_wp2_with fail
 refine qW rfl (enters_of Tryz.func67 (by kernel_rfl) rfl) HIT.out (by rintro x rfl;have:=HZ10.out;have:=HS9.out;have:=HB14.out;omega) (fun _=>rfl)
  (fun (pre:List { x:Nat×Nat // x∈L }) (X:World)=>AtIn b14 (pre.map fun x=>xv s out f.h x.1) w10 X)
  (fun _ _ _=>False)
  ?hI (fun _ _ _ _ _ h _ _=>h)
  H0I.out (fun x=>#[.int .i64 x.1,.int .i64 x.2]) 84 ?a1 ?assign ?body ?done ?stop (fun _ _ h=>h.wrote.size)
 case hI=>
  intro pre X X' row hX hg hr
  exact hX.turn (by have:=HZ10.out;omega) hg hr
 case assign=>
  intro l pre x X K' hI hK
  obtain ⟨g',hg'⟩:∃g',g'=X.heap.size:=⟨_,rfl⟩
  have HK:=zH (hK g' hg' (hI.turn (by have:=HZ10.out;omega) (row:=none) ⟨rfl,rfl,rfl,by simp,fun k hk _=>Below.heap_alloc X _ k hk⟩ (fun r e=>by cases e)))
  have HG:=zH hg'
  clear hK hg' hI
  gi_wp2
  rw [←HG.out]
  exact HK.out
 case body=>
  intro l pre x g W3 hg hgb hI hlt
  obtain ⟨bs,hbs⟩:∃bs,(pre.map fun x=>xv s out f.h x.1)=bs:=⟨_,rfl⟩
  have hbl:bs.length≤20000:=by rw [←hbs,List.length_map];omega
  have hbs2:Hid (((pre++[x]).map fun x=>xv s out f.h x.1)=bs++[xv s out f.h x.1]):=by rw [Hid,List.map_append,hbs];rfl
  rw [hbs] at hI
  obtain ⟨P,c,hbx,ho⟩:=hI.box
  obtain ⟨x1,x2,x3⟩:=HMP.out W3 hI.wrote
  have HC:=zH (HCL.out x.1 x.2 W3.drew ((HAT.out W3 hI.wrote).keep (Below.refl _ W3).drew))
  obtain ⟨bv,hbv⟩:∃bv,xv s out f.h x.1=bv:=⟨_,rfl⟩
  rw [hbv] at hbs2 HC
  have hszI:=hI.wrote.size
  have hz10:=HZ10.out
  have HKP:Hid (∀X,Below W3.heap.size W3 X→X.heap[b14]?=some (.cells #[.slice P bs.length c] 46 (0,0))∧X.heap[b13]?=some (.cells #[.map (some (bH+1+1+1))] 92 (0,0))∧X.heap[bH+1+1+1]?=v7.heap[bH+1+1+1]?∧X.heap[w.heap.size+1+1]?=some (.cells #[.int .i64 f.h.op,.int .i64 f.h.p,.int .i64 f.h.o,.int .i64 f.h.v,.int .i64 f.h.g,.slice AF f.args.length cf] 41 (0,0))∧X.heap[g]?=some (.cells #[.int .i64 x.1.1,.int .i64 x.1.2] 84 (0,0))):=fun X hX=>
   ⟨(hX.block _ (by omega)).trans hbx,(hX.block _ (zj x1)).trans x1,(hX.block _ (by
    obtain ⟨_,_,h1,_⟩:=HM7.out
    rw [h1] at x2
    exact blk_lt' x2)).trans x2,(hX.block _ (zj x3)).trans x3,(hX.block _ (zj hgb)).trans hgb⟩
  have HI3:=zH hI
  have HO3:=zH ho
  have HX3:=zH hbx
  have hgW:=zj hgb
  clear hI ho hbx x1 x2 x3 hgb hbs hbv
  gi_wp2_with fail
  refine yJ [(0,true),(1,true),(2,true),(3,true),(5,true),(4,true),(6,false),(7,false),(8,false),(9,false)] (fun X=>X.heap[b14]?=some (.cells #[.slice P bs.length c] 46 (0,0))∧X.heap[b13]?=some (.cells #[.map (some (bH+1+1+1))] 92 (0,0))∧X.heap[bH+1+1+1]?=v7.heap[bH+1+1+1]?∧X.heap[w.heap.size+1+1]?=some (.cells #[.int .i64 f.h.op,.int .i64 f.h.p,.int .i64 f.h.o,.int .i64 f.h.v,.int .i64 f.h.g,.slice AF f.args.length cf] 41 (0,0))∧X.heap[g]?=some (.cells #[.int .i64 x.1.1,.int .i64 x.1.2] 84 (0,0))) (by kernel_rfl) (by kernel_rfl) (by kernel_rfl) (by rintro ⟨_,_,h⟩;exact h) (HKP.out _ (Below.refl _ _).drew) ?_
  repeat
   apply zM rfl
   · rintro K' hK' X ⟨u1,u2,u3,u4,u5⟩
     have hlk:=(HM7.out.same u3).look xm ht (show (zeroValue 89).run Tryz.prog X=.ok .nilFunc X by kernel_rfl) f.h.op
     rw [HGO.out] at hlk
     simp only [Option.getD_some] at hlk
     have y0:=zh u1 0 rfl
     have y1:=zh u2 0 rfl
     have y2:=zh u4 0 rfl
     have y3:=zh u5 0 rfl
     have y4:=zh u5 1 rfl
     clear u1 u2 u3 u4 u5
     go_simp
     exact hK'
  refine zC rfl ?_
  intro K' hK'
  go_simp
  rw [ek]
  refine Calls.mono HC.out ?_
  rintro e W4 ⟨rfl,hb4⟩
  have hb4:Below W3.heap.size W3 W4:=(Below.refl _ W3).drew.trans hb4
  have HB4:=zH hb4
  have HI4:=zH (HI3.out.call (by omega) hb4)
  have HO4:Hid (OwnR kBl W4 w10.heap.size (.slice P bs.length c) bs.length (bs.map .bool)):=HO3.out.below hb4 (Nat.le_refl _)
  refine hK' _ _ (HKP.out _ hb4) ?_
  clear hK' K' hb4 HC
  refine zC rfl ?_
  intro K' hK'
  go_simp
  obtain ⟨W5,hW5,d5,hs5,hb5⟩:=zm W4 #[.bool bv] 4
  rw [hW5]
  have HI5:=zH (HI4.out.call (by omega) hb5)
  have HO5:Hid (OwnR kBl W5 w10.heap.size (.slice P bs.length c) bs.length (bs.map .bool)):=HO4.out.below hb5 (Nat.le_refl _)
  have HB5:Hid (Below W3.heap.size W3 W5):=HB4.out.trans (hb5.mono HB4.out.size)
  have hsz5:w10.heap.size≤W5.heap.size:=by have:=HB5.out.size;omega
  refine hK' _ _ (HKP.out _ HB5.out) ?_
  clear hK' K' hW5 HI4 HO4
  refine yM rfl (by kernel_rfl) ?_
  intro K' hK'
  rw [if_pos (by rfl)]
  refine jo kBl_ok (.tmp 62) (.tmp 69) (by rfl) w10.heap.size (.slice P bs.length c) bs.length (bs.map .bool) (by rfl) HO5.out W4.heap.size #[.bool bv] (by rfl) d5 rfl (by simp [Value.oneCell']) (by omega) hsz5 _ rfl ?_
  intro g' cap' W6 hr6 hg6 hat6 hlt6
  have hbx5:=(HKP.out _ HB5.out).1
  have HK6:Hid (AtIn b14 (bs++[bv]) w10 (W6.setCell ⟨b14,0,none⟩ (.slice (some ⟨g',0,none⟩) (bs.length+1) cap'))):=HI5.out.push (by omega) hbx5 HO5.out hr6 hg6
  have HKE:=zH (HI5.out.keeps (bi:=w9.heap.size) (by omega) (by have:=HS9.out;have:=HB14.out;omega) (by have:=HS9.out;have:=HB14.out;omega) hbx5 HO5.out hg6 (.slice (some ⟨g',0,none⟩) (bs.length+1) cap'))
  have hb6:Below w10.heap.size W5 W6:=(Below.refl _ _).grown hg6 hsz5 (fun k hk=>(HO5.out.lt k hk).1)
  have hfz:=zi ((hb6.block b14 (by omega)).trans hbx5) 0
  have hlb:=zj ((hb6.block b14 (by omega)).trans hbx5)
  have hc6:=zh ((hb6.block b14 (by omega)).trans hbx5) 0 rfl
  have HK2:Hid (∀k,k<w10.heap.size→W6.heap[k]?=W5.heap[k]?):=fun k hk=>hb6.block k hk
  refine hK' (fun _=>True) _ _ trivial ?_
  clear hK' K'
  refine zC rfl ?_
  intro K' hK'
  go_simp
  refine hK' _ _ trivial ?_
  refine zT ?_
  clear hK' K'
  refine ⟨?_,?_,?_⟩
  · refine KeepsFrom.trans ?_ HKE.out.1
    exact ⟨HB5.out.size,fun k o hk hk1 _=>(HB5.out.block k (blk_lt' hk1)).trans hk1⟩
  · refine KeepB.trans ?_ HKE.out.2
    exact ⟨HB5.out.size,fun k hk hl=>HB5.out.block k hl⟩
  · show AtIn b14 _ w10 _
    rw [hbs2.out]
    exact HK6.out
 case done=>
  intro D ys W hD hys hI hDk
  have hmap:ys.map (fun x=>xv s out f.h x.1)=L.map (xv s out f.h):=by rw [show ys.map (fun x=>xv s out f.h x.1)=(ys.map (·.1)).map (xv s out f.h) by rw [List.map_map];rfl,hys]
  rw [hmap] at hI
  obtain ⟨P,c,hbx,ho⟩:=hI.box
  have q4:=zh hbx 0 rfl
  have HO:=zH ho
  have HI9:=zH hI
  have HDk:=zH hDk
  clear hI ho hbx hDk hys hmap
  go_wp2_with fail
  refine yZ (B:=w10.heap.size) (w:=W) (show Marks w10.heap.size _ W from ⟨[D],rfl,by simp,fun r hr=>by rw [List.mem_singleton] at hr;subst hr;exact ⟨hD,HDk.out⟩⟩) (v:=.tuple #[.slice P L.length c,.int .i64 0]) (fun W=>by kernel_rfl) ?_
  intro X hS
  rw [hR.out,HKL2.out]
  have hbX:Below w10.heap.size W X:=hS.below
  have hwI:=HI9.out.wrote
  have hz10:=HZ10.out
  have hs9:=HS9.out
  have hb14:=HB14.out
  have hwz:=hwI.size
  have hg10:=G10.out.size
  have hz1:=HZ1.out
  have hwb:=HWB.out
  refine ⟨P,c,by rw [List.length_map],fun h0=>?_,G10.out.trans ⟨hbX.os.trans hwI.os,hbX.tape.trans hwI.tape,hbX.output.trans hwI.output,by have:=hbX.size;omega,fun k hk=>(hbX.block k (by omega)).trans (hwI.block k (by omega) (by show ¬k=b14;omega))⟩⟩
  obtain ⟨A',c',e',_,_,h3⟩:=HO.out.form
  simp only [Value.slice.injEq] at e'
  obtain ⟨rfl,-,-⟩:=e'
  obtain ⟨gg,rfl,_,hgl,hcl⟩:=h3 (by simpa using h0)
  refine ⟨gg,0,rfl,by have:=hbX.size;omega,fun i hi=>?_⟩
  rw [Nat.zero_add]
  exact hS.cell (hcl i _ (by rw [List.getElem?_map,List.getElem?_eq_getElem hi];rfl))
 case stop=>
  intro D c pre W _ _ h
  exact h.elim
end
section
open Go.RowKit
attribute [local go_sem] Oper.semAt_some
theorem qo {w:World} {base:Nat} {A:Option Addr} {n c:Nat} {xs:List Int} (h:Own w base (.slice A n c) xs):IAt w w.heap.size A xs:=by
 obtain ⟨A',c',e',_,_,hI'⟩:=h.form
 simp only [Value.slice.injEq] at e'
 obtain ⟨e1',-,-⟩:=e'
 subst e1'
 exact hI'
theorem jc {w:World} {g:Nat} {xs:List Int} {t:TypeId} (h:w.heap[g]?=some (.cells ((xs.map (Value.int .i64)).toArray) t (0,0))):IAt w w.heap.size (some ⟨g,0,none⟩) xs:=fun _=>
 ⟨g,0,rfl,zj h,fun i hi=>by rw [Nat.zero_add];exact zh h i (by simp [hi])⟩
set_option maxRecDepth 100000 in
theorem xe (w:World):Calls Tryz.prog 9 #[] w fun e w'=>e=.returned (.bool true)∧Below w.heap.size w w':=by
 go_enter Tryz.func9,Tryz.ntmps9
 go_wp2_with fail
 refine (YX w).mono ?_
 rintro e w1 ⟨A,kc,SV,ks,AV,kv,AX,kx,rfl,hS,hb1⟩
 have HB1:=zH hb1
 have C1:=zH (fun (X:World) (h:SyAt X X.heap.size A SV AV AX yA)=>pCount_any yA kK qM A SV AV AX kc ks kv kx X h)
 have C2:=zH (fun (X:World) (h:SyAt X X.heap.size A SV AV AX yA)=>place_any yA kK qM 5 A SV AV AX kc ks kv kx X h)
 have C3:=zH (fun (X:World) (h:SyAt X X.heap.size A SV AV AX yA)=>ve yA kK qM 0 A SV AV AX kc ks kv kx X h)
 have C4:=zH (fun (X:World) (h:SyAt X X.heap.size A SV AV AX yA)=>ve yA kK qM 1 A SV AV AX kc ks kv kx X h)
 have C5:=zH (fun (X:World) (h:SyAt X X.heap.size A SV AV AX yA)=>jq yA kK qM 3 A SV AV AX kc ks kv kx X h)
 have C6:=zH (fun (X:World) (h:SyAt X X.heap.size A SV AV AX yA)=>wD yA kK qM 3 A SV AV AX kc ks kv kx X h)
 have C7:=zH (fun (X:World) (h:SyAt X X.heap.size A SV AV AX yA)=>wj yA kK qM [] 0 ex6F (by decide) A SV AV AX none none kc ks kv kx 0 0 X h (fun h0=>absurd h0 (by simp)) rfl)
 have C8:=zH (fun (X:World) (h:SyAt X X.heap.size A SV AV AX yA)=>wj yA kK qM [] 0 ex6G (by decide) A SV AV AX none none kc ks kv kx 0 0 X h (fun h0=>absurd h0 (by simp)) rfl)
 rw [ex6_cnt] at C1
 rw [ex6_plc] at C2
 rw [ex6_clsA] at C3
 rw [ex6_clsB] at C4
 rw [ex6_tog] at C5
 rw [exs_comp] at C6
 rw [ex6_atmF] at C7
 rw [ex6_atmG] at C8
 have CT1:=zH (fun (A:Option Addr) (c:Nat) (X:World) (hA:BAt X X.heap.size A ex6H)=>Xa ex6H (by decide) A c X hA)
 have CT2:=zH (fun (A:Option Addr) (c:Nat) (X:World) (hA:BAt X X.heap.size A ex6I)=>Xa ex6I (by decide) A c X hA)
 have l1:ex6A.length=8:=rfl
 have l2:ex6B.length=8:=rfl
 have l3:Jw.length=8:=rfl
 have l4:j6.length=8:=rfl
 have l5:ex6H.length=8:=rfl
 have l6:ex6I.length=8:=rfl
 rw [l5,ex6_truH] at CT1
 rw [l6,ex6_truI] at CT2
 obtain ⟨T,hT⟩:∃T,yA=T:=⟨_,rfl⟩
 rw [hT] at hS C1 C2 C3 C4 C5 C6 C7 C8 ⊢
 unfold XF at C3 C4 C5 C6
 unfold YK Fm.vs ex6F at C7
 unfold YK Fm.vs ex6G at C8
 simp only [l1,l2,l3,l4,l5,l6,Fm.h,Fm.args,List.length_nil] at C3 C4 C5 C6 C7 C8
 unfold Sy.vs_ at C1 C2 C3 C4 C5 C6 C7 C8 ⊢
 clear hT hb1
 go_upto_region 2 with fail
 obtain ⟨w2,hw2,d2,hs2,hb2⟩:=zm w1 #[.int .i64 T.p.t.n,.int .i64 T.p.t.ins,.int .i64 T.p.t.outs,.slice A T.p.t.cases.length kc,.int .i64 T.p.a.n,.slice SV T.p.a.sts.length ks,.int .i64 T.p.k,.int .i64 T.n,.slice AV T.vs.length kv,.slice AX T.xs.length kx] 35
 rw [hw2]
 have HDB:Hid (∀X,Below w2.heap.size w2 X→X.heap[w1.heap.size]?=some (.cells #[.int .i64 T.p.t.n,.int .i64 T.p.t.ins,.int .i64 T.p.t.outs,.slice A T.p.t.cases.length kc,.int .i64 T.p.a.n,.slice SV T.p.a.sts.length ks,.int .i64 T.p.k,.int .i64 T.n,.slice AV T.vs.length kv,.slice AX T.xs.length kx] 35 (0,0))):=fun X hX=>(hX.block _ (by omega)).trans d2
 have HSB:Hid (∀X,Below w2.heap.size w2 X→SyAt X X.heap.size A SV AV AX T):=fun X hX=>(hS.up hb2).up hX
 have HB2:=zH (HB1.out.trans (hb2.mono HB1.out.size))
 have G2:Hid (Below w2.heap.size w2 w2):=Below.refl _ _
 clear hw2 d2 hb2 hS hs2 l1 l2 l3 l4 l5 l6
 obtain ⟨p0,p1,p2,p3,p4,p5,p6,p7,p8,p9⟩:=zA (HDB.out _ G2.out)
 go_wp2_with fail
 refine (C1.out w2 (HSB.out _ G2.out)).mono ?_
 rintro e w3 ⟨rfl,hb3⟩
 have G3:=zH (G2.out.trans (hb3.mono G2.out.size))
 clear hb3 C1 p0 p1 p2 p3 p4 p5 p6 p7 p8 p9
 obtain ⟨p0,p1,p2,p3,p4,p5,p6,p7,p8,p9⟩:=zA (HDB.out _ G3.out)
 go_wp2_with fail
 refine (C2.out w3 (HSB.out _ G3.out)).mono ?_
 rintro e w4 ⟨rfl,hb4⟩
 have G4:=zH (G3.out.trans (hb4.mono G3.out.size))
 clear hb4 C2 p0 p1 p2 p3 p4 p5 p6 p7 p8 p9
 obtain ⟨p0,p1,p2,p3,p4,p5,p6,p7,p8,p9⟩:=zA (HDB.out _ G4.out)
 go_wp2_with fail
 refine (C3.out w4 (HSB.out _ G4.out)).mono ?_
 rintro e w5 ⟨Aa,ca,rfl,ho5,hb5⟩
 have G5:=zH (G4.out.trans (hb5.mono G4.out.size))
 have Ia:=zH (qo ho5)
 clear ho5
 clear hb5 C3 p0 p1 p2 p3 p4 p5 p6 p7 p8 p9
 obtain ⟨p0,p1,p2,p3,p4,p5,p6,p7,p8,p9⟩:=zA (HDB.out _ G5.out)
 go_wp2_with fail
 refine (C4.out w5 (HSB.out _ G5.out)).mono ?_
 rintro e w6 ⟨Ab,cb,rfl,ho6,hb6⟩
 have G6:=zH (G5.out.trans (hb6.mono G5.out.size))
 have Ie:=zH (qo ho6)
 clear ho6
 have Ia:=zH (Ia.out.up hb6)
 clear hb6 C4 p0 p1 p2 p3 p4 p5 p6 p7 p8 p9
 have KA:Hid (∀X,Below w6.heap.size w6 X→IAt X X.heap.size Aa ex6A):=fun X hX=>Ia.out.up hX
 have KE:Hid (∀X,Below w6.heap.size w6 X→IAt X X.heap.size Ab ex6B):=fun X hX=>Ie.out.up hX
 clear Ia Ie
 have F6:Hid (Below w6.heap.size w6 w6):=Below.refl _ _
 go_wp2_with fail
 obtain ⟨w7,hw7,d7,hs7,hb7⟩:=zm w6 #[.int .i64 0,.int .i64 1,.int .i64 0,.int .i64 2,.int .i64 0,.int .i64 1,.int .i64 0,.int .i64 3] 3
 rw [hw7]
 have F7:=zH (F6.out.trans (hb7.mono F6.out.size))
 have EQ:=jz Aa (some ⟨w6.heap.size,0,none⟩) ca 8 ex6A ex6A w7 w7.heap.size (KA.out _ F7.out) (jc d7) (by decide) (by decide)
 rw [show decide (ex6A=ex6A)=true by simp,show (ex6A).length=8 from rfl] at EQ
 have EQ:=zH EQ
 clear hw7 d7 hb7 hs7
 refine EQ.out.mono ?_
 rintro e w8 ⟨rfl,n8,hn8⟩
 have F8:Hid (Below w6.heap.size w6 w8):=by rw [Hid,hn8];exact zR F7.out n8
 clear hn8 EQ F7 F6
 go_wp2_with fail
 obtain ⟨w9,hw9,d9,hs9,hb9⟩:=zm w8 #[.int .i64 0,.int .i64 1,.int .i64 0,.int .i64 1,.int .i64 2,.int .i64 3,.int .i64 2,.int .i64 3] 3
 rw [hw9]
 have F9:=zH (F8.out.trans (hb9.mono F8.out.size))
 have EQ:=jz Ab (some ⟨w8.heap.size,0,none⟩) cb 8 ex6B ex6B w9 w9.heap.size (KE.out _ F9.out) (jc d9) (by decide) (by decide)
 rw [show decide (ex6B=ex6B)=true by simp,show (ex6B).length=8 from rfl] at EQ
 have EQ:=zH EQ
 clear hw9 d9 hb9 hs9
 refine EQ.out.mono ?_
 rintro e w10 ⟨rfl,n10,hn10⟩
 have F10:Hid (Below w6.heap.size w6 w10):=by rw [Hid,hn10];exact zR F9.out n10
 clear hn10 EQ F9 F8
 have G10:=zH (G6.out.trans (F10.out.mono G6.out.size))
 clear KA KE F10
 obtain ⟨p0,p1,p2,p3,p4,p5,p6,p7,p8,p9⟩:=zA (HDB.out _ G10.out)
 go_wp2_with fail
 refine (C5.out w10 (HSB.out _ G10.out)).mono ?_
 rintro e w11 ⟨Ac,cc,rfl,ho11,hb11⟩
 have G11:=zH (G10.out.trans (hb11.mono G10.out.size))
 have Ia:=zH (qo ho11)
 clear ho11
 clear hb11 C5 p0 p1 p2 p3 p4 p5 p6 p7 p8 p9
 obtain ⟨p0,p1,p2,p3,p4,p5,p6,p7,p8,p9⟩:=zA (HDB.out _ G11.out)
 go_wp2_with fail
 refine (C6.out w11 (HSB.out _ G11.out)).mono ?_
 rintro e w12 ⟨Ad,cd,rfl,ho12,hb12⟩
 have G12:=zH (G11.out.trans (hb12.mono G11.out.size))
 have Ie:=zH (qo ho12)
 clear ho12
 have Ia:=zH (Ia.out.up hb12)
 clear hb12 C6 p0 p1 p2 p3 p4 p5 p6 p7 p8 p9
 obtain ⟨p0,p1,p2,p3,p4,p5,p6,p7,p8,p9⟩:=zA (HDB.out _ G12.out)
 go_wp2_with fail
 refine (C7.out w12 (HSB.out _ G12.out)).mono ?_
 rintro e w13 ⟨Ag,cg,rfl,ho13,hb13⟩
 have G13:=zH (G12.out.trans (hb13.mono G12.out.size))
 have Ibg:=zH ho13
 clear ho13
 have Ia:=zH (Ia.out.up hb13)
 have Ie:=zH (Ie.out.up hb13)
 clear hb13 C7 p0 p1 p2 p3 p4 p5 p6 p7 p8 p9
 obtain ⟨p0,p1,p2,p3,p4,p5,p6,p7,p8,p9⟩:=zA (HDB.out _ G13.out)
 go_wp2_with fail
 refine (C8.out w13 (HSB.out _ G13.out)).mono ?_
 rintro e w14 ⟨Ah,ch,rfl,ho14,hb14⟩
 have G14:=zH (G13.out.trans (hb14.mono G13.out.size))
 have Ibh:=zH ho14
 clear ho14
 have Ia:=zH (Ia.out.up hb14)
 have Ie:=zH (Ie.out.up hb14)
 have Ibg:=zH ((Ibg.out.keep hb14).more hb14.size)
 clear hb14 C8 p0 p1 p2 p3 p4 p5 p6 p7 p8 p9
 have KA:Hid (∀X,Below w14.heap.size w14 X→IAt X X.heap.size Ac Jw):=fun X hX=>Ia.out.up hX
 have KE:Hid (∀X,Below w14.heap.size w14 X→IAt X X.heap.size Ad j6):=fun X hX=>Ie.out.up hX
 have KG:Hid (∀X,Below w14.heap.size w14 X→BAt X X.heap.size Ag ex6H):=fun X hX=>(Ibg.out.keep hX).more hX.size
 have KH:Hid (∀X,Below w14.heap.size w14 X→BAt X X.heap.size Ah ex6I):=fun X hX=>(Ibh.out.keep hX).more hX.size
 clear Ia Ie Ibg Ibh
 have F14:Hid (Below w14.heap.size w14 w14):=Below.refl _ _
 go_wp2_with fail
 obtain ⟨w15,hw15,d15,hs15,hb15⟩:=zm w14 #[.int .i64 0,.int .i64 1,.int .i64 0,.int .i64 2,.int .i64 3,.int .i64 4,.int .i64 3,.int .i64 5] 3
 rw [hw15]
 have F15:=zH (F14.out.trans (hb15.mono F14.out.size))
 have EQ:=jz Ac (some ⟨w14.heap.size,0,none⟩) cc 8 Jw Jw w15 w15.heap.size (KA.out _ F15.out) (jc d15) (by decide) (by decide)
 rw [show decide (Jw=Jw)=true by simp,show (Jw).length=8 from rfl] at EQ
 have EQ:=zH EQ
 clear hw15 d15 hb15 hs15
 refine EQ.out.mono ?_
 rintro e w16 ⟨rfl,n16,hn16⟩
 have F16:Hid (Below w14.heap.size w14 w16):=by rw [Hid,hn16];exact zR F15.out n16
 clear hn16 EQ F15 F14
 go_wp2_with fail
 obtain ⟨w17,hw17,d17,hs17,hb17⟩:=zm w16 #[.int .i64 0,.int .i64 1,.int .i64 0,.int .i64 1,.int .i64 0,.int .i64 1,.int .i64 0,.int .i64 1] 3
 rw [hw17]
 have F17:=zH (F16.out.trans (hb17.mono F16.out.size))
 have EQ:=jz Ad (some ⟨w16.heap.size,0,none⟩) cd 8 j6 j6 w17 w17.heap.size (KE.out _ F17.out) (jc d17) (by decide) (by decide)
 rw [show decide (j6=j6)=true by simp,show (j6).length=8 from rfl] at EQ
 have EQ:=zH EQ
 clear hw17 d17 hb17 hs17
 refine EQ.out.mono ?_
 rintro e w18 ⟨rfl,n18,hn18⟩
 have F18:Hid (Below w14.heap.size w14 w18):=by rw [Hid,hn18];exact zR F17.out n18
 clear hn18 EQ F17 F16
 go_wp2_with fail
 refine (CT1.out Ag cg w18 (KG.out _ F18.out)).mono ?_
 rintro e w19 ⟨v19,rfl,ho19,hb19⟩
 obtain ⟨At1,ct1,rfl,_,_,hI19⟩:=ho19.form
 have F19:=zH (F18.out.trans (hb19.mono F18.out.size))
 have KT1:Hid (∀X,Below w19.heap.size w19 X→IAt X X.heap.size At1 [3,7]):=fun X hX=>hI19.up hX
 have E19:Hid (Below w19.heap.size w19 w19):=Below.refl _ _
 clear hI19 ho19 hb19 CT1
 go_wp2_with fail
 obtain ⟨w20,hw20,d20,hs20,hb20⟩:=zm w19 #[.int .i64 3,.int .i64 7] 3
 rw [hw20]
 have F20:=zH (F19.out.trans (hb20.mono F19.out.size))
 have EQ:=jz At1 (some ⟨w19.heap.size,0,none⟩) ct1 2 [3,7] [3,7] w20 w20.heap.size (KT1.out _ hb20) (jc d20) (by decide) (by decide)
 rw [show decide (([3,7]:List Int)=[3,7])=true by simp,show ([3,7]:List Int).length=2 from rfl] at EQ
 have EQ:=zH EQ
 clear hw20 d20 hb20 hs20
 refine EQ.out.mono ?_
 rintro e w21 ⟨rfl,n21,hn21⟩
 have F21:Hid (Below w14.heap.size w14 w21):=by rw [Hid,hn21];exact zR F20.out n21
 clear hn21 EQ F20 F19
 go_wp2_with fail
 refine (CT2.out Ah ch w21 (KH.out _ F21.out)).mono ?_
 rintro e w22 ⟨v22,rfl,ho22,hb22⟩
 obtain ⟨At2,ct2,rfl,_,_,hI22⟩:=ho22.form
 have F22:=zH (F21.out.trans (hb22.mono F21.out.size))
 have KT2:Hid (∀X,Below w22.heap.size w22 X→IAt X X.heap.size At2 [4,5,6,7]):=fun X hX=>hI22.up hX
 have E22:Hid (Below w22.heap.size w22 w22):=Below.refl _ _
 clear hI22 ho22 hb22 CT2
 go_wp2_with fail
 obtain ⟨w23,hw23,d23,hs23,hb23⟩:=zm w22 #[.int .i64 4,.int .i64 5,.int .i64 6,.int .i64 7] 3
 rw [hw23]
 have F23:=zH (F22.out.trans (hb23.mono F22.out.size))
 have EQ:=jz At2 (some ⟨w22.heap.size,0,none⟩) ct2 4 [4,5,6,7] [4,5,6,7] w23 w23.heap.size (KT2.out _ hb23) (jc d23) (by decide) (by decide)
 rw [show decide (([4,5,6,7]:List Int)=[4,5,6,7])=true by simp,show ([4,5,6,7]:List Int).length=4 from rfl] at EQ
 have EQ:=zH EQ
 clear hw23 d23 hb23 hs23
 refine EQ.out.mono ?_
 rintro e w24 ⟨rfl,n24,hn24⟩
 have F24:Hid (Below w14.heap.size w14 w24):=by rw [Hid,hn24];exact zR F23.out n24
 clear hn24 EQ F23 F22
 have HF:=zH (HB2.out.trans ((G14.out.trans (F24.out.mono G14.out.size)).mono HB2.out.size))
 clear F24 HDB HSB
 go_wp2_with fail
 go_ret
 exact ⟨rfl,HF.out⟩
end
end Go.Proofs.YtiookelkkekbeaaGreat
