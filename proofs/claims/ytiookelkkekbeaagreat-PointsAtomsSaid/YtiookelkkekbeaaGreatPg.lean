/- Parts FmlP RgtB Det RepN CmnR FrsP ReaP FrsA CmnC Rf36B Pcnt PtsG ReaA HrdA HrP AtmP KeysT PtsM PtsV TogB TogA Tru ExF36 FmlA. -/
import Derived.Test.YtiookelkkekbeaaGreatProg
import Derived.Test.YtiookelkkekbeaaGreatPa
import Derived.Test.YtiookelkkekbeaaGreatPf
import Derived.Test.YtiookelkkekbeaaGreatPe
import Derived.Test.YtiookelkkekbeaaGreatPc
import Derived.Test.YtiookelkkekbeaaGreatPd
import Derived.Laws.CopyOwn
import Derived.Deep.RegionLaw
import Derived.Deep.QuietTactic
import Derived.BigQuiet
import Derived.StillTactics
import Derived.IntWalk
import Derived.Deep.DeepCutAuto
import Derived.Maps.RangeWalk
import Derived.Carry
import Derived.Deep.LoopGhost
import Derived.Test.YtiookelkkekbeaaGreatPb
import Derived.Sort.CutIn
import Derived.Deep.Cut

namespace Go.Proofs.YtiookelkkekbeaaGreat
set_option maxHeartbeats 4000000
section
open Go.RowKit
structure Fh where
 op:Int
 p:Int
 o:Int
 v:Int
 g:Int
inductive Fm where
 | mk (h:Fh) (args:List Fm)
def Fm.h:Fm→Fh
 | .mk h _=>h
def Fm.args:Fm→List Fm
 | .mk _ l=>l
instance:Inhabited Fm:=⟨.mk ⟨0,0,0,0,0⟩ []⟩
def usP (op:Int):Bool:=decide (op=1∨op=3∨op=4∨op=5∨op=10)
def usO (op:Int):Bool:=decide (op=3)
def usV (op:Int):Bool:=decide (op=1∨op=2∨op=5∨op=6)
def usG (op:Int):Bool:=decide (op=11∨op=12∨op=13)
def arN (op:Int):Int:=if op=8∨op=9∨op=17 then 2 else if op≤6 then 0 else 1
def mxV (op:Int):Int:=if op=6 then 6 else 7
def kZ (n:Nat) (h:Fh) (k:Nat):Int:=
 if h.op<0∨17<h.op then 1 else if (k:Int)≠arN h.op then 15
 else if (usP h.op=true∧¬(0≤h.p∧h.p≤(n:Int)-1))∨(usO h.op=true∧¬(0≤h.o∧h.o≤(n:Int)-1))∨(usV h.op=true∧¬(0≤h.v∧h.v≤mxV h.op))∨(usG h.op=true∧¬(0≤h.g∧h.g≤(2:Int)^n-1)) then 2
 else if (usP h.op=false∧h.p≠0)∨(usO h.op=false∧h.o≠0)∨(usV h.op=false∧h.v≠0)∨(usG h.op=false∧h.g≠0) then 3 else 0
def YW:List Int→Int
 | []=>0
 | e::l=>if e≠0 then e else YW l
def nodS (n:Nat) (R:Fm→Int) (f:Fm):Int:=if kZ n f.h f.args.length≠0 then kZ n f.h f.args.length else YW (f.args.map R)
def jH (n:Nat):Nat→Fm→Int
 | 0=>nodS n fun _=>0
 | d+1=>nodS n (jH n d)
def yi (R:Fm→Nat×Nat) (l:List Fm):Nat×Nat:=l.foldl (fun a x=>(a.1+(R x).1,max a.2 (R x).2)) (1,0)
def yx:Nat→Fm→Nat×Nat
 | 0=>fun f=>((yi (fun _=>(0,0)) f.args).1,(yi (fun _=>(0,0)) f.args).2+1)
 | d+1=>fun f=>((yi (yx d) f.args).1,(yi (yx d) f.args).2+1)
def jl (x:Nat×Nat):Int:=if 128<x.1 then 5 else if 24<x.2 then 12 else 0
def kO (n:Int) (d:Nat) (f:Fm):Int:=if n<1∨5<n then 2 else if jl (yx d f)≠0 then jl (yx d f) else jH n.toNat d f
def FsAt (w:World) (B:Nat):Nat→Option Addr→List Fm→Prop
 | 0,_,l=>l=[]
 | d+1,A,l=>0<l.length→∃b o,A=some ⟨b,o,none⟩∧b<B∧∀i (hi:i<l.length),∃A' c',
   (∀j v,#[Value.int .i64 l[i].h.op,.int .i64 l[i].h.p,.int .i64 l[i].h.o,.int .i64 l[i].h.v,.int .i64 l[i].h.g,.slice A' l[i].args.length c'][j]?=some v→w.cell? ⟨b,o+i*6+j,none⟩=some v)∧FsAt w B d A' l[i].args
def Fm.vs (f:Fm) (A:Option Addr) (c:Nat):Array Value:=#[.int .i64 f.h.op,.int .i64 f.h.p,.int .i64 f.h.o,.int .i64 f.h.v,.int .i64 f.h.g,.slice A f.args.length c]
theorem FsAt.keep:∀ {d:Nat} {w w':World} {B:Nat} {A:Option Addr} {l:List Fm},FsAt w B d A l→Below B w w'→FsAt w' B d A l
 | 0,_,_,_,_,_,h,_=>h
 | d+1,w,w',B,A,l,h,hb=>fun h0=>by
  obtain ⟨b,o,e,hlt,hr⟩:=h h0
  refine ⟨b,o,e,hlt,fun i hi=>?_⟩
  obtain ⟨A',c',h1,h2⟩:=hr i hi
  exact ⟨A',c',fun j v hv=>(hb.cell hlt).trans (h1 j v hv),FsAt.keep h2 hb⟩
theorem FsAt.more:∀ {d:Nat} {w:World} {B B':Nat} {A:Option Addr} {l:List Fm},FsAt w B d A l→B≤B'→FsAt w B' d A l
 | 0,_,_,_,_,_,h,_=>h
 | d+1,w,B,B',A,l,h,hb=>fun h0=>by
  obtain ⟨b,o,e,hlt,hr⟩:=h h0
  refine ⟨b,o,e,by omega,fun i hi=>?_⟩
  obtain ⟨A',c',h1,h2⟩:=hr i hi
  exact ⟨A',c',h1,FsAt.more h2 hb⟩
def RecAt (w:World) (A:Option Addr) (l:List Fm) (F:Array Value→Fm→World→Prop):Prop:=∀i (hi:i<l.length),∃b o A' c',A=some ⟨b,o,none⟩∧b<w.heap.size ∧
 (∀W,Below w.heap.size w W→∀j v,(l[i].vs A' c')[j]?=some v→W.cell? ⟨b,o+i*6+j,none⟩=some v)∧∀X,Below w.heap.size w X→F (l[i].vs A' c') l[i] X
theorem RecAt.of {d:Nat} {w:World} {A:Option Addr} {l:List Fm} {F:Array Value→Fm→World→Prop} (h:FsAt w w.heap.size (d+1) A l)
  (hF:∀(x:Fm) (A':Option Addr) (c':Nat) (X:World),x∈l→FsAt X X.heap.size d A' x.args→F (x.vs A' c') x X):RecAt w A l F:=fun i hi=>by
 obtain ⟨b,o,e,hlt,hr⟩:=h (by omega)
 obtain ⟨A',c',h1,h2⟩:=hr i hi
 exact ⟨b,o,A',c',e,hlt,fun W hW j v hv=>(hW.cell hlt).trans (h1 j v hv),fun X hX=>hF _ A' c' X (List.getElem_mem hi) ((h2.keep hX).more hX.size)⟩
theorem RecAt.none {w:World} {A:Option Addr} {l:List Fm} {F:Array Value→Fm→World→Prop} (h:FsAt w w.heap.size 0 A l):RecAt w A l F:=fun i hi=>by
 rw [show l=[] from h] at hi;cases hi
theorem vm (R:Fm→Nat×Nat) (l:List Fm) (x:Fm):yi R (l++[x])=((yi R l).1+(R x).1,max (yi R l).2 (R x).2):=by unfold yi;rw [List.foldl_append];rfl
theorem uB (R:Fm→Nat×Nat):∀(l:List Fm) (a:Nat×Nat),a.1≤(l.foldl (fun a x=>(a.1+(R x).1,max a.2 (R x).2)) a).1∧a.2≤(l.foldl (fun a x=>(a.1+(R x).1,max a.2 (R x).2)) a).2
 | [],a=>⟨Nat.le_refl _,Nat.le_refl _⟩
 | x::l,a=>by
  have:=uB R l (a.1+(R x).1,max a.2 (R x).2)
  rw [List.foldl_cons]
  dsimp only at this
  omega
theorem vj (R:Fm→Nat×Nat) (l:List Fm) (k:Nat):(yi R (l.take k)).1≤(yi R l).1∧(yi R (l.take k)).2≤(yi R l).2:=by
 have h:=uB R (l.drop k) (yi R (l.take k))
 have e:yi R l=(l.drop k).foldl (fun a x=>(a.1+(R x).1,max a.2 (R x).2)) (yi R (l.take k)):=by
  unfold yi
  rw [←List.foldl_append,List.take_append_drop]
 rw [e];exact h
theorem wu (R:Fm→Nat×Nat) (hR:∀x,(R x).2≤(R x).1):∀(l:List Fm) (a:Nat×Nat),a.2+1≤a.1→(l.foldl (fun a x=>(a.1+(R x).1,max a.2 (R x).2)) a).2+1≤(l.foldl (fun a x=>(a.1+(R x).1,max a.2 (R x).2)) a).1
 | [],_,h=>h
 | x::l,a,h=>by
  rw [List.foldl_cons]
  refine wu R hR l _ ?_
  have:=hR x
  dsimp only
  omega
theorem vp:∀(d:Nat) (f:Fm),(yx d f).2≤(yx d f).1
 | 0,f=>wu _ (fun _=>Nat.le_refl _) f.args (1,0) (by decide)
 | d+1,f=>wu _ (vp d) f.args (1,0) (by decide)
theorem uC (R:Fm→Nat×Nat) {l:List Fm} {x:Fm} (h:x∈l):(R x).1≤(yi R l).1:=by
 obtain ⟨k,hk,rfl⟩:=List.getElem_of_mem h
 have h1:=(vj R l (k+1)).1
 rw [List.take_succ_eq_append_getElem hk,vm] at h1
 dsimp only at h1
 omega
theorem QB (R:Fm→Nat×Nat) (hR:∀x,1≤(R x).1):∀(l:List Fm) (a:Nat×Nat),a.1+l.length≤(l.foldl (fun a x=>(a.1+(R x).1,max a.2 (R x).2)) a).1
 | [],_=>Nat.le_refl _
 | x::l,a=>by
  have:=QB R hR l (a.1+(R x).1,max a.2 (R x).2)
  have:=hR x
  rw [List.foldl_cons,List.length_cons]
  dsimp only at *
  omega
theorem vn (R:Fm→Nat×Nat) (hR:∀x,1≤(R x).1) (l:List Fm):l.length≤(yi R l).1:=by
 have:1+l.length≤(yi R l).1:=QB R hR l (1,0)
 omega
theorem jL:∀(d:Nat) (f:Fm),1≤(yx d f).1
 | 0,f=>(uB _ f.args (1,0)).1
 | _+1,f=>(uB _ f.args (1,0)).1
theorem wW (e:Int) (l:List Int):YW (e::l)=if e≠0 then e else YW l:=rfl
theorem Xt {l:List Int} (h:∀e∈l,e=0):YW l=0:=by
 induction l with
 | nil=>rfl
 | cons e l ih=>
  rw [wW,if_neg (by simpa using h e (by simp))]
  exact ih fun x hx=>h x (by simp [hx])
theorem ffsE_at {l:List Int} {k:Nat} (hk:k<l.length) (h0:∀j (hj:j<l.length),j<k→l[j]=0) (h1:l[k]≠0):YW l=l[k]:=by
 induction l generalizing k with
 | nil=>simp at hk
 | cons e l ih=>
  cases k with
  | zero=>
   simp only [List.getElem_cons_zero] at h1 ⊢
   rw [wW,if_pos h1]
  | succ k=>
   have he:e=0:=h0 0 (by simp) (by omega)
   simp only [List.getElem_cons_succ] at h1 ⊢
   rw [wW,if_neg (by simpa using he)]
   refine ih (by simpa using hk) (fun j hj hlt=>?_) h1
   have:=h0 (j+1) (by simpa using hj) (by omega)
   simpa using this
end
section
open Go.RowKit
theorem kI {p:Pb} (h:xE p=true):ya p=(zx p,0)∧yn (zx p)=0∧xY p∧zV p=0∧yd p≤60∧p.t.n≤3∧∃K N,Fine (zx p) K N∧Sees (zx p) K N:=by
 unfold xE at h
 rw [Bool.and_eq_true] at h
 obtain ⟨h1,h2⟩:=h
 obtain ⟨hf,h3⟩:=few_x h1
 have h4:(ya p).2=0:=of_decide_eq_true h2
 have h0:zV p=0:=by
  by_cases h0:zV p=0
  · exact h0
  · rw [yO h0] at h4;exact absurd h4 h0
 have hm:¬4096<yd p:=fun hm=>by rw [xz h0 hm] at h4;exact absurd h4 (by decide)
 have h60:yd p≤60:=by
  rcases hf.2 h0 with h | h
  · exact h
  · exact absurd h hm
 have hb:=qi h0 (by omega)
 obtain ⟨hpt,_⟩:=zX h0
 obtain ⟨_,hn1,hn5⟩:=xg hpt
 obtain ⟨K,N,hF⟩:=YF hf h0 h60
 refine ⟨hb,?_,hf,h0,h60,by omega,K,N,hF,jB hF⟩
 unfold yn
 have e:(zx p).p=p:=rfl
 rw [e,hb,if_neg (by simp),if_pos rfl]
end
section
theorem Jo {r:Rd} (h:yI r=0) (p:Nat) (hp:p<5):xM r.n p (r.h p)=0:=by
 unfold yI at h
 split at h
 · cases h
 · have key : ∀ k, k ≤ 5 → yG r (5 - k) k = 0 → ∀ q, k ≤ q → q < 5 → xM r.n q (r.h q) = 0 := by
    intro k hk
    induction hm:5-k generalizing k with
    | zero=>intro _ q h1 h2;omega
    | succ m ih=>
     intro hz q h1 h2
     unfold yG at hz
     split at hz
     · rename_i hne;exact absurd hz hne
     · rename_i hne
       by_cases e:q=k
       · subst e;simpa using hne
       · exact ih (k+1) (by omega) (by omega) hz q (by omega) h2
   exact key 0 (by omega) h p (by omega) hp
theorem wU {r:Rd} {N:Nat} (h:yc r=0) (hn:r.n=(N:Int)) (h5:N≤5) {q:Nat} (hq:q<N):∃m:Nat,r.h q=(m:Int)∧m<2^N∧m.testBit q=true:=by
 have h1:=Jo (kh h).2.2.1 q (by omega)
 unfold xM at h1
 rw [if_neg (by omega)] at h1
 split at h1
 · cases h1
 · rename_i hb
   split at h1
   · rename_i ht
     rw [hn,Int.toNat_natCast] at hb
     obtain ⟨m,hm⟩:=Int.eq_ofNat_of_zero_le (show 0≤r.h q by omega)
     rw [hm] at hb ht ⊢
     have hp:=Nat.two_pow_pos N
     exact ⟨m,rfl,by omega,by simpa using ht⟩
   · cases h1
section
variable {s:Sy} {K N:Nat}
theorem Fine.row (hF:Fine s K N) {x:Exn} (hx:x∈s.xs) {k:Nat} (hk:k≤K):(x.views.getD k []).length=N∧∀i∈x.views.getD k [],0≤i∧i<s.vs.length:=by
 obtain ⟨hl,h⟩:=hF.views x hx
 have hk2:k<x.views.length:=by omega
 rw [List.getD_eq_getElem?_getD,List.getElem?_eq_getElem hk2]
 exact h _ (List.getElem_mem hk2)
theorem Fine.round (hF:Fine s K N) {x:Exn} (hx:x∈s.xs) {k:Nat} (hk:k<K):yc (x.word.getD k default)=0∧(x.word.getD k default).n=(N:Int):=by
 obtain ⟨hl,h⟩:=hF.word x hx
 have hk2:k<x.word.length:=by omega
 rw [List.getD_eq_getElem?_getD,List.getElem?_eq_getElem hk2]
 exact h _ (List.getElem_mem hk2)
end
end
section
open Go.RowKit
theorem Jd (n:Nat):madeCells #[.int .i64 0] (n*1)=((List.replicate n 0).map (Value.int .i64)).toArray:=by
 unfold madeCells
 apply Array.ext
 · simp
 · intro i h1 h2
   simp [Nat.mod_one]
theorem make_rowN (n:Nat) (hn:n≤100000) (W:World):(Instr.makeSlice 36 (.int .i64 n) (.int .i64 n)).run Tryz.prog W=.ok (.slice (some ⟨W.heap.size,0,none⟩) n n) (W.alloc (.cells ((List.replicate n 0).map (Value.int .i64)).toArray 3)):=by
 obtain ⟨i0,hi,hz0,hz1,hz2⟩:=xu jv
 have hb:i0.bytes=8:=hz2
 have hs:i0.size=1:=hz1
 have h:=run_make (P:=Tryz.prog) W 36 3 i0 (.int .i64 0) Tryz.underlying36 hi hz0 .i64 .i64 (n:Int) (n:Int) (by omega) (Int.le_refl _) (by rw [hb];omega) (by omega)
 rw [h,hs]
 simp only [Int.toNat_natCast]
 rw [show (Value.int .i64 0).cells=#[.int .i64 0] from rfl,Jd]
end
section
open Go.RowKit Go.Shelf
attribute [local go_sem] Oper.semAt_some
theorem shl_one {N:Nat} (h:N≤5):(2^((N:Int)).toNat:Int)=((2^N:Nat):Int):=by
 obtain rfl | rfl | rfl | rfl | rfl | rfl:N=0∨N=1∨N=2∨N=3∨N=4∨N=5:=by omega
 all_goals rfl
end
section
structure Frst (n:Nat) (f:List Int) (ρ h:Nat→Nat):Prop where
 len:f.length=n
 at_:∀i,i<n→∃k:Nat,f.getD i 0=(k:Int)∧k<n∧ρ k=ρ i∧(k=i→ρ i=i)∧(k≠i→h k<h i)
 root:∀i,i<n→ρ i<n∧f.getD (ρ i) 0=(ρ i:Int)
theorem Frst.rr {n:Nat} {f:List Int} {ρ h:Nat→Nat} (F:Frst n f ρ h) {i:Nat} (hi:i<n):ρ (ρ i)=ρ i:=by
 obtain ⟨h1,h2⟩:=F.root i hi
 obtain ⟨k,k1,k2,k3,k4,k5⟩:=F.at_ _ h1
 exact k4 (by omega)
theorem Frst.start (n:Nat):Frst n ((List.range n).map fun (i:Nat)=>(i:Int)) id (fun _=>0) where
 len:=by simp
 at_:=fun i hi=>⟨i,by rw [xn (by simpa using hi)];simp,hi,rfl,fun _=>rfl,fun h=>absurd rfl h⟩
 root:=fun i hi=>⟨hi,by rw [xn (by simpa using hi)];simp⟩
theorem Frst.halve {n:Nat} {f:List Int} {ρ h:Nat→Nat} (F:Frst n f ρ h) {i j k:Nat} (hi:i<n) (hj:f.getD i 0=(j:Int)) (hk:f.getD j 0=(k:Int)) (hne:j≠i) :
  Frst n (f.set i (k:Int)) ρ h∧k<n∧ρ k=ρ i∧h k<h i:=by
 obtain ⟨j',e1,j1,j2,_,j4⟩:=F.at_ i hi
 have:j'=j:=by omega
 subst this
 obtain ⟨k',e2,k1,k2,k3,k4⟩:=F.at_ _ j1
 have:k'=k:=by omega
 subst this
 have hl:=F.len
 have hh:h k'<h i:=by
  by_cases e:k'=j'
  · subst e;exact j4 hne
  · have:=k4 e;have:=j4 hne;omega
 have hnr:∀x,x<n→ρ x≠i:=fun x hx e=>by have:=(F.root x hx).2;rw [e,e1] at this;exact hne (by omega)
 refine ⟨⟨by simp [hl],fun x hx=>?_,fun x hx=>?_⟩,k1,by rw [k2,j2],hh⟩
 · rw [jW (by omega)]
   by_cases e:x=i
   · subst e
     rw [if_pos rfl]
     exact ⟨k',rfl,k1,by rw [k2,j2],fun e=>by rw [e] at hh;omega,fun _=>hh⟩
   · rw [if_neg e];exact F.at_ x hx
 · obtain ⟨r1,r2⟩:=F.root x hx
   refine ⟨r1,?_⟩
   rw [jW (by omega),if_neg (hnr x hx)];exact r2
theorem Frst.join {n:Nat} {f:List Int} {ρ h:Nat→Nat} (F:Frst n f ρ h) {a b:Nat} (ha:a<n) (hb:b<n) :
  Frst n (f.set (ρ a) (ρ b:Int)) (fun x=>if ρ x=ρ a then ρ b else ρ x) (fun x=>if ρ x=ρ a∧ρ a≠ρ b then h x+h (ρ b)+1 else h x):=by
 have hl:=F.len
 obtain ⟨a1,a2⟩:=F.root a ha
 obtain ⟨b1,b2⟩:=F.root b hb
 have ra:=F.rr ha
 have rb:=F.rr hb
 refine ⟨by simp [hl],fun x hx=>?_,fun x hx=>?_⟩
 · rw [jW (by omega)]
   obtain ⟨k,k1,k2,k3,k4,k5⟩:=F.at_ x hx
   by_cases e:x=ρ a
   · subst e
     rw [if_pos rfl]
     refine ⟨ρ b,rfl,b1,?_,fun e=>?_,fun e=>?_⟩
     · simp only [ra,rb,if_true];split<;>rfl
     · simp only [ra,if_true];exact e
     · simp only [ra,rb]
       rw [if_neg (fun h=>e h.1),if_pos ⟨trivial,fun h=>e h.symm⟩];omega
   · rw [if_neg e]
     refine ⟨k,k1,k2,by simp only [k3],fun e2=>?_,fun e2=>?_⟩
     · subst e2
       have:=k4 rfl
       have e3:¬ρ k=ρ a:=fun h=>e (by omega)
       simp only [if_neg e3];exact this
     · have:=k5 e2
       simp only [k3]
       split<;>omega
 · by_cases e:ρ x=ρ a
   · simp only [if_pos e]
     refine ⟨b1,?_⟩
     rw [jW (by omega)]
     split
     · rfl
     · exact b2
   · obtain ⟨r1,r2⟩:=F.root x hx
     simp only [if_neg e]
     refine ⟨r1,?_⟩
     rw [jW (by omega),if_neg e];exact r2
def shr (L:List (Nat×Int)) (x y:Nat):Prop:=∃v,(x,v)∈L∧(y,v)∈L
theorem shr_symm (L:List (Nat×Int)) (x y:Nat) (h:shr L x y):shr L y x:=by obtain ⟨v,a,b⟩:=h;exact ⟨v,b,a⟩
def FrT (n:Nat) (r:Nat→Nat→Prop) (ρ:Nat→Nat):Prop:=∀i j,i<n→j<n→(ρ i=ρ j↔Conn n r i j)
theorem FrT.start (n:Nat):FrT n (shr []) id:=fun i j _ _=>by
 constructor
 · rintro rfl;exact .refl _
 · intro h
   induction h with
   | refl=>rfl
   | step _ _ _ h3 _=>obtain ⟨v,a,_⟩:=h3;cases a
theorem FrT.congr {n:Nat} {r r':Nat→Nat→Prop} {ρ:Nat→Nat} (h:FrT n r ρ) (h1:∀i j,i<n→j<n→r i j→Conn n r' i j) (h2:∀i j,i<n→j<n→r' i j→Conn n r i j):FrT n r' ρ:=fun i j hi hj=>
 (h i j hi hj).trans ⟨fun c=>c.mono h1,fun c=>c.mono h2⟩
theorem FrT.fresh {n:Nat} {L:List (Nat×Int)} {ρ:Nat→Nat} (h:FrT n (shr L) ρ) {m:Nat} {v:Int} (hv:∀x,(x,v)∉L):FrT n (shr (L++[(m,v)])) ρ:=by
 refine h.congr (fun i j hi hj ⟨u,a,b⟩=>.one hi hj ⟨u,by simp [a],by simp [b]⟩) fun i j hi hj ⟨u,a,b⟩=>?_
 simp only [List.mem_append,List.mem_singleton,Prod.mk.injEq] at a b
 rcases a with a | ⟨rfl,rfl⟩
 · rcases b with b | ⟨rfl,rfl⟩
   · exact .one hi hj ⟨u,a,b⟩
   · exact absurd a (hv _)
 · rcases b with b | ⟨rfl,-⟩
   · exact absurd b (hv _)
   · exact .refl _
theorem FrT.join {n:Nat} {L:List (Nat×Int)} {ρ:Nat→Nat} (h:FrT n (shr L) ρ) {m i:Nat} {v:Int} (hm:m<n) (hi:i<n) (hv:(i,v)∈L) :
  FrT n (shr (L++[(m,v)])) (fun x=>if ρ x=ρ m then ρ i else ρ x):=by
 have hs:=shr_symm (L++[(m,v)])
 have sub:∀ {x y},Conn n (shr L) x y→Conn n (shr (L++[(m,v)])) x y:=fun c=>c.mono fun x y hx hy ⟨u,a,b⟩=>.one hx hy ⟨u,by simp [a],by simp [b]⟩
 have hmi:Conn n (shr (L++[(m,v)])) m i:=.one hm hi ⟨v,by simp,by simp [hv]⟩
 have up:∀ {x y},x<n→y<n→ρ x=ρ y→Conn n (shr (L++[(m,v)])) x y:=fun hx hy e=>sub ((h _ _ hx hy).1 e)
 intro x y hx hy
 constructor
 · intro e
   dsimp only at e
   by_cases ex:ρ x=ρ m
   · by_cases ey:ρ y=ρ m
     · exact up hx hy (by omega)
     · rw [if_pos ex,if_neg ey] at e
       exact (up hx hm ex).trans (hmi.trans (up hi hy e))
   · by_cases ey:ρ y=ρ m
     · rw [if_neg ex,if_pos ey] at e
       exact (up hx hi e).trans ((hmi.symm hs).trans (up hm hy ey.symm))
     · rw [if_neg ex,if_neg ey] at e
       exact up hx hy e
 · intro c
   induction c with
   | refl=>rfl
   | @step j k _ hj hk hr ih=>
    rw [ih hj]
    obtain ⟨u,a,b⟩:=hr
    simp only [List.mem_append,List.mem_singleton,Prod.mk.injEq] at a b
    have old:∀ {x y w},x<n→y<n→(x,w)∈L→(y,w)∈L→ρ x=ρ y:=fun hx hy a b=>(h _ _ hx hy).2 (.one hx hy ⟨_,a,b⟩)
    rcases a with a | ⟨rfl,rfl⟩
    · rcases b with b | ⟨rfl,rfl⟩
      · dsimp only;rw [old hj hk a b]
      · have:=old hj hi a hv
        dsimp only
        rw [if_pos rfl]
        split
        · rfl
        · exact this
    · rcases b with b | ⟨rfl,-⟩
      · have:=old hk hi b hv
        dsimp only
        rw [if_pos rfl]
        split
        · rfl
        · exact this.symm
      · rfl
end
section
def vwP (s:Sy) (x:Nat×Nat) (q:Nat):Int:=xw (s.xs.getD x.1 default) x.2 q
def qm (V:Nat×Nat→Nat→Int) (ps:List Nat) (c:Nat) (x:Nat×Nat):List (Nat×Int):=ps.map fun q=>(c,V x q)
def shL (V:Nat×Nat→Nat→Int) (ps:List Nat) (pre:List (Nat×Nat)):List (Nat×Int):=pre.zipIdx.flatMap fun y=>qm V ps y.2 y.1
theorem shL_snoc (V:Nat×Nat→Nat→Int) (ps:List Nat) (pre:List (Nat×Nat)) (x:Nat×Nat):shL V ps (pre++[x])=shL V ps pre++qm V ps pre.length x:=by
 unfold shL
 rw [List.zipIdx_append,List.flatMap_append]
 simp
theorem rowPr_nil (V:Nat×Nat→Nat→Int) (c:Nat) (x:Nat×Nat):qm V [] c x=[]:=rfl
theorem J8 (V:Nat×Nat→Nat→Int) (ps:List Nat) (q c:Nat) (x:Nat×Nat):qm V (ps++[q]) c x=qm V ps c x++[(c,V x q)]:=by simp [qm]
theorem uO {V:Nat×Nat→Nat→Int} {ps:List Nat} {pre:List (Nat×Nat)} {i:Nat} {v:Int}:(i,v)∈shL V ps pre↔∃h:i<pre.length,∃q∈ps,V pre[i] q=v:=by
 unfold shL qm
 simp only [List.mem_flatMap,List.mem_map,Prod.mk.injEq]
 constructor
 · rintro ⟨⟨x,j⟩,hm,q,hq,rfl,rfl⟩
   obtain ⟨h1,h2⟩:=List.getElem?_eq_some_iff.1 (List.mk_mem_zipIdx_iff_getElem?.1 hm)
   exact ⟨h1,q,hq,by rw [h2]⟩
 · rintro ⟨h,q,hq,rfl⟩
   exact ⟨(pre[i],i),List.mk_mem_zipIdx_iff_getElem?.2 (List.getElem?_eq_getElem h),q,hq,rfl,rfl⟩
def jI (L:List (Nat×Int)):Int→Option Value:=fun v=>(L.find? fun p=>p.2==v).map fun p=>.int .i64 (p.1:Int)
theorem fstG_nil:jI []=fun _=>none:=rfl
theorem fstG_some {L:List (Nat×Int)} {v:Int} {u:Value} (h:jI L v=some u):∃i:Nat,u=.int .i64 (i:Int)∧(i,v)∈L:=by
 unfold jI at h
 obtain ⟨p,hp,rfl⟩:=Option.map_eq_some_iff.1 h
 have h1:=List.mem_of_find?_eq_some hp
 have h2:=List.find?_some hp
 rw [beq_iff_eq] at h2
 exact ⟨p.1,rfl,by rw [←h2];exact h1⟩
theorem fstG_none {L:List (Nat×Int)} {v:Int} (h:jI L v=none) (x:Nat):(x,v)∉L:=fun hm=>by
 unfold jI at h
 rw [Option.map_eq_none_iff,List.find?_eq_none] at h
 exact h _ hm (by simp)
theorem fstG_put {L:List (Nat×Int)} {v:Int} (h:jI L v=none) (m:Nat):qQ (jI L) v (.int .i64 (m:Int))=jI (L++[(m,v)]):=by
 funext x
 have hn:L.find? (fun p=>p.2==v)=none:=by unfold jI at h;rwa [Option.map_eq_none_iff] at h
 unfold qQ jI
 rw [List.find?_append]
 by_cases e:x=v
 · subst e;rw [if_pos rfl,hn];simp
 · rw [if_neg e]
   cases hf:L.find? (fun p=>p.2==x) with
   | some p=>rfl
   | none=>simp;exact fun e2=>e e2.symm
theorem fstG_keep {L:List (Nat×Int)} {v:Int} {u:Value} (h:jI L v=some u) (m:Nat):jI (L++[(m,v)])=jI L:=by
 funext x
 unfold jI at *
 rw [List.find?_append]
 cases hf:L.find? (fun p=>p.2==x) with
 | some p=>rfl
 | none=>
  have:¬v=x:=fun e=>by subst e;rw [hf] at h;cases h
  simp [this]
theorem vw_proc {s:Sy} {K N:Nat} (hs:Sees s K N) {x y:Nat×Nat} {q r:Nat} (hx:x.1<s.xs.length) (hy:y.1<s.xs.length) (hxk:x.2≤K) (hyk:y.2≤K) (hq:q<N) (hr:r<N) (e:vwP s x q=vwP s y r):q=r∧x.2=y.2:=by
 unfold vwP at e
 rw [zD hx,zD hy] at e
 obtain ⟨v,h1,h2,h3⟩:=hs.pr (List.getElem_mem hx) hxk hq
 obtain ⟨u,g1,g2,g3⟩:=hs.pr (List.getElem_mem hy) hyk hr
 rw [e] at h1
 have:v=u:=Option.some.inj (h1.2.symm.trans g1.2)
 subst this
 omega
theorem keyL_vw (s:Sy) (q:Nat):qB s q=(zt (s.p.k.toNat+1) 0 s.xs.length).map fun x=>vwP s x q:=rfl
theorem shr_adj {s:Sy} {K N:Nat} (hF:Fine s K N) (hs:Sees s K N) {g:Int} {i j:Nat} (hi:i<ptn s) (hj:j<ptn s):shr (shL (vwP s) (psG s g) (zt (K+1) 0 s.xs.length)) i j↔qk s g i j:=by
 have hk:s.p.k.toNat=K:=by have:=hF.k;omega
 have hN:s.n.toNat=N:=by have:=hF.n;omega
 have hlen:(zt (K+1) 0 s.xs.length).length=ptn s:=by rw [xF _ _ (by omega)];unfold ptn;rw [hk]
 have hq:∀q∈psG s g,q<N:=fun q hq=>by unfold psG yP at hq;have:=List.mem_range.1 (List.mem_filter.1 hq).1;omega
 have hcl:∀q,(qC s q).getD i 0=(qC s q).getD j 0↔vwP s ((zt (K+1) 0 s.xs.length)[i]'(by omega)) q=vwP s ((zt (K+1) 0 s.xs.length)[j]'(by omega)) q:=fun q=>by
  have hl:(qB s q).length=ptn s:=vu s q
  rw [xn (by rw [kC];exact hi),xn (by rw [kC];exact hj)]
  have:=vz (qB s q) (i:=i) (j:=j) (by omega) (by omega)
  rw [show (qC s q)[i]'(by rw [kC];exact hi)=(yR (qB s q))[i]'(by rw [xL];omega) from rfl,show (qC s q)[j]'(by rw [kC];exact hj)=(yR (qB s q))[j]'(by rw [xL];omega) from rfl,this]
  simp only [keyL_vw,List.getElem_map,hk]
 have hpl:∀ {t:Nat} (ht:t<(zt (K+1) 0 s.xs.length).length),(zt (K+1) 0 s.xs.length)[t].1<s.xs.length∧(zt (K+1) 0 s.xs.length)[t].2≤K:=fun ht=>by
  obtain ⟨_,h1,h2⟩:=xd _ _ _ (List.getElem_mem ht)
  omega
 unfold qk adjE shr
 constructor
 · rintro ⟨v,h1,h2⟩
   obtain ⟨a1,q,hq1,e1⟩:=uO.1 h1
   obtain ⟨a2,r,hr1,e2⟩:=uO.1 h2
   have e3:=e1.trans e2.symm
   obtain ⟨rfl,_⟩:=vw_proc hs (hpl a1).1 (hpl a2).1 (hpl a1).2 (hpl a2).2 (hq q hq1) (hq r hr1) e3
   exact ⟨q,hq1,(hcl q).2 e3⟩
 · rintro ⟨q,hq1,e⟩
   exact ⟨_,uO.2 ⟨by omega,q,hq1,rfl⟩,uO.2 ⟨by omega,q,hq1,((hcl q).1 e).symm⟩⟩
theorem XN {s:Sy} {K N:Nat} (hF:Fine s K N) (hs:Sees s K N) {g:Int} {ρ:Nat→Nat} (h:FrT (ptn s) (shr (shL (vwP s) (psG s g) (zt (K+1) 0 s.xs.length))) ρ) :
  yR ((zt (K+1) 0 s.xs.length).map fun x=>(ρ (x.1*(K+1)+x.2):Int))=yT (ptn s) (qk s g):=by
 have hk:s.p.k.toNat=K:=by have:=hF.k;omega
 have hlen:(zt (K+1) 0 s.xs.length).length=ptn s:=by rw [xF _ _ (by omega)];unfold ptn;rw [hk]
 refine JA (xa s g) _ (by simpa using hlen) fun i j h1 h2=>?_
 simp only [List.length_map] at h1 h2
 have hat:∀t (ht:t<(zt (K+1) 0 s.xs.length).length),(zt (K+1) 0 s.xs.length)[t].1*(K+1)+(zt (K+1) 0 s.xs.length)[t].2=t:=fun t ht=>by
  rw [XR _ _ (by omega)]
  simp only
  rw [Nat.mul_comm];exact Nat.div_add_mod t (K+1)
 simp only [List.getElem_map,hat]
 rw [Int.ofNat_inj,h i j (by omega) (by omega)]
 constructor
 · exact fun c=>c.mono fun x y hx hy hr=>.one hx hy ((shr_adj hF hs hx hy).1 hr)
 · exact fun c=>c.mono fun x y hx hy hr=>.one hx hy ((shr_adj hF hs hx hy).2 hr)
end
section
open Go.RowKit Go.Shelf
attribute [local go_sem] Oper.semAt_some
set_option maxRecDepth 100000 in
theorem ZU (n:Nat) (ρ h:Nat→Nat) (f:List Int) (F:Frst n f ρ h) (i:Nat) (hi:i<n) (g:Nat) (w:World) (hr:RowAt w g f) :
  Calls Tryz.prog 52 #[.slice (some ⟨g,0,none⟩) n n,.int .i64 (i:Int)] w fun e w'=>e=.returned (.int .i64 (ρ i:Int))∧(∃f',Frst n f' ρ h∧RowAt w' g f')∧Wrote (fun k=>k=g) w w':=by
 have HF:=zH F
 have HR:=zH hr
 clear F hr
 go_enter Tryz.func52,Tryz.ntmps52
 go_wp2_with fail
 go_loopw [1] (fun o wr=>∃(k:Nat) (f':List Int),o=.int .i64 (k:Int)∧k<n∧ρ k=ρ i∧Hid (Frst n f' ρ h)∧Hid (RowAt wr g f')∧Hid (Wrote (fun k=>k=g) w wr)) (fun o _=>h (intOf o).toNat)
 case atStart=>exact ⟨i,f,rfl,hi,rfl,HF,HR,Wrote.refl _ _⟩
 case round=>
  obtain ⟨k,f',rfl,hk,hρ,HF',HR',HW⟩:=hrel
  clear HF HR
  obtain ⟨j,e1,j1,j2,j3,j4⟩:=HF'.out.at_ k hk
  obtain ⟨m,e2,m1,m2,m3,m4⟩:=HF'.out.at_ j j1
  have hl:=HF'.out.len
  rw [xn (by omega)] at e1 e2
  have c1:=HR'.out.cell k (by omega)
  have c2:=HR'.out.cell j (by omega)
  rw [e1] at c1
  rw [e2] at c2
  have hk0:(0:Int)≤(k:Int):=by omega
  have hk1:(k:Int)<(n:Int):=by omega
  have hj0:(0:Int)≤(j:Int):=by omega
  have hj1:(j:Int)<(n:Int):=by omega
  by_cases hne:j=k
  · subst hne
    have HE:Hid (ρ i=j):=by rw [←hρ];exact j3 rfl
    clear e1 e2 m1 m2 m3 m4 j1 j2 j3 j4 hl c2 hρ
    go_wp2_with fail
    go_ret
    rw [HE.out]
    exact ⟨rfl,⟨f',HF'.out,HR'.out⟩,HW.out⟩
  · obtain ⟨F2,q1,q2,q3⟩:=HF'.out.halve hk (by rw [xn (by omega),e1]) (by rw [xn (by omega),e2]) hne
    have HF2:=zH F2
    have HR2:=zH (HR'.out.set k (m:Int))
    have HW2:Hid (Wrote (fun k=>k=g) w (wr.setCell ⟨g,k,none⟩ (.int .i64 (m:Int)))):=HW.out.trans (Wrote.of_grown (zQ wr g k _) (fun k e _=>by cases e;rfl)) (fun _ _ h=>h)
    have HQ:=zH (And.intro q1 (And.intro (show ρ m=ρ i by omega) q3))
    have hz0:=zi HR'.out k
    have hne':¬(j:Int)=(k:Int):=by omega
    have hlg:=HR'.out.lt
    clear e1 e2 m1 m2 m3 m4 j1 j2 j3 j4 hl F2 q1 q2 q3 hρ hne
    go_wp2_with fail
    go_roundw
    case rel=>exact ⟨m,_,rfl,HQ.out.1,HQ.out.2.1,HF2,HR2,HW2⟩
    case measure=>simpa [intOf] using HQ.out.2.2
set_option maxRecDepth 100000 in
theorem reach1_any (n K:Nat) (hn:n≤100000) (hK:K≤100) (ρ h:Nat→Nat) (f:List Int) (F:Frst n f ρ h) (e k:Nat) (he:e*(K+1)+k<n) (C:Array Value) (hC:C[6]?=some (.int .i64 (K:Int))) (g b7 b2:Nat) (w:World) (hr:RowAt w g f)
  (h7:w.heap[b7]?=some (.cells #[.slice (some ⟨g,0,none⟩) n n] 106 (0,0))) (h2:w.heap[b2]?=some (.cells C 35 (0,0))) :
  Calls Tryz.prog 54 #[.agg #[.int .i64 (e:Int),.int .i64 (k:Int)],.pointer (some ⟨b7,0,none⟩),.pointer (some ⟨b2,0,none⟩)] w fun r w'=>r=.returned (.int .i64 (ρ (e*(K+1)+k):Int))∧(∃f',Frst n f' ρ h∧RowAt w' g f')∧Wrote (fun k=>k=g) w w':=by
 obtain ⟨w1,hw1,d0,hs1,hB⟩:=zm w #[.int .i64 (e:Int),.int .i64 (k:Int)] 84
 have HC:=zH (ZU n ρ h f F _ he g w1 ((hB.block _ hr.lt).trans hr))
 have q0:=zh d0 0 rfl
 have q1:=zh d0 1 rfl
 have z0:=zh ((hB.block _ (zj h7)).trans h7) 0 rfl
 have z6:=zh ((hB.block _ (zj h2)).trans h2) 6 hC
 have y0:=zh h7 0 rfl
 have y6:=zh h2 6 hC
 have l7:=zj h7
 have l2:=zj h2
 have HW:Hid (Wrote (fun k=>k=g) w w1):=Wrote.of_below hB
 have hm1:e≤e*(K+1):=Nat.le_mul_of_pos_right _ (by omega)
 have a1:IntKind.i64.wrap ((K:Int)+1)=(K:Int)+1:=by rw [IntKind.wrap_i64];omega
 have a2:IntKind.i64.wrap ((e:Int)*((K:Int)+1))=((e*(K+1):Nat):Int):=by rw [show (e:Int)*((K:Int)+1)=((e*(K+1):Nat):Int) by push_cast;rfl,IntKind.wrap_i64];omega
 have a3:IntKind.i64.wrap (((e*(K+1):Nat):Int)+(k:Int))=((e*(K+1)+k:Nat):Int):=by rw [IntKind.wrap_i64];omega
 have HW1:=zH hw1
 obtain ⟨t,ht⟩:∃t,e*(K+1)=t:=⟨_,rfl⟩
 rw [ht] at a2 a3 HC ⊢
 obtain ⟨u,hu⟩:∃u,t+k=u:=⟨_,rfl⟩
 rw [hu] at a3 HC ⊢
 clear hw1 d0 hB F he hr h7 h2 hC ht hu hm1
 go_enter Tryz.func54,Tryz.ntmps54
 go_wp2_with fail
 rw [HW1.out]
 go_wp2_with fail
 refine HC.out.mono ?_
 rintro r w2 ⟨rfl,hf,hw⟩
 have HF:=zH hf
 have HW2:=zH (HW.out.trans hw (fun _ _ h=>h))
 clear hf hw HC HW
 go_wp2_with fail
 go_ret
 exact ⟨rfl,HF.out,HW2.out⟩
end
section
open Go.RowKit Go.Shelf
attribute [local go_sem] Oper.semAt_some
def wP (a b:List Int) (k:Nat):List Int:=a.take k++b.drop k
theorem midL_zero (a b:List Int):wP a b 0=b:=by simp [wP]
theorem midL_all {a b:List Int} (h:a.length=b.length) {k:Nat} (hk:k=b.length):wP a b k=a:=by subst hk;simp [wP,←h]
theorem Jb {a b:List Int} (h:a.length=b.length) (k:Nat):(wP a b k).length=b.length:=by simp [wP];omega
theorem Jc {a b:List Int} (h:a.length=b.length) {k:Nat} (hk:k≤b.length) (i:Nat):(wP a b k)[i]?=if i<k then a[i]? else b[i]?:=by
 unfold wP
 by_cases e:i<k
 · rw [if_pos e,List.getElem?_append_left (by simp;omega),List.getElem?_take,if_pos e]
 · rw [if_neg e,List.getElem?_append_right (by simp;omega),List.getElem?_drop]
   congr 1
   simp
   omega
theorem midL_set {a b:List Int} (h:a.length=b.length) {k:Nat} (hk:k<b.length):(wP a b k).set k (a[k]'(by omega))=wP a b (k+1):=by
 refine List.ext_getElem? fun i=>?_
 rw [List.getElem?_set,Jc h (by omega),Jc h (by omega),Jb h]
 by_cases e:k=i
 · subst e
   rw [if_pos rfl,if_pos hk,if_pos (by omega),List.getElem?_eq_getElem]
 · rw [if_neg e]
   by_cases e2:i<k
   · rw [if_pos e2,if_pos (by omega)]
   · rw [if_neg e2,if_neg (by omega)]
end
section
open Go.RowKit Go.Shelf
attribute [local go_sem] Oper.semAt_some
theorem set3 {w:World} {g:Nat} {x0 x1 x2:Value} {t:TypeId} (h:w.heap[g]?=some (.cells #[x0,x1,x2] t (0,0))) (y0 y1 y2:Value) :
  ∃W,(((w.setCell ⟨g,0,none⟩ y0).setCell ⟨g,1,none⟩ y1).setCell ⟨g,2,none⟩ y2)=W∧W.heap[g]?=some (.cells #[y0,y1,y2] t (0,0))∧(∀k,k≠g→W.heap[k]?=w.heap[k]?)∧∀B,B≤g→Below B w W:=by
 refine ⟨_,rfl,?_,fun k hk=>?_,fun B hB=>?_⟩
 · have a1:=heap_setCell_same w g 0 _ _ y0 h
   have a2:=heap_setCell_same _ g 1 _ _ y1 a1
   exact heap_setCell_same _ g 2 _ _ y2 a2
 · exact (Below.heap_setCell _ ⟨g,2,none⟩ y2 k hk).trans ((Below.heap_setCell _ ⟨g,1,none⟩ y1 k hk).trans (Below.heap_setCell _ ⟨g,0,none⟩ y0 k hk))
 · exact (((Below.refl B w).setCell (by show B≤g;omega) y0).setCell (by show B≤g;omega) y1).setCell (by show B≤g;omega) y2
set_option maxRecDepth 100000 in
theorem rsize_any (s:Sy) (K N:Nat) (hF:Fine s K N) (A SV AV AX:Option Addr) (kc ks kv kx:Nat) (w:World) :
  Calls Tryz.prog 70 #[.agg (s.vs_ A kc SV ks AV kv AX kx)] w fun e w'=>e=.returned (.int .i64 (ptn s:Int))∧Below w.heap.size w w':=by
 obtain ⟨w1,hw1,d0,hs1,hB⟩:=zm w (s.vs_ A kc SV ks AV kv AX kx) 35
 have hlx:=hF.lx
 have hk:=hF.k
 have hk6:=hF.k6
 have hn:ptn s=s.xs.length*(K+1):=by unfold ptn;rw [hk];rfl
 have hb:=Nat.mul_le_mul hlx (show K+1≤7 by omega)
 rw [hn]
 unfold Sy.vs_ at hw1 d0 ⊢
 rw [hk] at hw1 d0 ⊢
 obtain ⟨M,hM⟩:∃M,s.xs.length=M:=⟨_,rfl⟩
 rw [hM] at hw1 d0 hb hlx ⊢
 have HW1:=zH hw1
 have HB:=zH hB
 have HWR:Hid (wrap64 ((M:Int)*((K:Int)+1))=((M*(K+1):Nat):Int)):=by
  show wrap64 _=_
  rw [show (M:Int)*((K:Int)+1)=((M*(K+1):Nat):Int) by push_cast;rfl]
  exact IntWalk.wrap64_in _ (by omega)
 have p6:=zh d0 6 rfl
 have p9:=zh d0 9 rfl
 clear hw1 d0 hB hF hk hn hM hb
 go_enter Tryz.func70,Tryz.ntmps70
 go_wp2_with fail
 rw [HW1.out]
 go_wp2_with fail
 go_ret
 exact ⟨by rw [←HWR.out];rfl,HB.out⟩
set_option maxRecDepth 100000 in
theorem gE (s:Sy) (K N:Nat) (hF:Fine s K N) (i:Nat) (hi:i<ptn s) (A SV AV AX:Option Addr) (kc ks kv kx:Nat) (w:World) (hX:XAt w w.heap.size AX s.xs) :
  Calls Tryz.prog 98 #[.agg (s.vs_ A kc SV ks AV kv AX kx),.int .i64 (i:Int)] w fun e w'=>∃A1 c1 A2 c2,e=.returned (.tuple #[.agg #[.int .i64 (s.xs.getD (i / (K+1)) default).c,.slice A1 (s.xs.getD (i / (K+1)) default).word.length c1,.slice A2 (s.xs.getD (i / (K+1)) default).views.length c2],.int .i64 ((i % (K+1):Nat):Int)]) ∧
   LAt w' w.heap.size A2 (s.xs.getD (i / (K+1)) default).views∧RAt w' w.heap.size A1 (s.xs.getD (i / (K+1)) default).word∧Below w.heap.size w w':=by
 obtain ⟨w1,hw1,d0,d1,hs1,hB⟩:=yD w (s.vs_ A kc SV ks AV kv AX kx) #[.int .i64 0,.slice none 0 0,.slice none 0 0] 35 59
 have hlx:=hF.lx
 have hk:=hF.k
 have hk6:=hF.k6
 have hn:ptn s=s.xs.length*(K+1):=by unfold ptn;rw [hk];rfl
 have hq:i / (K+1)<s.xs.length:=by rw [hn,Nat.mul_comm] at hi;exact Nat.div_lt_of_lt_mul hi
 have hb:=Nat.mul_le_mul hlx (show K+1≤7 by omega)
 have hil:i≤700:=by omega
 rw [zD hq]
 obtain ⟨bx,ox,A1,c1,A2,c2,eX,hbx,x0,x1,x2,hRw,hL⟩:=(hX.keep hB).row _ hq
 subst eX
 obtain ⟨q,hqq⟩:∃q,i / (K+1)=q:=⟨_,rfl⟩
 have hq1:((i:Int)).tdiv ((K:Int)+1)=(q:Int):=by
  rw [←hqq,Int.tdiv_eq_ediv_of_nonneg (by omega)]
  push_cast;rfl
 have hr1:((i:Int)).tmod ((K:Int)+1)=((i % (K+1):Nat):Int):=by
  rw [Int.tmod_eq_emod_of_nonneg (by omega)]
  push_cast;rfl
 simp only [hqq] at hq x0 x1 x2 hRw hL ⊢
 have hql:q≤100:=by omega
 obtain ⟨rr,hrr⟩:∃rr,i % (K+1)=rr:=⟨_,rfl⟩
 have hrl:rr<K+1:=by rw [←hrr];exact Nat.mod_lt _ (by omega)
 rw [hrr] at hr1 ⊢
 obtain ⟨x,hx⟩:∃x,s.xs[q]=x:=⟨_,rfl⟩
 rw [hx] at x0 x1 x2 hRw hL ⊢
 unfold Sy.vs_ at hw1 d0 ⊢
 rw [hk] at hw1 d0 ⊢
 obtain ⟨M,hM⟩:∃M,s.xs.length=M:=⟨_,rfl⟩
 rw [hM] at hw1 d0 hq ⊢
 have HW1:=zH hw1
 have HB:=zH hB
 have HL:=zH hL
 have HRw:=zH hRw
 have HD1:=zH d1
 have p6:=zh d0 6 rfl
 have hd0:=zH d0
 have hq0:(0:Int)≤(q:Int):=by omega
 have hq2:(q:Int)<(M:Int):=by omega
 have hkz:¬((K:Int)+1)=0:=by omega
 have hwk:IntKind.i64.wrap ((K:Int)+1)=(K:Int)+1:=by rw [IntKind.wrap_i64];omega
 have hwq:IntKind.i64.wrap (q:Int)=(q:Int):=by rw [IntKind.wrap_i64];omega
 have hwr:IntKind.i64.wrap (rr:Int)=(rr:Int):=by rw [IntKind.wrap_i64];omega
 clear hw1 d0 d1 hB hF hk hn hM hb hX hL hRw hx hqq hrr hlx
 go_enter Tryz.func98,Tryz.ntmps98
 go_wp2_with fail
 rw [HW1.out]
 go_wp2_with fail
 have hbxw:bx<w.heap.size:=by omega
 refine zz [(0,true),(1,true),(2,true),(3,true),(4,true),(5,true),(6,true),(7,true),(8,true),(9,true),(10,false),(11,false)] (fun X=>X.heap[w.heap.size]?=w1.heap[w.heap.size]?∧X.heap[bx]?=w1.heap[bx]?) (by kernel_rfl) (by kernel_rfl) ⟨rfl,rfl⟩ ?_
 repeat
  apply zM rfl
  · rintro K' hK' X ⟨u1,u2⟩
    have y0:=(World.cell?_of_block u2).trans x0
    have y1:=(World.cell?_of_block u2).trans x1
    have y2:=(World.cell?_of_block u2).trans x2
    have y9:X.cell? ⟨w.heap.size,9,none⟩=some (.slice (some ⟨bx,ox,none⟩) M kx):=zh (u1.trans hd0.out) 9 rfl
    clear u1 u2
    go_simp
    exact hK'
 have HBd:=zH (HB.out.drew)
 have HDd:Hid (w1.drew.heap[w.heap.size+1]?=some (.cells #[.int .i64 0,.slice none 0 0,.slice none 0 0] 59 (0,0))):=HD1.out
 have HLd:Hid (LAt w1.drew w.heap.size A2 x.views):=HL.out.keep (Below.refl _ _).drew
 have HRd:Hid (RAt w1.drew w.heap.size A1 x.word):=HRw.out.keep (Below.refl _ _).drew
 have HO0:Hid (w1.drew.heap[w.heap.size]?=w1.heap[w.heap.size]?∧w1.drew.heap[bx]?=w1.heap[bx]?):=⟨rfl,rfl⟩
 obtain ⟨W5,hW5⟩:∃W5,w1.drew=W5:=⟨_,rfl⟩
 rw [hW5] at HBd HDd HLd HRd HO0 ⊢
 clear hW5 HL HRw x0 x1 x2
 have r0:=zh HDd.out 0 rfl
 have r1:=zh HDd.out 1 rfl
 have r2:=zh HDd.out 2 rfl
 have g0:=zi HDd.out 0
 have g1:=zi HDd.out 1
 have g2:=zi HDd.out 2
 have l1:=zj HDd.out
 refine zC rfl ?_
 intro K' hK'
 go_simp
 obtain ⟨W,hW,e1,e2,e3⟩:=set3 HDd.out (.int .i64 x.c) (.slice A1 x.word.length c1) (.slice A2 x.views.length c2)
 rw [hW]
 have HWB:=zH (e3 w.heap.size (by omega))
 have hkp:W.heap[w.heap.size]?=w1.heap[w.heap.size]?∧W.heap[bx]?=w1.heap[bx]?:=⟨(e2 _ (by omega)).trans HO0.out.1,(e2 bx (by omega)).trans HO0.out.2⟩
 refine hK' _ _ hkp ?_
 clear hK' K' r0 r1 r2 g0 g1 g2 l1 hW
 refine zC rfl ?_
 intro K' hK'
 go_simp
 refine hK' _ _ hkp ?_
 refine zT ?_
 clear hK' K'
 go_wp2_with fail
 have q0:=zh e1 0 rfl
 have q1:=zh e1 1 rfl
 have q2:=zh e1 2 rfl
 refine bodyPost_ret (v:=.tuple #[.agg #[.int .i64 x.c,.slice A1 x.word.length c1,.slice A2 x.views.length c2],.int .i64 (rr:Int)]) (by simp [results,Tryz.results98,go_sem,q0,q1,q2]) rfl ?_
 exact ⟨A1,c1,A2,c2,rfl,HLd.out.keep HWB.out,HRd.out.keep HWB.out,HBd.out.trans HWB.out⟩
theorem J7 (s:Sy) (K N:Nat) (hF:Fine s K N) (i:Nat) (hi:i<ptn s) (A SV AV AX:Option Addr) (kc ks kv kx:Nat) (w:World) (hX:XAt w w.heap.size AX s.xs) :
  Calls Tryz.prog 98 #[.agg (s.vs_ A kc SV ks AV kv AX kx),.int .i64 (i:Int)] w fun e w'=>∃A1 c1 A2 c2,e=.returned (.tuple #[.agg #[.int .i64 (s.xs.getD (i / (K+1)) default).c,.slice A1 (s.xs.getD (i / (K+1)) default).word.length c1,.slice A2 (s.xs.getD (i / (K+1)) default).views.length c2],.int .i64 ((i % (K+1):Nat):Int)]) ∧
   LAt w' w.heap.size A2 (s.xs.getD (i / (K+1)) default).views∧Below w.heap.size w w':=
 (gE s K N hF i hi A SV AV AX kc ks kv kx w hX).mono fun e w' h=>by
  obtain ⟨A1,c1,A2,c2,h1,h2,_,h3⟩:=h
  exact ⟨A1,c1,A2,c2,h1,h2,h3⟩
set_option maxRecDepth 100000 in
theorem rview_any (s:Sy) (K N:Nat) (hF:Fine s K N) (i q:Nat) (hi:i<ptn s) (hq:q<N) (A SV AV AX:Option Addr) (kc ks kv kx:Nat) (w:World) (hX:XAt w w.heap.size AX s.xs) :
  Calls Tryz.prog 100 #[.agg (s.vs_ A kc SV ks AV kv AX kx),.int .i64 (i:Int),.int .i64 (q:Int)] w fun e w'=>e=.returned (.int .i64 ((qB s q).getD i 0))∧Below w.heap.size w w':=by
 obtain ⟨w1,hw1,d0,hs1,hB⟩:=zm w (s.vs_ A kc SV ks AV kv AX kx) 35
 have hk:=hF.k
 have hn:ptn s=s.xs.length*(K+1):=by unfold ptn;rw [hk];rfl
 have hql:i / (K+1)<s.xs.length:=by rw [hn,Nat.mul_comm] at hi;exact Nat.div_lt_of_lt_mul hi
 have HP:=zH (J7 s K N hF i hi A SV AV AX kc ks kv kx w1 ((hX.keep hB).more hB.size))
 obtain ⟨hvl,hrow⟩:=hF.views _ (List.getElem_mem hql)
 have hkey:(qB s q).getD i 0=xw (s.xs.getD (i / (K+1)) default) (i % (K+1)) q:=by
  have hil:i<(qB s q).length:=by rw [vu];exact hi
  rw [xn hil,keyL_at,hk,Int.toNat_natCast]
 rw [hkey]
 rw [zD hql] at HP ⊢
 obtain ⟨x,hx⟩:∃x,s.xs[i / (K+1)]=x:=⟨_,rfl⟩
 rw [hx] at HP hvl hrow ⊢
 obtain ⟨rr,hrr⟩:∃rr,i % (K+1)=rr:=⟨_,rfl⟩
 have hrl:rr<K+1:=by rw [←hrr];exact Nat.mod_lt _ (by omega)
 rw [hrr] at HP ⊢
 have hrv:rr<x.views.length:=by omega
 have hrow2:=(hrow _ (List.getElem_mem hrv)).1
 have hxw:xw x rr q=(x.views[rr]).getD q 0:=by unfold xw;rw [zD hrv]
 rw [hxw]
 have hqr:q<(x.views[rr]).length:=by omega
 rw [xn hqr]
 have HVLn:=zH hvl
 rw [hvl] at HP
 unfold Sy.vs_ at hw1 d0 HP ⊢
 have HW1:=zH hw1
 have HB:=zH hB
 obtain ⟨p0,p1,p2,p3,p4,p5,p6,p7,p8,p9⟩:=zA d0
 clear hw1 d0 hB hF hk hn hX hkey hx hrr hrow hxw hvl
 go_enter Tryz.func100,Tryz.ntmps100
 go_wp2_with fail
 rw [HW1.out]
 go_wp2_with fail
 refine HP.out.mono ?_
 rintro e w2 ⟨A1,c1,A2,c2,rfl,hL,hb2⟩
 have HB2:=zH (HB.out.trans (hb2.mono (by omega)))
 have HL:=zH hL
 have hs12:=hb2.size
 clear p0 p1 p2 p3 p4 p5 p6 p7 p8 p9 hb2 hL HW1 HP
 go_upto_region 2 with fail
 obtain ⟨w3,hw3,d3,hs3,hB3⟩:=zm w2 #[.int .i64 x.c,.slice A1 x.word.length c1,.slice A2 (K+1) c2] 59
 rw [hw3]
 have HL3:=zH (HL.out.keep (hB3.mono hs12))
 have HB3:=zH (HB2.out.trans (hB3.mono HB2.out.size))
 have z2:=zh d3 2 rfl
 clear hw3 d3 hB3 HL
 obtain ⟨bl,ol,A3,c3,eL,hbl,y1,hI⟩:=HL3.out.at_ rr hrv
 subst eL
 obtain ⟨b4,o4,e4,hb4,z4⟩:=hI.at_ q hqr
 subst e4
 obtain ⟨u,hu⟩:∃u,(x.views[rr])[q]=u:=⟨_,rfl⟩
 rw [hu] at z4
 have HU:=zH hu
 obtain ⟨nr,hnr⟩:∃nr,(x.views[rr]).length=nr:=⟨_,rfl⟩
 rw [hnr] at y1 hrow2 hqr
 have h1:(0:Int)≤(rr:Int):=by omega
 have h2:(rr:Int)<((K+1:Nat):Int):=by omega
 have h22:(rr:Int)<(K:Int)+1:=by omega
 have h3:(0:Int)≤(q:Int):=by omega
 have h4:(q:Int)<(nr:Int):=by omega
 clear hu hnr hI
 go_wp2_with fail
 go_ret
 exact ⟨by rw [HU.out];rfl,HB3.out⟩
end
section
open Go.RowKit Go.Shelf
attribute [local go_sem] Oper.semAt_some
set_option maxRecDepth 100000 in
theorem ug (s:Sy) (K N:Nat) (hF:Fine s K N) (A SV AV AX:Option Addr) (kc ks kv kx:Nat) (w:World) :
  Calls Tryz.prog 51 #[.agg (s.vs_ A kc SV ks AV kv AX kx)] w fun e w'=>e=.returned (.int .i64 (ptn s:Int))∧Below w.heap.size w w':=by
 obtain ⟨w1,hw1,d0,hs1,hB⟩:=zm w (s.vs_ A kc SV ks AV kv AX kx) 35
 have hlx:=hF.lx
 have hk:=hF.k
 have hk6:=hF.k6
 have hn:ptn s=s.xs.length*(K+1):=by unfold ptn;rw [hk];rfl
 have hb:=Nat.mul_le_mul hlx (show K+1≤7 by omega)
 rw [hn]
 unfold Sy.vs_ at hw1 d0 ⊢
 rw [hk] at hw1 d0 ⊢
 obtain ⟨M,hM⟩:∃M,s.xs.length=M:=⟨_,rfl⟩
 rw [hM] at hw1 d0 hb hlx ⊢
 have HW1:=zH hw1
 have HB:=zH hB
 have HWR:Hid (wrap64 ((M:Int)*((K:Int)+1))=((M*(K+1):Nat):Int)):=by
  show wrap64 _=_
  rw [show (M:Int)*((K:Int)+1)=((M*(K+1):Nat):Int) by push_cast;rfl]
  exact IntWalk.wrap64_in _ (by omega)
 have p6:=zh d0 6 rfl
 have p9:=zh d0 9 rfl
 clear hw1 d0 hB hF hk hn hM hb
 go_enter Tryz.func51,Tryz.ntmps51
 go_wp2_with fail
 rw [HW1.out]
 go_wp2_with fail
 go_ret
 exact ⟨by rw [←HWR.out];rfl,HB.out⟩
def cntE (s:Sy):Int×Int:=if yn s≠0 then (0,yn s) else ((ptn s:Int),0)
set_option maxRecDepth 100000 in
theorem pCount_any (s:Sy) (hs:LowS s) (hf:xY s.p) (A SV AV AX:Option Addr) (kc ks kv kx:Nat) (w:World) (hS:SyAt w w.heap.size A SV AV AX s) :
  Calls Tryz.prog 25 #[.agg (s.vs_ A kc SV ks AV kv AX kx)] w fun e w'=>e=.returned (.tuple #[.int .i64 (cntE s).1,.int .i64 (cntE s).2])∧Below w.heap.size w w':=by
 obtain ⟨w1,hw1,d0,hs1,hB⟩:=zm w (s.vs_ A kc SV ks AV kv AX kx) 35
 have HV:=zH (ux s hs hf A SV AV AX kc ks kv kx w1 (hS.up hB))
 have HE0:Hid (yn s≠0→cntE s=(0,yn s)):=fun h=>if_pos h
 have HE1:Hid (yn s=0→cntE s=((ptn s:Int),0)∧∀X,Calls Tryz.prog 51 #[.agg (s.vs_ A kc SV ks AV kv AX kx)] X fun e w'=>e=.returned (.int .i64 (ptn s:Int))∧Below X.heap.size X w'):=fun h=>by
  obtain ⟨_,K,N,hF⟩:=xq hf h
  exact ⟨if_neg (by simpa using h),fun X=>ug s K N hF A SV AV AX kc ks kv kx X⟩
 obtain ⟨r,hr⟩:∃r,yn s=r:=⟨_,rfl⟩
 rw [hr] at HV HE0 HE1
 obtain ⟨R,hRR⟩:∃R,cntE s=R:=⟨_,rfl⟩
 rw [hRR] at HE0 HE1 ⊢
 unfold Sy.vs_ at hw1 d0 HV HE1 ⊢
 have HW1:=zH hw1
 have HB:=zH hB
 have HD:=zH d0
 obtain ⟨p0,p1,p2,p3,p4,p5,p6,p7,p8,p9⟩:=zA (d0)
 clear hw1 d0 hB hS hr hRR hs hf
 go_enter Tryz.func25,Tryz.ntmps25
 go_wp2_with fail
 rw [HW1.out]
 go_wp2_with fail
 refine HV.out.mono ?_
 rintro e w2 ⟨rfl,hb2⟩
 have HB2:=zH (HB.out.trans (hb2.mono (by omega)))
 have d0:=(hb2.block _ (by omega:w.heap.size<w1.heap.size)).trans HD.out
 clear p0 p1 p2 p3 p4 p5 p6 p7 p8 p9 hb2 HV HW1 HD
 obtain ⟨p0,p1,p2,p3,p4,p5,p6,p7,p8,p9⟩:=zA (d0)
 clear d0
 by_cases h0:r=0
 case neg=>
  have hR:Hid (R=(0,r)):=HE0.out h0
  have e0:(r != 0)=true:=by simpa using h0
  clear HE0 HE1
  go_wp2_with fail
  go_ret2
  rw [hR.out]
  exact ⟨rfl,HB2.out⟩
 case pos=>
 subst h0
 obtain ⟨hRe,hC⟩:=HE1.out rfl
 have HC:=zH (hC w2)
 have hR:=zH hRe
 clear HE0 HE1 hRe hC
 go_wp2_with fail
 refine HC.out.mono ?_
 rintro e w3 ⟨rfl,hb3⟩
 have HB3:=zH (HB2.out.trans (hb3.mono HB2.out.size))
 clear hb3 HC HB2 p0 p1 p2 p3 p4 p5 p6 p7 p8 p9
 go_wp2_with fail
 go_ret2
 rw [hR.out]
 exact ⟨rfl,HB3.out⟩
end
section
open Go.RowKit Go.Shelf
attribute [local go_sem] Oper.semAt_some
set_option maxRecDepth 100000 in
theorem gW (s:Sy) (hs:LowS s) (hf:xY s.p) (g:Int) (A SV AV AX:Option Addr) (kc ks kv kx:Nat) (w:World) (hS:SyAt w w.heap.size A SV AV AX s) :
  Calls Tryz.prog 48 #[.agg (s.vs_ A kc SV ks AV kv AX kx),.int .i64 g] w fun e w'=>e=.returned (.int .i64 (yl s g))∧Below w.heap.size w w':=by
 obtain ⟨w1,hw1,d0,hs1,hB⟩:=zm w (s.vs_ A kc SV ks AV kv AX kx) 35
 have HV:=zH (ux s hs hf A SV AV AX kc ks kv kx w1 (hS.up hB))
 have HE0:Hid (yn s≠0→yl s g=yn s):=fun h=>if_pos h
 have HE1:Hid (yn s=0→yl s g=if xp s.n g=0 then 0 else 2):=fun h=>by
  obtain ⟨_,K,N,hF⟩:=xq hf h
  have hn:=hF.n
  have hn1:=hF.n1
  have hn5:=hF.n5
  have h2:((2^N:Nat):Int)=(2:Int)^N:=by push_cast;rfl
  have h3:¬(s.n<1∨5<s.n):=by omega
  have e2:yl s g=if g<0∨(2:Int)^N≤g then 2 else 0:=by unfold yl;rw [if_neg (by simpa using h),hn,Int.toNat_natCast]
  have e3:xp s.n g=if g<0∨(2:Int)^N≤g then 2 else 0:=by unfold xp;rw [if_neg h3,hn,Int.toNat_natCast,h2]
  rw [e2,e3]
  by_cases hg:g<0∨(2:Int)^N≤g
  · simp only [if_pos hg];rfl
  · simp only [if_neg hg];rfl
 obtain ⟨r,hr⟩:∃r,yn s=r:=⟨_,rfl⟩
 rw [hr] at HV HE0 HE1
 obtain ⟨R,hRR⟩:∃R,yl s g=R:=⟨_,rfl⟩
 rw [hRR] at HE0 HE1 ⊢
 unfold Sy.vs_ at hw1 d0 HV ⊢
 have HW1:=zH hw1
 have HB:=zH hB
 have HD:=zH d0
 obtain ⟨p0,p1,p2,p3,p4,p5,p6,p7,p8,p9⟩:=zA (d0)
 clear hw1 d0 hB hS hr hRR hs hf
 go_enter Tryz.func48,Tryz.ntmps48
 go_wp2_with fail
 rw [HW1.out]
 go_wp2_with fail
 refine HV.out.mono ?_
 rintro e w2 ⟨rfl,hb2⟩
 have HB2:=zH (HB.out.trans (hb2.mono (by omega)))
 have d0:=(hb2.block _ (by omega:w.heap.size<w1.heap.size)).trans HD.out
 clear p0 p1 p2 p3 p4 p5 p6 p7 p8 p9 hb2 HV HW1 HD
 by_cases h0:r=0
 case neg=>
  have hR:Hid (R=r):=HE0.out h0
  have e0:(r != 0)=true:=by simpa using h0
  clear HE0 HE1 d0
  go_wp2_with fail
  go_ret
  rw [hR.out]
  exact ⟨rfl,HB2.out⟩
 case pos=>
 subst h0
 have p7:=zh d0 7 rfl
 have HC:=zH (Xz s.n g w2)
 have hR:=zH (HE1.out rfl)
 obtain ⟨q,hq⟩:∃q,xp s.n g=q:=⟨_,rfl⟩
 rw [hq] at HC hR
 clear HE0 HE1 d0 hq
 go_wp2_with fail
 refine HC.out.mono ?_
 rintro e w3 ⟨rfl,rfl⟩
 clear HC p7
 by_cases h1:q=0
 · subst h1
   have hR2:Hid (R=0):=hR.out
   clear hR
   go_wp2_with fail
   go_ret
   rw [hR2.out]
   exact ⟨rfl,HB2.out⟩
 · have hR2:Hid (R=2):=by rw [Hid,hR.out,if_neg h1]
   have e1:(q != 0)=true:=by simpa using h1
   clear hR
   go_wp2_with fail
   go_ret
   rw [hR2.out]
   exact ⟨rfl,HB2.out⟩
def Z1 (s:Sy) (a:Int):(Int×Int)×Int:=if yn s≠0 then ((0,0),yn s) else if a<0∨(ptn s:Int)≤a then ((0,0),6) else ((((a.toNat / (s.p.k.toNat+1):Nat):Int),((a.toNat % (s.p.k.toNat+1):Nat):Int)),0)
set_option maxRecDepth 100000 in
theorem place_any (s:Sy) (hs:LowS s) (hf:xY s.p) (a:Int) (A SV AV AX:Option Addr) (kc ks kv kx:Nat) (w:World) (hS:SyAt w w.heap.size A SV AV AX s) :
  Calls Tryz.prog 26 #[.agg (s.vs_ A kc SV ks AV kv AX kx),.int .i64 a] w fun e w'=>e=.returned (.tuple #[.int .i64 (Z1 s a).1.1,.int .i64 (Z1 s a).1.2,.int .i64 (Z1 s a).2])∧Below w.heap.size w w':=by
 obtain ⟨w1,hw1,d0,hs1,hB⟩:=zm w (s.vs_ A kc SV ks AV kv AX kx) 35
 have HV:=zH (ux s hs hf A SV AV AX kc ks kv kx w1 (hS.up hB))
 have HE0:Hid (yn s≠0→Z1 s a=((0,0),yn s)):=fun h=>if_pos h
 have HE1:Hid (yn s=0→(∀X,Calls Tryz.prog 51 #[.agg (s.vs_ A kc SV ks AV kv AX kx)] X fun e w'=>e=.returned (.int .i64 (ptn s:Int))∧Below X.heap.size X w')∧ptn s≤700∧(∃K:Nat,s.p.k=(K:Int)∧K≤6) ∧
   ((a<0∨(ptn s:Int)≤a)→Z1 s a=((0,0),6))∧(¬(a<0∨(ptn s:Int)≤a)→∃t:Nat,a=(t:Int)∧Z1 s a=((((t / (s.p.k.toNat+1):Nat):Int),((t % (s.p.k.toNat+1):Nat):Int)),0))):=fun h=>by
  obtain ⟨_,K,N,hF⟩:=xq hf h
  have hk:=hF.k
  have hk6:=hF.k6
  have:=Nat.mul_le_mul hF.lx (show K+1≤7 by omega)
  refine ⟨fun X=>ug s K N hF A SV AV AX kc ks kv kx X,by unfold ptn;rw [hk,Int.toNat_natCast];omega,⟨K,hk,hk6⟩,fun h2=>?_,fun h2=>?_⟩
  · unfold Z1;rw [if_neg (by simpa using h),if_pos h2]
  · obtain ⟨t,ht⟩:=Int.eq_ofNat_of_zero_le (by omega:0≤a)
    refine ⟨t,ht,?_⟩
    unfold Z1;rw [if_neg (by simpa using h),if_neg h2,ht,Int.toNat_natCast]
 obtain ⟨r,hr⟩:∃r,yn s=r:=⟨_,rfl⟩
 rw [hr] at HV HE0 HE1
 obtain ⟨R,hRR⟩:∃R,Z1 s a=R:=⟨_,rfl⟩
 rw [hRR] at HE0 HE1 ⊢
 obtain ⟨n,hn⟩:∃n,ptn s=n:=⟨_,rfl⟩
 rw [hn] at HE1
 unfold Sy.vs_ at hw1 d0 HV HE1 ⊢
 have HW1:=zH hw1
 have HB:=zH hB
 have HD:=zH d0
 obtain ⟨p0,p1,p2,p3,p4,p5,p6,p7,p8,p9⟩:=zA (d0)
 clear hw1 d0 hB hS hr hRR hs hf hn
 go_enter Tryz.func26,Tryz.ntmps26
 go_wp2_with fail
 rw [HW1.out]
 go_wp2_with fail
 refine HV.out.mono ?_
 rintro e w2 ⟨rfl,hb2⟩
 have HB2:=zH (HB.out.trans (hb2.mono (by omega)))
 have HD:=zH ((hb2.block _ (by omega:w.heap.size<w1.heap.size)).trans HD.out)
 clear p0 p1 p2 p3 p4 p5 p6 p7 p8 p9 hb2 HV HW1
 by_cases h0:r=0
 case neg=>
  have hR:Hid (R=((0,0),r)):=HE0.out h0
  have e0:(r != 0)=true:=by simpa using h0
  clear HE0 HE1 HD
  go_wp2_with fail
  go_ret3
  rw [hR.out]
  exact ⟨rfl,HB2.out⟩
 case pos=>
 subst h0
 obtain ⟨hC,hn7,⟨K,hK,hK6⟩,hbad,hok⟩:=HE1.out rfl
 have HC:=zH (hC w2)
 have HK:=zH hK
 clear hK
 by_cases hneg:a<0
 · have hR:Hid (R=((0,0),6)):=hbad (.inl hneg)
   have e0:(decide (a<0))=true:=decide_eq_true hneg
   clear HE0 HE1 HD hC hbad hok HC
   go_wp2_with fail
   go_ret3
   rw [hR.out]
   exact ⟨rfl,HB2.out⟩
 obtain ⟨p0,p1,p2,p3,p4,p5,p6,p7,p8,p9⟩:=zA (HD.out)
 have HBAD:=zH hbad
 have HOK:=zH hok
 have e0:(decide (a<0))=false:=decide_eq_false hneg
 clear HE0 HE1 hC hbad hok
 go_wp2_with fail
 refine HC.out.mono ?_
 rintro e w3 ⟨rfl,hb3⟩
 have HB3:=zH (HB2.out.trans (hb3.mono HB2.out.size))
 have HD:=zH ((hb3.block _ (zj HD.out)).trans HD.out)
 clear hb3 HC HB2 p0 p1 p2 p3 p4 p5 p6 p7 p8 p9
 by_cases hbig:(n:Int)≤a
 · have hR:Hid (R=((0,0),6)):=HBAD.out (.inr hbig)
   have e1:decide (a≥(n:Int))=true:=decide_eq_true hbig
   clear HD HBAD HOK
   go_wp2_with fail
   go_ret3
   rw [hR.out]
   exact ⟨rfl,HB3.out⟩
 obtain ⟨t,rfl,hR⟩:=HOK.out (by omega)
 rw [HK.out,Int.toNat_natCast] at hR
 have hR:=zH hR
 have hq1:((t:Int)).tdiv ((K:Int)+1)=((t / (K+1):Nat):Int):=by
  rw [Int.tdiv_eq_ediv_of_nonneg (by omega)]
  push_cast;rfl
 have hr1:((t:Int)).tmod ((K:Int)+1)=((t % (K+1):Nat):Int):=by
  rw [Int.tmod_eq_emod_of_nonneg (by omega)]
  push_cast;rfl
 have hqb:t / (K+1)≤t:=Nat.div_le_self _ _
 have hrb:t % (K+1)<K+1:=Nat.mod_lt _ (by omega)
 obtain ⟨q,hq⟩:∃q,t / (K+1)=q:=⟨_,rfl⟩
 obtain ⟨u,hu⟩:∃u,t % (K+1)=u:=⟨_,rfl⟩
 rw [hq] at hq1 hqb hR
 rw [hu] at hr1 hrb hR
 have hkz:¬((K:Int)+1)=0:=by omega
 have hwk:IntKind.i64.wrap ((K:Int)+1)=(K:Int)+1:=by rw [IntKind.wrap_i64];omega
 have hwq:IntKind.i64.wrap (q:Int)=(q:Int):=by rw [IntKind.wrap_i64];omega
 have hwr:IntKind.i64.wrap (u:Int)=(u:Int):=by rw [IntKind.wrap_i64];omega
 have hD2:=HD.out
 rw [HK.out] at hD2
 have HD2:=zH hD2
 clear HD hD2 hq hu HBAD HOK hqb hrb
 go_wp2_with fail
 refine zz [(0,true),(1,true),(2,true),(3,true),(4,true),(5,true),(6,true),(7,true),(8,true),(9,true),(10,true),(11,true),(12,false),(13,false),(14,false)] (fun X=>X.heap[w.heap.size]?=some (.cells #[.int .i64 s.p.t.n,.int .i64 s.p.t.ins,.int .i64 s.p.t.outs,.slice A s.p.t.cases.length kc,.int .i64 s.p.a.n,.slice SV s.p.a.sts.length ks,.int .i64 (K:Int),.int .i64 s.n,.slice AV s.vs.length kv,.slice AX s.xs.length kx] 35 (0,0))) (by kernel_rfl) (by kernel_rfl) HD2.out ?_
 repeat
  apply zM rfl
  · rintro K' hK' X v
    have p6:=zh v 6 rfl
    clear v
    go_simp
    exact hK'
 iterate 3
  refine zC rfl ?_
  intro K' hK'
  go_simp
  refine hK' _ _ HD2.out ?_
  clear hK' K'
 refine zT ?_
 go_wp2_with fail
 go_ret3
 rw [hR.out]
 exact ⟨rfl,HB3.out.drew⟩
end
section
open Go.RowKit Go.Shelf
attribute [local go_sem] Oper.semAt_some
theorem make_frst (n:Nat) (hn:n≤100000) (W:World):(Instr.makeSlice 106 (.int .i64 n) (.int .i64 n)).run Tryz.prog W=.ok (.slice (some ⟨W.heap.size,0,none⟩) n n) (W.alloc (.cells ((List.replicate n 0).map (Value.int .i64)).toArray 3)):=by
 obtain ⟨i0,hi,hz0,hz1,hz2⟩:=xu jv
 have hb:i0.bytes=8:=hz2
 have hs:i0.size=1:=hz1
 have h:=run_make (P:=Tryz.prog) W 106 3 i0 (.int .i64 0) Tryz.underlying106 hi hz0 .i64 .i64 (n:Int) (n:Int) (by omega) (Int.le_refl _) (by rw [hb];omega) (by omega)
 rw [h,hs]
 simp only [Int.toNat_natCast]
 rw [show (Value.int .i64 0).cells=#[.int .i64 0] from rfl,Jd]
structure ReIn (H E n:Nat) (S:Array Value) (w X:World) (L:List (Nat×Int)) (c:Nat):Prop where
 below:Below H w X
 b7:X.heap[H+1]?=some (.cells #[.slice (some ⟨H,0,none⟩) n n] 106 (0,0))
 b9:X.heap[E+1]?=some (.cells #[.map (some E)] 108 (0,0))
 b10:X.heap[E+1+1]?=some (.cells #[.int .i64 (c:Int)] 3 (0,0))
 b5:X.heap[E+1+1+1]?=some (.cells S 35 (0,0))
 row:∃f ρ h,RowAt X H f∧Frst n f ρ h∧FrT n (shr L) ρ
 hm:∃m,MapOf (Value.int .i64) X E m (jI L)
 sz:E+4≤X.heap.size
 he:H+2=E
section
variable {H E n c c':Nat} {S:Array Value} {w X X':World} {L L':List (Nat×Int)}
theorem ReIn.upd (h:ReIn H E n S w X L c) (hb:Below H X X') (hk:∀k,H<k→k<E+4→k≠E→k≠E+1+1→X'.heap[k]?=X.heap[k]?) (hr:∃f ρ h,RowAt X' H f∧Frst n f ρ h∧FrT n (shr L') ρ) (hm:∃m,MapOf (Value.int .i64) X' E m (jI L'))
  (h10:X'.heap[E+1+1]?=some (.cells #[.int .i64 (c':Int)] 3 (0,0))):ReIn H E n S w X' L' c':=by
 have he:=h.he
 exact ⟨h.below.trans hb,(hk _ (by omega) (by omega) (by omega) (by omega)).trans h.b7,(hk _ (by omega) (by omega) (by omega) (by omega)).trans h.b9,h10,(hk _ (by omega) (by omega) (by omega) (by omega)).trans h.b5,hr,hm,Nat.le_trans h.sz hb.size,he⟩
theorem ReIn.same (h:ReIn H E n S w X L c) (hb:Below (E+4) X X'):ReIn H E n S w X' L c:=by
 have he:=h.he
 obtain ⟨f,ρ,hh,r1,r2,r3⟩:=h.row
 obtain ⟨m,hm⟩:=h.hm
 exact h.upd (hb.mono (by omega)) (fun k _ h2 _ _=>hb.block k h2) ⟨f,ρ,hh,(hb.block _ (by omega)).trans r1,r2,r3⟩ ⟨m,hm.same (hb.block _ (by omega))⟩ ((hb.block _ (by omega)).trans h.b10)
theorem ReIn.turn {row:Option Nat} (h:ReIn H E n S w X L c) (hg:X.grownBy X' row) (hr:∀r,row=some r→E+4≤r):ReIn H E n S w X' L c:=
 h.same ((Below.refl _ _).grown hg h.sz hr)
end
theorem vg {H:Nat} {w w':World} (h:Wrote (fun k=>k=H) w w') (hH:H≤w.heap.size):Below H w w':=⟨h.os,h.tape,h.output,h.size,fun k hk=>h.block k (by omega) (by omega)⟩
theorem shL_low {V:Nat×Nat→Nat→Int} {ps:List Nat} {pre:List (Nat×Nat)} {p:Nat×Int} (h:p∈shL V ps pre):p.1<pre.length:=by
 obtain ⟨i,v⟩:=p
 exact (uO.1 h).1
theorem rowPr_low {V:Nat×Nat→Nat→Int} {ps:List Nat} {c:Nat} {x:Nat×Nat} {p:Nat×Int} (h:p∈qm V ps c x):p.1=c:=by
 unfold qm at h
 obtain ⟨q,_,rfl⟩:=List.mem_map.1 h
 rfl
set_option maxRecDepth 100000 in
theorem wD (s:Sy) (hs:LowS s) (hf:xY s.p) (g:Int) (A SV AV AX:Option Addr) (kc ks kv kx:Nat) (w:World) (hS:SyAt w w.heap.size A SV AV AX s) :
  Calls Tryz.prog 16 #[.agg (s.vs_ A kc SV ks AV kv AX kx),.int .i64 g] w (XF (kB s g).1 (kB s g).2 w):=by
 obtain ⟨w1,hw1,d0,d1,hs1,hB⟩:=yD w (s.vs_ A kc SV ks AV kv AX kx) #[.int .i64 g] 35 3
 have HG:=zH (gW s hs hf g A SV AV AX kc ks kv kx w1 (hS.up hB))
 have HX:=zH (hS.keep hB).fx
 have HE0:Hid (yl s g≠0→kB s g=([],yl s g)):=fun h=>if_pos h
 have HE1:Hid (yl s g=0→kB s g=(yT (ptn s) (qk s g),0)):=fun h=>if_neg (by simpa using h)
 have HVF:=zH (fun h=>xq hf (uG (s:=s) (g:=g) h).1)
 have HRV:=zH (fun h=>(uG (s:=s) (g:=g) h).2)
 obtain ⟨r,hr⟩:∃r,yl s g=r:=⟨_,rfl⟩
 rw [hr] at HG HE0 HE1 HVF HRV
 obtain ⟨R,hRR⟩:∃R,kB s g=R:=⟨_,rfl⟩
 rw [hRR] at HE0 HE1 ⊢
 have HU:Hid (s.vs_ A kc SV ks AV kv AX kx=#[.int .i64 s.p.t.n,.int .i64 s.p.t.ins,.int .i64 s.p.t.outs,.slice A s.p.t.cases.length kc,.int .i64 s.p.a.n,.slice SV s.p.a.sts.length ks,.int .i64 s.p.k,.int .i64 s.n,.slice AV s.vs.length kv,.slice AX s.xs.length kx]):=rfl
 unfold Sy.vs_ at hw1 d0 HG ⊢
 have HW1:=zH hw1
 have HB:=zH hB
 have HD:=zH d0
 have HD1:=zH d1
 have q0:=zh d1 0 rfl
 obtain ⟨p0,p1,p2,p3,p4,p5,p6,p7,p8,p9⟩:=zA (d0)
 clear hw1 d0 d1 hB hS hr hRR hs hf
 refine yE Tryz.func16 rfl ?_
 simp only [Tryz.ntmps16,List.size_toArray,List.length_cons,List.length_nil,Nat.reduceAdd,Nat.reduceSub,Array.replicate_succ,Array.replicate_zero,List.push_toArray,List.append_toArray,List.nil_append,List.cons_append]
 go_wp2_with fail
 rw [HW1.out]
 go_wp2_with fail
 refine HG.out.mono ?_
 rintro e w2 ⟨rfl,hb2⟩
 have HB2:=zH (HB.out.trans (hb2.mono (by omega)))
 have HD:=zH ((hb2.block _ (zj HD.out)).trans HD.out)
 have HD1:=zH ((hb2.block _ (zj HD1.out)).trans HD1.out)
 have HX2:=zH (HX.out.keep (hb2.mono (by omega)))
 clear p0 p1 p2 p3 p4 p5 p6 p7 p8 p9 q0 hb2 HG HW1 HX
 by_cases h0:r=0
 case neg=>
  have hR:Hid (R=([],r)):=HE0.out h0
  have e0:(r != 0)=true:=by simpa using h0
  clear HE0 HE1 HD HD1 HVF HRV
  go_wp2_with fail
  refine yZ (Marks.nil w.heap.size w2) (v:=.tuple #[.slice none 0 0,.int .i64 r]) (fun W=>by kernel_rfl) ?_
  intro X hX
  rw [hR.out]
  exact ⟨none,0,rfl,Own.nil _ _,HB2.out.trans hX.below⟩
 case pos=>
 subst h0
 obtain ⟨hsb,K,N,hF⟩:=HVF.out rfl
 have hSe:Sees s K N:=by rw [hsb];exact jB (by rw [←hsb];exact hF)
 clear hsb
 have hR:=zH (HE1.out rfl)
 obtain ⟨hg0,hg1⟩:=HRV.out rfl
 obtain ⟨G,rfl⟩:=Int.eq_ofNat_of_zero_le hg0
 have HC:=zH (ug s K N hF A SV AV AX kc ks kv kx w2)
 rw [HU.out] at HC
 have HN5:=zH hF.n5
 have hG32:G<32:=by
  rw [hF.n,Int.toNat_natCast] at hg1
  have:=Nat.pow_le_pow_right (n:=2) (show 0<2 by omega) HN5.out
  have h2:((2^N:Nat):Int)=(2:Int)^N:=by push_cast;rfl
  omega
 have hpn:ptn s≤700:=by
  have hk:=hF.k
  have hk6:=hF.k6
  have:=Nat.mul_le_mul hF.lx (show K+1≤7 by omega)
  unfold ptn;rw [hk,Int.toNat_natCast];omega
 have HPS:Hid (psG s (G:Int)=yP G N):=by show psG s _=_;unfold psG;rw [hF.n];rfl
 have HLB:Hid (∀ρ,FrT (ptn s) (shr (shL (vwP s) (psG s G) (zt (K+1) 0 s.xs.length))) ρ→yR ((zt (K+1) 0 s.xs.length).map fun x=>(ρ (x.1*(K+1)+x.2):Int))=yT (ptn s) (qk s G)):=fun ρ h=>XN hF hSe h
 have HFF:=zH hF
 have HPN:Hid ((zt (K+1) 0 s.xs.length).length=ptn s):=by
  show _=_
  have hk:s.p.k.toNat=K:=by have:=hF.k;omega
  rw [xF _ _ (by omega)];unfold ptn;rw [hk]
 obtain ⟨n,hn⟩:∃n,ptn s=n:=⟨_,rfl⟩
 rw [hn] at HC HLB hpn HPN hR
 have hmk:=make_frst n (by omega)
 obtain ⟨AR,har⟩:∃AR,((List.replicate n 0).map (Value.int .i64)).toArray=AR:=⟨_,rfl⟩
 rw [har] at hmk
 have HAR:=zH har
 obtain ⟨p0,p1,p2,p3,p4,p5,p6,p7,p8,p9⟩:=zA (HD.out)
 clear HE0 HE1 HVF HRV hg0 hg1 hF hSe hn har
 go_wp2_with fail
 refine HC.out.mono ?_
 rintro e w3 ⟨rfl,hb3⟩
 have HB3:=zH (HB2.out.trans (hb3.mono HB2.out.size))
 have HD:=zH ((hb3.block _ (zj HD.out)).trans HD.out)
 have HD1:=zH ((hb3.block _ (zj HD1.out)).trans HD1.out)
 have HX3:=zH (HX2.out.keep (hb3.mono HB2.out.size))
 clear p0 p1 p2 p3 p4 p5 p6 p7 p8 p9 hb3 HC HB2 HX2
 go_upto_region 5 with fail
 obtain ⟨a4,h4,x4,y4,z4⟩:=zm w3 AR 3
 rw [h4]
 obtain ⟨a5,h5,x5,y5,z5⟩:=zm a4 #[.slice (some ⟨w3.heap.size,0,none⟩) n n] 106
 rw [h5]
 rw [y4] at x5 y5
 have HB5:=zH (z4.trans (z5.mono (by omega)))
 obtain ⟨al,hal⟩:∃al,(List.range n).map (fun (i:Nat)=>(i:Int))=al:=⟨_,rfl⟩
 have hall:al.length=n:=by rw [←hal];simp
 have halk:Hid (∀k (h:k<al.length),al[k]=(k:Int)):=fun k h=>by subst hal;simp
 have hbl:(List.replicate n (0:Int)).length=n:=by simp
 have hab:al.length=(List.replicate n (0:Int)).length:=by rw [hall,hbl]
 have HAL:=zH hal
 have HALL:=zH hall
 have HBL:=zH hbl
 have HAB:=zH hab
 have HR5:Hid (RowAt a5 w3.heap.size (wP al (List.replicate n 0) 0)):=by
  rw [midL_zero]
  show _=_
  rw [HAR.out]
  exact (z5.block _ (by omega)).trans x4
 have H75:=zH x5
 have hys:a5.heap.size=w3.heap.size+1+1:=y5
 have HYS:=zH hys
 have p0:=zh x5 0 rfl
 clear h4 x4 y4 z4 h5 x5 y5 z5 hal hall hbl hab hys hmk
 go_wp2_with fail
 go_loopw [27] (fun i wr=>∃k:Nat,k≤n∧i=.int .i64 (k:Int)∧Hid (RowAt wr w3.heap.size (wP al (List.replicate n 0) k))∧Hid (wr.heap[w3.heap.size+1]?=some (.cells #[.slice (some ⟨w3.heap.size,0,none⟩) n n] 106 (0,0)))∧Hid (Below w3.heap.size w3 wr)∧Hid (wr.heap.size=w3.heap.size+1+1)) (fun i _=>n-(intOf i).toNat)
 case atStart=>exact ⟨0,by omega,rfl,HR5,H75,HB5,HYS⟩
 case round=>
  obtain ⟨k,hk,rfl,hrow,h7,hb,hz⟩:=hrel
  clear HR5 H75 HB5 HYS p0
  have p0:=zh h7.out 0 rfl
  by_cases hlt:k<n
  · have hkb:k<(List.replicate n (0:Int)).length:=by rw [HBL.out];exact hlt
    have hml:=Jb HAB.out k
    have y0:=hrow.out.cell k (by rw [hml];exact hkb)
    have f0:=hrow.out.froz k
    have hka:k<al.length:=by rw [HALL.out];exact hlt
    have hset:=midL_set HAB.out hkb
    rw [halk.out k hka] at hset
    have hnew:=hrow.out.set k (k:Int)
    rw [hset] at hnew
    have HNEW:=zH hnew
    have HBN:=zH (hb.out.setCell (p:=⟨w3.heap.size,k,none⟩) (by show w3.heap.size≤w3.heap.size;omega) (.int .i64 (k:Int)))
    have H7N:Hid ((wr.setCell ⟨w3.heap.size,k,none⟩ (.int .i64 (k:Int))).heap[w3.heap.size+1]?=some (.cells #[.slice (some ⟨w3.heap.size,0,none⟩) n n] 106 (0,0))):=(Below.heap_setCell wr ⟨w3.heap.size,k,none⟩ _ _ (by show w3.heap.size+1≠w3.heap.size;omega)).trans h7.out
    have HZN:Hid ((wr.setCell ⟨w3.heap.size,k,none⟩ (.int .i64 (k:Int))).heap.size=w3.heap.size+1+1):=by rw [Hid,←hz.out];simp [World.setCell]
    have hk0:(0:Int)≤(k:Int):=by omega
    have hk1:(k:Int)<(n:Int):=by omega
    have hl3:=hrow.out.lt
    obtain ⟨u,hu⟩:∃u,(wP al (List.replicate n 0) k)[k]'(by rw [hml];exact hkb)=u:=⟨_,rfl⟩
    rw [hu] at y0
    clear hset hnew hml hkb hka hrow hb hu
    go_wp2_with fail
    go_roundw
    case rel=>exact ⟨k+1,by omega,by go_num,HNEW,H7N,HBN,HZN⟩
    case measure=>simp [intOf];omega
  · obtain rfl:n=k:=by omega
    have hrow2:=hrow.out
    rw [midL_all HAB.out (by rw [HBL.out])] at hrow2
    have HROW:Hid (RowAt wr w3.heap.size ((List.range n).map fun (i:Nat)=>(i:Int))):=by rw [HAL.out];exact hrow2
    clear hrow hrow2 HAB HBL HALL halk HAL HAR p0
    obtain ⟨wE,rfl⟩:∃x,x=wr:=⟨_,rfl⟩
    have hmm:=@run_makeMap Tryz.prog
    go_upto_region 12 with fail
    obtain ⟨b1,e1⟩:∃b1,wE.alloc (.map #[] 0)=b1:=⟨_,rfl⟩
    have m1:MapOf (Value.int .i64) b1 wE.heap.size 0 (fun _=>none):=by rw [←e1];exact MapOf.made wE
    have s1:b1.heap.size=wE.heap.size+1:=by rw [←e1];simp
    have z1:Below wE.heap.size wE b1:=by rw [←e1];exact zW _ _
    rw [e1]
    obtain ⟨b2,e2,x2,s2,z2⟩:=zm b1 #[.map (some wE.heap.size)] 108
    rw [e2]
    obtain ⟨b3,e3,x3,s3,z3⟩:=zm b2 #[.int .i64 0] 3
    rw [e3]
    rw [s1] at x2 s2
    rw [s2] at x3 s3
    obtain ⟨S,hS⟩:∃S:Array Value,#[.int .i64 s.p.t.n,.int .i64 s.p.t.ins,.int .i64 s.p.t.outs,.slice A s.p.t.cases.length kc,.int .i64 s.p.a.n,.slice SV s.p.a.sts.length ks,.int .i64 s.p.k,.int .i64 s.n,.slice AV s.vs.length kv,.slice AX s.xs.length kx]=S:=⟨_,rfl⟩
    obtain ⟨b4,e4,x4,s4,z4⟩:=zm b3 S 35
    rw [s3] at x4 s4
    have HALc:=Zy s A SV AV AX kc ks kv kx b3
    have e4':b3.alloc (.cells #[.int .i64 s.p.t.n,.int .i64 s.p.t.ins,.int .i64 s.p.t.outs,.slice A s.p.t.cases.length kc,.int .i64 s.p.a.n,.slice SV s.p.a.sts.length ks,.int .i64 s.p.k,.int .i64 s.n,.slice AV s.vs.length kv,.slice AX s.xs.length kx] 35)=b4:=by rw [hS];exact e4
    rw [HU.out,s3,e4'] at HALc
    have hB34:Below w3.heap.size w3 b4:=hb.out.trans ((z1.trans ((z2.mono (by omega)).trans ((z3.mono (by omega)).trans (z4.mono (by omega))))).mono (by have:=hb.out.size;omega))
    have hold:∀k,k<wE.heap.size→b4.heap[k]?=wE.heap[k]?:=fun k hk=>(z4.block _ (by omega)).trans ((z3.block _ (by omega)).trans ((z2.block _ (by omega)).trans (z1.block _ hk)))
    have hzo:=hz.out
    have hRe:ReIn w3.heap.size wE.heap.size n S w3 b4 (shL (vwP s) (psG s G) []) 0:=
     ⟨hB34,(hold _ (by omega)).trans h7.out,(z4.block _ (by omega)).trans ((z3.block _ (by omega)).trans x2),(z4.block _ (by omega)).trans x3,x4,⟨_,id,fun _=>0,(hold _ (by omega)).trans HROW.out,Frst.start n,FrT.start n⟩,
      ⟨0,by rw [show shL (vwP s) (psG s G) []=[] from rfl,fstG_nil];exact m1.same ((z4.block _ (by omega)).trans ((z3.block _ (by omega)).trans (z2.block _ (by omega))))⟩,by omega,by omega⟩
    have hC:PtC S K s.xs.length AX kx:=⟨by rw [←hS,←HFF.out.k];rfl,by rw [←hS];rfl⟩
    have HIT:=zH (vE S K s.xs.length (by have:=HFF.out.k6;omega) (by have:=HFF.out.lx;omega) AX kx hC (wE.heap.size+1+1+1) b4 hRe.b5)
    have HC1:=zH HALc
    have HRE:=zH hRe
    have HSS:=zH hS
    have HS4:Hid (b4.heap.size=wE.heap.size+4):=s4
    have HD3:Hid (∀X,Below w3.heap.size w3 X→X.heap[w.heap.size]?=some (.cells #[.int .i64 s.p.t.n,.int .i64 s.p.t.ins,.int .i64 s.p.t.outs,.slice A s.p.t.cases.length kc,.int .i64 s.p.a.n,.slice SV s.p.a.sts.length ks,.int .i64 s.p.k,.int .i64 s.n,.slice AV s.vs.length kv,.slice AX s.xs.length kx] 35 (0,0))∧X.heap[w.heap.size+1]?=some (.cells #[.int .i64 (G:Int)] 3 (0,0))∧XAt X w.heap.size AX s.xs):=fun X hX=>⟨(hX.block _ (zj HD.out)).trans HD.out,(hX.block _ (zj HD1.out)).trans HD1.out,HX3.out.keep (hX.mono HB3.out.size)⟩
    have HB33:Hid (Below w3.heap.size w3 b3):=hb.out.trans ((z1.trans ((z2.mono (by omega)).trans (z3.mono (by omega)))).mono (by have:=hb.out.size;omega))
    obtain ⟨p0,p1,p2,p3,p4,p5,p6,p7,p8,p9⟩:=zA (((HD3.out b3 HB33.out).1))
    clear e1 m1 s1 z1 e2 x2 s2 z2 e3 x3 s3 z3 hS e4 e4' x4 s4 z4 HALc hB34 hold hzo hRe hC h7 HROW hb hz HD HD1 HX3 hmm
    go_wp2_with fail
    refine HC1.out.mono ?_
    rintro e w5 ⟨rfl,rfl⟩
    clear HC1 p0 p1 p2 p3 p4 p5 p6 p7 p8 p9
    go_wp2_with fail
    refine qW rfl (enters_of Tryz.func67 (by kernel_rfl) rfl) HIT.out (by rintro x rfl;have:=HS4.out;omega) (fun _=>rfl)
     (fun (pre:List { x:Nat×Nat // x∈zt (K+1) 0 s.xs.length }) (X:World)=>ReIn w3.heap.size wE.heap.size n S w3 X (shL (vwP s) (psG s G) (pre.map (·.1))) pre.length)
     (fun _ _ _=>False) ?hI (fun _ _ _ _ _ h _ _=>h) HRE.out (fun x=>#[.int .i64 x.1,.int .i64 x.2]) 84 ?a1 ?assign ?body ?done ?stop (fun _ _ h=>by have:=h.sz;have:=HS4.out;omega)
    case hI=>
     intro pre X X' row hX hg hr
     exact hX.turn hg fun r e=>by have:=(hr r e).1;have:=HS4.out;omega
    case assign=>
     intro l pre x X K' hI hK
     obtain ⟨g',hg'⟩:∃g',g'=X.heap.size:=⟨_,rfl⟩
     have HK:=zH (hK g' hg' (hI.same ((zW X _).mono hI.sz)))
     have HGg:=zH hg'
     clear hK hg' hI
     gi_wp2
     rw [←HGg.out]
     exact HK.out
    case body=>
     intro l pre x gp X3 hgp hgb hI hlt
     obtain ⟨⟨e,k⟩,hxm⟩:=x
     obtain ⟨_,hx1,hx2⟩:=xd _ _ _ hxm
     have he:e<s.xs.length:=by simp only at hx1;omega
     have hk:k≤K:=by simp only at hx2;omega
     have HSN:Hid (shL (vwP s) (psG s G) ((pre++[(⟨(e,k),hxm⟩:{ x:Nat×Nat // x∈zt (K+1) 0 s.xs.length })]).map (·.1))=shL (vwP s) (psG s G) (pre.map (·.1))++qm (vwP s) (psG s G) pre.length (e,k)):=by
      show _=_
      rw [List.map_append,List.map_cons,List.map_nil,shL_snoc,List.length_map]
     have hcn:pre.length<n:=by have:=HPN.out;omega
     have hll:∀p∈shL (vwP s) (psG s G) (pre.map (·.1)),p.1<pre.length:=fun p hp=>by have:=shL_low hp;rwa [List.length_map] at this
     obtain ⟨L0,hL0⟩:∃L0,shL (vwP s) (psG s G) (pre.map (·.1))=L0:=⟨_,rfl⟩
     rw [hL0] at HSN hI hll
     have HLE:Hid ((pre++[(⟨(e,k),hxm⟩:{ x:Nat×Nat // x∈zt (K+1) 0 s.xs.length })]).length=pre.length+1):=by show _=_;simp
     obtain ⟨c,hc⟩:∃c,pre.length=c:=⟨_,rfl⟩
     rw [hc] at HSN hI hcn HLE hll
     have HLL:=zH hll
     obtain ⟨hd,hd1,hXA⟩:=HD3.out X3 hI.below
     obtain ⟨hvl,hrow⟩:=HFF.out.views _ (List.getElem_mem he)
     obtain ⟨bx,ox,A1,c1,A2,c2,eX,hbx,x0,x1,x2,hRw,hLv⟩:=hXA.row e he
     obtain ⟨y,hy⟩:∃y,y=s.xs[e]:=⟨_,rfl⟩
     have HVW:Hid (∀q,vwP s (e,k) q=xw y k q):=fun q=>by unfold vwP;rw [zD he,hy]
     rw [←hy] at hvl hrow x2 hLv
     obtain ⟨bl,ol,A3,c3,eL,hbl,y1,hIr⟩:=hLv.at_ k (by omega)
     subst eL
     obtain ⟨hl,hpos⟩:=hrow _ (List.getElem_mem (by omega:k<y.views.length))
     have hxw:∀q,xw y k q=(y.views[k]'(by omega)).getD q 0:=fun q=>by unfold xw;rw [zD (by omega:k<y.views.length)]
     obtain ⟨row,hrw⟩:∃row,y.views[k]'(by omega)=row:=⟨_,rfl⟩
     rw [hrw] at y1 hIr hl hpos
     have HXW:Hid (∀q,vwP s (e,k) q=row.getD q 0):=fun q=>by rw [HVW.out,hxw,hrw]
     obtain ⟨nv,hnv⟩:∃nv,y.views.length=nv:=⟨_,rfl⟩
     rw [hnv] at x2 hvl
     rw [hl] at y1
     have HIR:Hid (∀X,Below w3.heap.size w3 X→IAt X w.heap.size A3 row):=fun X hX=>hIr.sameB fun z hz=>(hX.block z (by have:=HB3.out.size;omega)).trans (hI.below.block z (by have:=HB3.out.size;omega)).symm
     have HRL:=zH hl
     have hwH:=HB3.out.size
     have HI:=zH hI
     have p9:X3.drew.cell? ⟨w.heap.size,9,none⟩=some (.slice AX s.xs.length kx):=zh hd 9 rfl
     have g0:X3.drew.cell? ⟨gp,0,none⟩=some (.int .i64 (e:Int)):=zh hgb 0 rfl
     have g1:X3.drew.cell? ⟨gp,1,none⟩=some (.int .i64 (k:Int)):=zh hgb 1 rfl
     subst eX
     have x2:X3.drew.cell? ⟨bx,ox+e*3+2,none⟩=some (.slice (some ⟨bl,ol,none⟩) nv c2):=x2
     have y1:X3.drew.cell? ⟨bl,ol+k,none⟩=some (.slice A3 N c3):=y1
     have h1:(0:Int)≤(e:Int):=by omega
     have h2:(e:Int)<(s.xs.length:Int):=by omega
     have h3:(0:Int)≤(k:Int):=by omega
     have h4:(k:Int)<(nv:Int):=by omega
     have HBK:=zH (And.intro hk hcn)
     have H35:=zH hI.b5
     clear hll hd hd1 hXA hRw hLv hIr hI hpos hrow hxw hrw hL0 hvl hnv hl x0 x1 hx1 hx2 hlt hc HVW he hy hbx hbl HIT HRE hgb hcn hk
     gi_wp2_with fail
     refine yJ [(0,true),(1,true),(2,true),(3,true),(4,true),(5,true),(6,true),(7,true),(8,true),(9,true),(10,true),(11,true),(12,true)] (fun X=>X=X3.drew) (by kernel_rfl) (by kernel_rfl) (by kernel_rfl) (by rintro ⟨_,_,h⟩;exact h) rfl ?_
     repeat
      apply zM rfl
      · rintro K' hK' X rfl
        go_simp
        exact hK'
     refine zT ?_
     have HI5:Hid (ReIn w3.heap.size wE.heap.size n S w3 X3.drew L0 c):=HI.out.same ((Below.refl _ _).drew)
     have HO5:Hid (X3.drew.heap=X3.heap):=rfl
     obtain ⟨W5,hW5⟩:∃W5,X3.drew=W5:=⟨_,rfl⟩
     rw [hW5] at HI5 HO5 ⊢
     have ht:Tryz.prog.underlying 108=some (.map 3 3):=Tryz.underlying108
     have hz:∀W:World,(zeroValue 3).run Tryz.prog W=.ok (.int .i64 0) W:=fun W=>by kernel_rfl
     have HTM:=zH ht
     have HZ:=zH hz
     clear hW5 p9 g0 g1 x2 y1 h1 h2 h3 h4 HI ht hz
     gi_wp2_with fail
     gi_loopw [51] (fun i wr=>∃j:Nat,j≤N∧i=.int .i64 (j:Int)∧Hid (ReIn w3.heap.size wE.heap.size n S w3 wr (L0++qm (vwP s) (yP G j) c (e,k)) c)∧Hid (Wrote (fun z=>z<wE.heap.size+4) W5 wr)) (fun i _=>N-(intOf i).toNat)
     case atStart => exact ⟨0, by omega, rfl, by have e0 : yP G 0 = [] := by simp [yP]
                                                 rw [e0,rowPr_nil,List.append_nil];exact HI5,Wrote.refl _ _⟩
     case round=>
      obtain ⟨j,hj,rfl,hRe,hWr⟩:=hrel
      clear HI5
      have hHE:=hRe.out.he
      have hszq:=hRe.out.sz
      obtain ⟨_,hd1,_⟩:=HD3.out wr hRe.out.below
      by_cases hjl:j<N
      · have hb0:=bit_test0 hG32 (show j<5 by have:=HN5.out;omega)
        obtain ⟨b6,o6,rfl,hb6,z0⟩:=(HIR.out wr hRe.out.below).at_ j (by rw [HRL.out];exact hjl)
        have hu0:=HXW.out j
        rw [xn (by rw [HRL.out];exact hjl)] at hu0
        obtain ⟨u,hu⟩:∃u,row[j]'(by rw [HRL.out];exact hjl)=u:=⟨_,rfl⟩
        rw [hu] at z0 hu0
        have HU0:=zH hu0
        have q0:=zh hd1 0 rfl
        have hj0:(0:Int)≤(j:Int):=by omega
        have hj1:(j:Int)<(N:Int):=by omega
        have hG00:(0:Int)≤(G:Int):=by omega
        have hj5:j<5:=by have:=HN5.out;omega
        have hmn:min j 64=j:=by omega
        clear hu hu0 hd1
        by_cases hbit:G.testBit j=true
        case neg=>
         have hbf:G.testBit j=false:=by simpa using hbit
         rw [hbf] at hb0
         have hE:yP G (j+1)=yP G j:=by rw [Ze,if_neg hbit]
         have hRe2:Hid (ReIn w3.heap.size wE.heap.size n S w3 wr (L0++qm (vwP s) (yP G (j+1)) c (e,k)) c):=by rw [hE];exact hRe
         clear hRe hE hbit hbf
         gi_wp2_with fail
         go_roundw
         case rel=>exact ⟨j+1,by omega,by go_num,hRe2,hWr⟩
         case measure=>simp [intOf];omega
        case pos=>
        rw [hbit] at hb0
        have hE:L0++qm (vwP s) (yP G (j+1)) c (e,k)=L0++qm (vwP s) (yP G j) c (e,k)++[(c,u)]:=by rw [Ze,if_pos hbit,J8,HU0.out,List.append_assoc]
        have HE:=zH hE
        have HL1:Hid (∀p∈L0++qm (vwP s) (yP G j) c (e,k),p.1<n):=fun p hp=>by
         have h9:=HBK.out.2
         rcases List.mem_append.1 hp with h | h
         · have:=HLL.out p h;omega
         · have:=rowPr_low h;omega
        obtain ⟨L1,hL1⟩:∃L1,L0++qm (vwP s) (yP G j) c (e,k)=L1:=⟨_,rfl⟩
        rw [hL1] at HE hRe HL1
        have q9:=zh hRe.out.b9 0 rfl
        have q10:=zh hRe.out.b10 0 rfl
        obtain ⟨m,hm⟩:=hRe.out.hm
        obtain ⟨f,ρ,hh,r1,r2,r3⟩:=hRe.out.row
        have hlk:=hm.look2 xm HTM.out (HZ.out wr) u
        clear hE hL1 hbit
        cases hf:jI L1 u with
        | none=>
         rw [hf] at hlk
         simp only [Option.getD_none,Option.isSome_none] at hlk
         obtain ⟨W6,hrun,hm6,hg6⟩:=hm.put xm HTM.out u (.int .i64 (c:Int))
         rw [fstG_put hf] at hm6
         have hb6:Below w3.heap.size wr W6:=(Below.refl _ _).grown hg6 (by omega) (fun r e=>by cases e;omega)
         have hRe6:Hid (ReIn w3.heap.size wE.heap.size n S w3 W6 (L0++qm (vwP s) (yP G (j+1)) c (e,k)) c):=by
          rw [HE.out]
          exact hRe.out.upd hb6 (fun z _ h2 h3 _=>hg6.block z (by omega) (fun e=>h3 (by cases e;rfl))) ⟨f,ρ,hh,(hg6.block _ (by omega) (fun e=>by have:=Option.some.inj e;omega)).trans r1,r2,r3.fresh (fstG_none hf)⟩ ⟨_,hm6⟩ ((hg6.block _ (by omega) (fun e=>by have:=Option.some.inj e;omega)).trans hRe.out.b10)
         have HW6:Hid (Wrote (fun z=>z<wE.heap.size+4) W5 W6):=hWr.out.trans (Wrote.of_grown hg6 (fun z e _=>by cases e;omega)) (fun _ _ h=>h)
         clear hm hm6 hg6 hb6 r1 r2 r3 hf hRe hWr
         gi_wp2_with fail
         go_roundw
         case rel=>exact ⟨j+1,by omega,by go_num,hRe6,HW6⟩
         case measure=>simp [intOf];omega
        | some v=>
         rw [hf] at hlk
         simp only [Option.getD_some,Option.isSome_some] at hlk
         obtain ⟨i,rfl,him⟩:=fstG_some hf
         have hin:i<n:=HL1.out _ him
         have hcn:=HBK.out.2
         obtain ⟨ra1,ra2⟩:=r2.root c hcn
         obtain ⟨rb1,rb2⟩:=r2.root i hin
         have HJT:=zH (r3.join hcn hin him)
         have HJF:Hid (∀f',Frst n f' ρ hh→Frst n (f'.set (ρ c) (ρ i:Int)) _ _):=fun f' F'=>F'.join hcn hin
         have HC1:=zH (ZU n ρ hh f r2 c hcn w3.heap.size wr.drew r1)
         have HC2:=zH (fun (f':List Int) (F':Frst n f' ρ hh) (X:World) (hr:RowAt X w3.heap.size f')=>ZU n ρ hh f' F' i hin w3.heap.size X hr)
         obtain ⟨a,ha⟩:∃a,ρ c=a:=⟨_,rfl⟩
         obtain ⟨b,hb⟩:∃b,ρ i=b:=⟨_,rfl⟩
         rw [ha] at ra1 HC1 HJF HJT
         rw [hb] at HC2 HJF HJT
         have ha0:(0:Int)≤(a:Int):=by omega
         have ha1:(a:Int)<(n:Int):=by omega
         have HRA:=zH ra1
         have HMM:=zH (show MapOf (Value.int .i64) wr wE.heap.size m (jI (L1++[(c,u)])) by rw [fstG_keep hf];exact hm)
         have HBX:=zH (And.intro hRe.out.b7 hRe.out.b10)
         have hlH:w3.heap.size<wr.heap.size:=r1.lt
         clear r1 r2 r3 ra1 ra2 rb1 rb2 him hf hm ha hb HL1
         gi_wp2_with fail
         refine yJ [(0,true),(1,true),(2,true),(4,true),(5,true),(3,false),(6,false),(7,false),(8,false)] (fun X=>X.heap[w3.heap.size+1]?=some (.cells #[.slice (some ⟨w3.heap.size,0,none⟩) n n] 106 (0,0))∧X.heap[wE.heap.size+1+1]?=some (.cells #[.int .i64 (c:Int)] 3 (0,0))) (by kernel_rfl) (by kernel_rfl) (by kernel_rfl) (by rintro ⟨_,_,h⟩;exact h) HBX.out ?_
         repeat
          apply zM rfl
          · rintro K' hK' X ⟨y1,y2⟩
            have p7:=zh y1 0 rfl
            have p10:=zh y2 0 rfl
            clear y1 y2
            go_simp
            exact hK'
         refine zC rfl ?_
         intro K' hK'
         go_simp
         refine HC1.out.mono ?_
         rintro e W6 ⟨rfl,⟨f6,F6,R6⟩,hw6⟩
         have HBX6:Hid (W6.heap[w3.heap.size+1]?=some (.cells #[.slice (some ⟨w3.heap.size,0,none⟩) n n] 106 (0,0))∧W6.heap[wE.heap.size+1+1]?=some (.cells #[.int .i64 (c:Int)] 3 (0,0))):=⟨(hw6.block _ (by show _<wr.heap.size;omega) (by omega)).trans HBX.out.1,(hw6.block _ (by show _<wr.heap.size;omega) (by omega)).trans HBX.out.2⟩
         refine hK' _ _ HBX6.out ?_
         clear hK' K' HC1
         have HC3:=zH (HC2.out f6 F6 W6 R6)
         have HW6:Hid (Wrote (fun z=>z=w3.heap.size) wr W6):=(Wrote.of_below ((Below.refl _ wr).drew)).trans hw6 (fun _ _ h=>h)
         clear hw6 R6 F6 HC2
         refine zC rfl ?_
         intro K' hK'
         go_simp
         refine HC3.out.mono ?_
         rintro e W7 ⟨rfl,⟨f7,F7,R7⟩,hw7⟩
         have HW7:=zH (HW6.out.trans hw7 (fun _ _ h=>h))
         have hs7:=HW7.out.size
         have HBX7:Hid (W7.heap[w3.heap.size+1]?=some (.cells #[.slice (some ⟨w3.heap.size,0,none⟩) n n] 106 (0,0))∧W7.heap[wE.heap.size+1+1]?=some (.cells #[.int .i64 (c:Int)] 3 (0,0))):=⟨(HW7.out.block _ (by omega) (by omega)).trans HBX.out.1,(HW7.out.block _ (by omega) (by omega)).trans HBX.out.2⟩
         refine hK' _ _ HBX7.out ?_
         clear hK' K'
         refine zC rfl ?_
         intro K' hK'
         go_simp
         refine hK' _ _ HBX7.out ?_
         clear hK' K' HC3 hw7 HBX6 HW6
         have hfl7:a<f7.length:=by rw [F7.len];exact HRA.out
         have y0:=R7.cell a hfl7
         have y1:=R7.froz a
         have y2:=R7.lt
         have hset:=R7.set a (b:Int)
         have hoth:∀z,z≠w3.heap.size→(W7.setCell ⟨w3.heap.size,a,none⟩ (.int .i64 (b:Int))).heap[z]?=W7.heap[z]?:=fun z hz=>Below.heap_setCell W7 ⟨w3.heap.size,a,none⟩ _ z hz
         have hw8:Wrote (fun z=>z=w3.heap.size) W7 (W7.setCell ⟨w3.heap.size,a,none⟩ (.int .i64 (b:Int))):=Wrote.of_grown (zQ W7 w3.heap.size a _) (fun z e _=>by cases e;rfl)
         have hw9:=HW7.out.trans hw8 (fun _ _ h=>h)
         have hRe8:Hid (ReIn w3.heap.size wE.heap.size n S w3 (W7.setCell ⟨w3.heap.size,a,none⟩ (.int .i64 (b:Int))) (L0++qm (vwP s) (yP G (j+1)) c (e,k)) c):=by
          rw [HE.out]
          exact hRe.out.upd (vg hw9 (by omega)) (fun z h1 h2 _ _=>hw9.block z (by omega) (by omega)) ⟨_,_,_,hset,HJF.out f7 F7,HJT.out⟩ ⟨_,HMM.out.same (hw9.block _ (by omega) (by omega))⟩ ((hw9.block _ (by omega) (by omega)).trans HBX.out.2)
         have HW8:Hid (Wrote (fun z=>z<wE.heap.size+4) W5 (W7.setCell ⟨w3.heap.size,a,none⟩ (.int .i64 (b:Int)))):=hWr.out.trans hw9 (fun z _ h=>by omega)
         have HBX8:Hid ((W7.setCell ⟨w3.heap.size,a,none⟩ (.int .i64 (b:Int))).heap[w3.heap.size+1]?=some (.cells #[.slice (some ⟨w3.heap.size,0,none⟩) n n] 106 (0,0))∧(W7.setCell ⟨w3.heap.size,a,none⟩ (.int .i64 (b:Int))).heap[wE.heap.size+1+1]?=some (.cells #[.int .i64 (c:Int)] 3 (0,0))):=⟨(hoth _ (by omega)).trans HBX7.out.1,(hoth _ (by omega)).trans HBX7.out.2⟩
         obtain ⟨u7,hu7⟩:∃u7,f7[a]'hfl7=u7:=⟨_,rfl⟩
         rw [hu7] at y0
         clear hset hoth hw8 hw9 F7 R7 hu7 hRe hWr
         refine zC rfl ?_
         intro K' hK'
         go_simp
         refine hK' _ _ HBX8.out ?_
         clear hK' K'
         refine zT ?_
         gi_wp2_with fail
         go_roundw
         case rel=>exact ⟨j+1,by omega,by go_num,hRe8,HW8⟩
         case measure=>simp [intOf];omega
      · obtain rfl:N=j:=by omega
        have hq:=hRe.out.b10
        have q10:=zh hq 0 rfl
        have f10:=zi hq 0
        have l10:=zj hq
        have hcn:=HBK.out.2
        have hwc:IntKind.i64.wrap ((c:Int)+1)=(c:Int)+1:=by rw [IntKind.wrap_i64];omega
        obtain ⟨x1,x2,x3⟩:=set_box hq (.int .i64 ((c:Int)+1))
        have hend:Hid (ReIn w3.heap.size wE.heap.size n S w3 (wr.setCell ⟨wE.heap.size+1+1,0,none⟩ (.int .i64 ((c:Int)+1))) (L0++qm (vwP s) (yP G N) c (e,k)) (c+1)):=by
         obtain ⟨f,ρ,hh,r1,r2,r3⟩:=hRe.out.row
         obtain ⟨m,hm⟩:=hRe.out.hm
         exact hRe.out.upd ((Below.refl _ _).setCell (by show w3.heap.size≤wE.heap.size+1+1;omega) _) (fun z _ _ _ h=>x3 z h) ⟨f,ρ,hh,(x3 _ (by omega)).trans r1,r2,r3⟩ ⟨m,hm.same (x3 _ (by omega))⟩ (by push_cast;exact x1)
        have hw9:Hid (Wrote (fun z=>z<wE.heap.size+4) W5 (wr.setCell ⟨wE.heap.size+1+1,0,none⟩ (.int .i64 ((c:Int)+1)))):=hWr.out.trans (Wrote.of_grown (grown_set hq _) (fun z e _=>by cases e;omega)) (fun _ _ h=>h)
        clear x1 x2 x3 hq hRe hWr hd1
        gi_wp2_with fail
        refine ⟨⟨by have:=hw9.out.size;rw [HO5.out] at this;exact this,fun z o h1 h2 _=>?_⟩,⟨by have:=hw9.out.size;rw [HO5.out] at this;exact this,fun z h1 _=>?_⟩,?_⟩
        · have h4:=HS4.out
          have h5:=zj h2
          exact (hw9.out.block z (by rw [HO5.out];exact (Array.getElem?_eq_some_iff.1 h2).1) (by omega)).trans (by rw [HO5.out];exact h2)
        · subst h1
          exact hend.out.b5.trans H35.out.symm
        · dsimp only
          rw [HSN.out,HLE.out,HPS.out]
          exact hend.out
    case done=>
     intro D ys W hD hys hI hDk
     have hlen:ys.length=n:=by
      have h:=congrArg List.length hys
      rw [List.length_map] at h
      rw [h];exact HPN.out
     rw [hys] at hI
     obtain ⟨f,ρ,hh,r1,r2,r3⟩:=hI.row
     have hres:=HLB.out ρ r3
     obtain ⟨hd,hd1,hXA⟩:=HD3.out W hI.below
     have hwH:=HB3.out.size
     have hwHW:=hI.below.size
     have hwlt:=zj (HD3.out w3 (Below.refl _ _)).1
     have hidx:∀x∈zt (K+1) 0 s.xs.length,x.1*(K+1)+x.2<n:=fun x hx=>by
      obtain ⟨_,h1,h2⟩:=xd _ _ x hx
      have h3:=HPN.out
      rw [xF _ _ (by omega)] at h3
      have h4:=Nat.mul_le_mul (show x.1+1≤s.xs.length by omega) (Nat.le_refl (K+1))
      rw [Nat.add_mul,Nat.one_mul] at h4
      omega
     have hnb:=uL s K s.xs.length (by have:=HFF.out.k6;omega) (by have:=HFF.out.lx;omega) HFF.out.k rfl A SV AV AX kc ks kv kx 54 #[.pointer (some ⟨w3.heap.size+1,0,none⟩),.pointer (some ⟨w.heap.size,0,none⟩)]
      (enters_of Tryz.func54 (by kernel_rfl) rfl) (fun x=>(ρ (x.1*(K+1)+x.2):Int)) (fun k=>k=w3.heap.size)
      (fun X=>(∃f',Frst n f' ρ hh∧RowAt X w3.heap.size f')∧X.heap[w3.heap.size+1]?=some (.cells #[.slice (some ⟨w3.heap.size,0,none⟩) n n] 106 (0,0))∧X.heap[w.heap.size]?=some (.cells #[.int .i64 s.p.t.n,.int .i64 s.p.t.ins,.int .i64 s.p.t.outs,.slice A s.p.t.cases.length kc,.int .i64 s.p.a.n,.slice SV s.p.a.sts.length ks,.int .i64 s.p.k,.int .i64 s.n,.slice AV s.vs.length kv,.slice AX s.xs.length kx] 35 (0,0))∧W.heap.size≤X.heap.size) W (fun _ h=>by subst h;exact r1.lt)
      ⟨⟨f,r2,r1⟩,hI.b7,hd,Nat.le_refl _⟩
      (fun X X' hJ hw=>by
       obtain ⟨⟨f',F',R'⟩,j1,j2,j3⟩:=hJ
       have hl1:=R'.lt
       have hl7:=zj hI.b7
       have hl2:=zj hd
       have old:∀z,z<W.heap.size→X'.heap[z]?=X.heap[z]?:=fun z hz=>hw.block z (by omega) (by omega)
       exact ⟨⟨f',F',(old _ r1.lt).trans R'⟩,(old _ hl7).trans j1,(old _ (by omega)).trans j2,Nat.le_trans j3 hw.size⟩)
      (fun x hx X hJ hX=>by
       obtain ⟨⟨f',F',R'⟩,j1,j2,j3⟩:=hJ
       refine (reach1_any n K (by omega) (by have:=HFF.out.k6;omega) ρ hh f' F' x.1 x.2 (hidx x hx) _ (by show some _=some _;rw [←HFF.out.k];rfl) w3.heap.size (w3.heap.size+1) w.heap.size X R' j1 j2).mono ?_
       rintro r w' ⟨rfl,⟨f2,F2,R2⟩,hw⟩
       have hl7:=zj j1
       have hl2:=zj j2
       exact ⟨rfl,⟨⟨f2,F2,R2⟩,(hw.block _ hl7 (by omega)).trans j1,(hw.block _ hl2 (by omega)).trans j2,Nat.le_trans j3 hw.size⟩,hw⟩)
     rw [hres,HU.out] at hnb
     have HC:=zH hnb
     have HBW:=zH (HB3.out.trans (hI.below.mono hwH))
     have HDk:=zH hDk
     have hgD:w3.heap.size<D:=by have:=HS4.out;have:=hI.he;omega
     have HDD:=zH hd
     have hWH:w3.heap.size≤W.heap.size:=hwHW
     obtain ⟨p0,p1,p2,p3,p4,p5,p6,p7,p8,p9⟩:=zA hd
     clear hnb hI r1 r2 r3 hres hd hd1 hXA hidx hDk hys hlen HIT HRE
     go_wp2_with fail
     refine HC.out.mono ?_
     rintro e W9 ⟨v,rfl,ho,_,hw9⟩
     obtain ⟨A9,c9,rfl,_,_,_⟩:=ho.form
     have HO:=zH ho
     have HW9:=zH (vg hw9 hWH)
     have HD9:Hid (W9.heap[D]?=some (Obj.deferred (some []))):=(hw9.block _ (Array.getElem?_eq_some_iff.1 HDk.out).1 (by omega)).trans HDk.out
     clear hw9 HC p0 p1 p2 p3 p4 p5 p6 p7 p8 p9
     go_wp2_with fail
     refine yZ (B:=w3.heap.size) (w:=W9) (show Marks w3.heap.size _ W9 from ⟨[D],rfl,by simp,fun r hr=>by rw [List.mem_singleton] at hr;subst hr;exact ⟨by omega,HD9.out⟩⟩) (v:=.tuple #[.slice A9 (yT n (qk s G)).length c9,.int .i64 0]) (fun W=>by kernel_rfl) ?_
     intro X hS
     rw [hR.out]
     exact ⟨A9,c9,rfl,(HO.out.shut hS).low (by omega),HBW.out.trans ((HW9.out.trans hS.below).mono hwH)⟩
    case stop=>
     intro D c pre W _ _ h
     exact h.elim
end
section
open Go.RowKit Go.Shelf
attribute [local go_sem] Oper.semAt_some
def YU (r:Int) (i:Nat) (x:Int) (o:List Int):List Int:=if 0<r∧0≤x then o.set i (bits BinOp.or IntKind.i64 (o.getD i 0) (o.getD x.toNat 0)) else o
def kN (v:Vw) (i:Nat) (o:List Int):Nat→List Int
 | 0=>o.set i ((2^v.p.toNat:Nat):Int)
 | q+1=>YU v.r i (v.h q) (kN v i o q)
def qj (vs:List Vw):Nat→List Int
 | 0=>List.replicate vs.length 0
 | k+1=>kN (vs.getD k default) k (qj vs k) 5
theorem hrd1_len {r:Int} {i:Nat} {x:Int} {o:List Int}:(YU r i x o).length=o.length:=by unfold YU;split<;>simp
theorem Yk {v:Vw} {i:Nat} {o:List Int} (q:Nat):(kN v i o q).length=o.length:=by
 induction q with
 | zero=>simp [kN]
 | succ q ih=>rw [kN,hrd1_len,ih]
theorem jd {vs:List Vw} (k:Nat):(qj vs k).length=vs.length:=by
 induction k with
 | zero=>simp [qj]
 | succ k ih=>rw [qj,Yk,ih]
theorem index_h5 (v:Vw) (k:Nat) (hk:k<5) (w:World):(Instr.index 60 (.agg #[.int .i64 v.h0,.int .i64 v.h1,.int .i64 v.h2,.int .i64 v.h3,.int .i64 v.h4]) (.int .i64 (k:Int))).run Tryz.prog w=.ok (.int .i64 (v.h k)) w:=by
 obtain rfl | rfl | rfl | rfl | rfl:k=0∨k=1∨k=2∨k=3∨k=4:=by omega
 all_goals kernel_rfl
set_option maxRecDepth 100000 in
theorem pheard_any (s:Sy) (hn:s.vs.length≤2100) (hv:∀v∈s.vs,(∃q:Nat,v.p=(q:Int)∧q<5)∧∀q,q<5→v.h q<(s.vs.length:Int)) (A SV AV AX:Option Addr) (kc ks kv kx:Nat) (w:World) (hV:VAt w w.heap.size AV s.vs) :
  Calls Tryz.prog 31 #[.agg (s.vs_ A kc SV ks AV kv AX kx)] w fun e w'=>∃g:Nat,e=.returned (.slice (some ⟨g,0,none⟩) s.vs.length s.vs.length)∧w.heap.size≤g∧RowAt w' g (qj s.vs s.vs.length)∧Below w.heap.size w w':=by
 obtain ⟨w1,hw1,d0,hs1,hB⟩:=zm w (s.vs_ A kc SV ks AV kv AX kx) 35
 obtain ⟨w2,hw2,d2,hs2,hB2⟩:=zm w1 ((List.replicate s.vs.length 0).map (Value.int .i64)).toArray 3
 have hmk:=make_rowN s.vs.length (by omega)
 have hBB:Below w.heap.size w w2:=hB.trans (hB2.mono (by omega))
 have hR0:Hid (RowAt w2 (w.heap.size+1) (qj s.vs 0)):=by rw [←hs1];exact d2
 have HD:=zH ((hB2.block _ (by omega:w.heap.size<w1.heap.size)).trans d0)
 have HV:Hid (VAt w2 w.heap.size AV s.vs):=hV.keep hBB
 obtain ⟨vs,hvs⟩:∃vs,s.vs=vs:=⟨_,rfl⟩
 unfold Sy.vs_ at hw1 d0 HD ⊢
 rw [hvs] at hw1 hw2 d0 hmk hR0 HV HD hn hv ⊢
 obtain ⟨n,hnn⟩:∃n,vs.length=n:=⟨_,rfl⟩
 have HNL:=zH hnn
 rw [hnn] at hw1 hw2 d0 HD hmk hn hv ⊢
 have HVV:=zH hv
 have HW1:=zH hw1
 have HW2:=zH hw2
 have HBB:=zH hBB
 have p8:=zh d0 8 rfl
 have HMK:=zH hmk
 clear hw1 hw2 d0 d2 hB hB2 hBB hV hv hvs hmk hnn
 go_enter Tryz.func31,Tryz.ntmps31
 go_upto_region 1 with fail
 rw [HW1.out]
 have hmk:=HMK.out
 go_upto_region 2 with fail
 rw [show ((w1.alloc (.cells (Array.replicate n (Value.int .i64 0)) 3)))=w2 from (by rw [show Array.replicate n (Value.int .i64 0)=((List.replicate n 0).map (Value.int .i64)).toArray by simp];exact HW2.out)]
 clear hmk HMK HW1 HW2 p8
 have p8:=zh HD.out 8 rfl
 go_wp2_with fail
 go_loopw [17] (fun i wr=>∃k:Nat,k≤n∧i=.int .i64 (k:Int)∧Hid (RowAt wr (w.heap.size+1) (qj vs k))∧Hid (Below (w.heap.size+1) w2 wr)) (fun i _=>n-(intOf i).toNat)
 case atStart=>exact ⟨0,by omega,rfl,hR0,Below.refl _ _⟩
 case round=>
  obtain ⟨k,hk,rfl,hRk,hBk⟩:=hrel
  clear hR0
  obtain ⟨wE,rfl⟩:∃x,x=wr:=⟨_,rfl⟩
  by_cases hkn:k<n
  · obtain ⟨v,hvk⟩:∃v,vs[k]'(by have:=HNL.out;omega)=v:=⟨_,rfl⟩
    have hvm:v∈vs:=by rw [←hvk];exact List.getElem_mem _
    have HGV:Hid (vs.getD k default=v):=by rw [zD (by have:=HNL.out;omega),hvk];exact rfl
    obtain ⟨⟨pp,hp,hp5⟩,hh⟩:=HVV.out v hvm
    have hVE:VAt wE w.heap.size AV vs:=HV.out.keep (hBk.out.mono (by omega))
    obtain ⟨ba,oa,rfl,hba,hcell⟩:=hVE (by have:=HNL.out;omega)
    have hcl:=hcell k (by have:=HNL.out;omega)
    rw [hvk] at hcl
    have c0:wE.cell? ⟨ba,oa+k*8,none⟩=some (.int .i64 v.p):=hcl 0 _ rfl
    have c1:wE.cell? ⟨ba,oa+k*8+1,none⟩=some (.int .i64 v.r):=hcl 1 _ rfl
    have c2:wE.cell? ⟨ba,oa+k*8+2,none⟩=some (.int .i64 v.i):=hcl 2 _ rfl
    have c3:wE.cell? ⟨ba,oa+k*8+3,none⟩=some (.int .i64 v.h0):=hcl 3 _ rfl
    have c4:wE.cell? ⟨ba,oa+k*8+4,none⟩=some (.int .i64 v.h1):=hcl 4 _ rfl
    have c5:wE.cell? ⟨ba,oa+k*8+5,none⟩=some (.int .i64 v.h2):=hcl 5 _ rfl
    have c6:wE.cell? ⟨ba,oa+k*8+6,none⟩=some (.int .i64 v.h3):=hcl 6 _ rfl
    have c7:wE.cell? ⟨ba,oa+k*8+7,none⟩=some (.int .i64 v.h4):=hcl 7 _ rfl
    rw [hp] at c0
    have hk0:(0:Int)≤(k:Int):=by omega
    have hk1:(k:Int)<(n:Int):=by omega
    obtain ⟨W5,hW5,d5,hs5,hB5⟩:=zm wE #[.int .i64 (pp:Int),.int .i64 v.r,.int .i64 v.i,.int .i64 v.h0,.int .i64 v.h1,.int .i64 v.h2,.int .i64 v.h3,.int .i64 v.h4] 126
    have HD5:=zH d5
    have HW5:=zH hW5
    have HB5:=zH hB5
    have HH:=zH hh
    have HP:=zH hp
    clear hvk hvm hVE hcell hcl hW5 d5 hB5 hh hp
    go_upto_region 5 with fail
    rw [HW5.out]
    clear HW5 c0 c1 c2 c3 c4 c5 c6 c7
    have hlk:=hRk.out
    obtain ⟨o,ho⟩:∃o,qj vs k=o:=⟨_,rfl⟩
    have HO:=zH ho
    have hol:o.length=n:=by rw [←ho,jd];exact HNL.out
    have HOL:=zH hol
    have hR5:RowAt W5 (w.heap.size+1) o:=by rw [←ho];exact (HB5.out.block _ hlk.lt).trans hlk
    have hz0:=zi hR5 k
    obtain ⟨zq,q0⟩:∃z,W5.cell? ⟨w.heap.size+1,k,none⟩=some (.int .i64 z):=⟨_,hR5.cell k (by omega)⟩
    have p0:=zh HD5.out 0 rfl
    have hsh:=shl_one (N:=pp) (by omega)
    have hlg:=hR5.lt
    have hp0:(0:Int)≤(pp:Int):=by omega
    have HR5:=zH hR5
    clear hlk ho hol hR5 hRk
    go_upto_region 6 with fail
    have hw2:wrap64 (2^pp)=((2^pp:Nat):Int):=by
     obtain rfl | rfl | rfl | rfl | rfl:pp=0∨pp=1∨pp=2∨pp=3∨pp=4:=by omega
     all_goals kernel_rfl
    rw [hw2]
    have hset:=HR5.out.set k ((2^pp:Nat):Int)
    have hoth:∀z,z≠w.heap.size+1→(W5.setCell ⟨w.heap.size+1,k,none⟩ (.int .i64 ((2^pp:Nat):Int))).heap[z]?=W5.heap[z]?:=fun z hz=>Below.heap_setCell W5 ⟨w.heap.size+1,k,none⟩ _ z hz
    have hle1:w.heap.size+1≤wE.heap.size:=by
     have:=hBk.out.size
     have:=hs1
     have:=hs2
     omega
    have hbel:Below (w.heap.size+1) wE (W5.setCell ⟨w.heap.size+1,k,none⟩ (.int .i64 ((2^pp:Nat):Int))):=(HB5.out.mono hle1).setCell (Nat.le_refl _) _
    obtain ⟨W6,hW6⟩:∃W6,W5.setCell ⟨w.heap.size+1,k,none⟩ (.int .i64 ((2^pp:Nat):Int))=W6:=⟨_,rfl⟩
    rw [hW6] at hset hoth hbel ⊢
    have hEl:w.heap.size+2≤wE.heap.size:=by have:=hBk.out.size;omega
    have HEl:=zH hEl
    have HD6:=zH ((hoth wE.heap.size (by omega)).trans HD5.out)
    have HQ0:Hid (RowAt W6 (w.heap.size+1) (kN v k o 0)):=by
     show RowAt W6 _ (o.set k ((2^v.p.toNat:Nat):Int))
     rw [HP.out,Int.toNat_natCast];exact hset
    have HB6:=zH hbel
    have HS6:Hid (wE.heap.size<W6.heap.size):=zj HD6.out
    have c3:=zh HD6.out 3 rfl
    have c4:=zh HD6.out 4 rfl
    have c5:=zh HD6.out 5 rfl
    have c6:=zh HD6.out 6 rfl
    have c7:=zh HD6.out 7 rfl
    clear hz0 q0 p0 hsh hlg hp0 HR5 hw2 hset hoth hbel hW6 HD5 hs5 HB5 hEl
    go_wp2_with fail
    go_loopw [30] (fun i wr=>∃q:Nat,q≤5∧i=.int .i64 (q:Int)∧Hid (RowAt wr (w.heap.size+1) (kN v k o q))∧Hid (Wrote (fun z=>z=w.heap.size+1) W6 wr)) (fun i _=>5-(intOf i).toNat)
    case atStart=>exact ⟨0,by omega,rfl,HQ0,Wrote.refl _ _⟩
    case round=>
     obtain ⟨q,hq,rfl,hRq,hWq⟩:=hrel
     clear HQ0
     have hEl:=HEl.out
     have hbx:=(hWq.out.block wE.heap.size HS6.out (by show ¬wE.heap.size=w.heap.size+1;omega)).trans HD6.out
     clear hEl
     by_cases hq5:q<5
     · have hix:=index_h5 v q hq5 wr
       have hxn:=HH.out q hq5
       have hstep:kN v k o (q+1)=YU v.r k (v.h q) (kN v k o q):=rfl
       obtain ⟨x,hx⟩:∃x,v.h q=x:=⟨_,rfl⟩
       rw [hx] at hix hxn hstep
       obtain ⟨oq,hoq⟩:∃oq,kN v k o q=oq:=⟨_,rfl⟩
       have hoql:oq.length=n:=by rw [←hoq,Yk,HOL.out]
       rw [hoq] at hRq hstep
       have r1:=zh hbx 1 rfl
       have HST:=zH hstep
       have hq0:(0:Int)≤(q:Int):=by omega
       have hq1:(q:Int)<5:=by omega
       clear hx hoq hbx hstep
       by_cases hr0:0<v.r
       case neg=>
        have hRn:Hid (RowAt wr (w.heap.size+1) (kN v k o (q+1))):=by rw [HST.out];unfold YU;rw [if_neg (by omega)];exact hRq.out
        have e0:decide (v.r>0)=false:=decide_eq_false (by omega)
        clear hRq HST hoql
        go_wp2_with fail
        go_roundw
        case rel=>exact ⟨q+1,by omega,by go_num,hRn,hWq⟩
        case measure=>simp [intOf];omega
       have e0:decide (v.r>0)=true:=decide_eq_true (by omega)
       by_cases hx0:0≤x
       case neg=>
        have hRn:Hid (RowAt wr (w.heap.size+1) (kN v k o (q+1))):=by rw [HST.out];unfold YU;rw [if_neg (by omega)];exact hRq.out
        have e1:decide (x≥0)=false:=decide_eq_false (by omega)
        clear hRq HST hoql
        go_wp2_with fail
        go_roundw
        case rel=>exact ⟨q+1,by omega,by go_num,hRn,hWq⟩
        case measure=>simp [intOf];omega
       obtain ⟨y,rfl⟩:=Int.eq_ofNat_of_zero_le hx0
       have e1:decide ((y:Int)≥0)=true:=decide_eq_true (by omega)
       have hyn:y<n:=by omega
       have c1:=hRq.out.cell k (by omega)
       have c2:=hRq.out.cell y (by omega)
       have hd1:oq.getD k 0=oq[k]'(by omega):=zD (by omega) 0
       have hd2:oq.getD y 0=oq[y]'(by omega):=zD (by omega) 0
       rw [←hd1] at c1
       rw [←hd2] at c2
       have hE:YU v.r k (y:Int) oq=oq.set k (bits BinOp.or IntKind.i64 (oq.getD k 0) (oq.getD y 0)):=by unfold YU;rw [if_pos (by omega),Int.toNat_natCast]
       rw [hE] at HST
       obtain ⟨a1,ha1⟩:∃a1,oq.getD k 0=a1:=⟨_,rfl⟩
       obtain ⟨a2,ha2⟩:∃a2,oq.getD y 0=a2:=⟨_,rfl⟩
       rw [ha1] at c1 HST
       rw [ha2] at c2 HST
       have hz0:=zi hRq.out k
       have hlg:=hRq.out.lt
       clear hd1 hd2 hE ha1 ha2
       have hRs:=hRq.out.set k (bits BinOp.or IntKind.i64 a1 a2)
       rw [←HST.out] at hRs
       have hRn:Hid (RowAt (wr.drew.setCell ⟨w.heap.size+1,k,none⟩ (.int .i64 (bits BinOp.or IntKind.i64 a1 a2))) (w.heap.size+1) (kN v k o (q+1))):=hRs
       have hWn:Hid (Wrote (fun z=>z=w.heap.size+1) W6 (wr.drew.setCell ⟨w.heap.size+1,k,none⟩ (.int .i64 (bits BinOp.or IntKind.i64 a1 a2)))):=(hWq.out.trans (Wrote.of_below ((Below.refl _ wr).drew)) (fun _ _ h=>h)).trans (Wrote.of_grown (zQ wr.drew (w.heap.size+1) k _) (fun z e _=>by cases e;rfl)) (fun _ _ h=>h)
       clear hRs hRq hWq HST
       go_upto_region 10 with fail
       refine zz [(0,true),(1,true),(2,true),(3,true),(4,true),(5,true),(6,true),(7,true),(8,true),(9,false),(10,false)] (fun X=>X=wr.drew) (by kernel_rfl) (by kernel_rfl) rfl ?_
       repeat
        apply zM rfl
        · rintro K' hK' X rfl
          go_simp
          exact hK'
       refine zC rfl ?_
       intro K' hK'
       go_simp
       refine hK' _ _ rfl ?_
       clear hK' K'
       refine yM rfl (by kernel_rfl) ?_
       intro K' hK'
       go_simp
       refine hK' (fun _=>True) _ _ trivial ?_
       refine zT ?_
       clear hK' K'
       go_wp2_with fail
       go_roundw
       case rel=>exact ⟨_,_,_,_,_,_,_,_,_,_,_,_,_,_,_,_,_,_,_,_,_,_,⟨q+1,by omega,by go_num,hRn,hWn⟩,rfl⟩
       case measure=>simp [intOf];omega
     · obtain rfl:q=5:=by omega
       have hRn:Hid (RowAt wr (w.heap.size+1) (qj vs (k+1))):=by
        show RowAt wr _ (kN (vs.getD k default) k (qj vs k) 5)
        rw [HGV.out,HO.out];exact hRq.out
       have hBn:Hid (Below (w.heap.size+1) w2 wr):=(hBk.out.trans HB6.out).trans (vg hWq.out (by have:=HEl.out;have:=HS6.out;omega))
       clear hbx hRq hWq c3 c4 c5 c6 c7
       go_wp2_with fail
       go_roundw
       case rel=>exact ⟨k+1,by omega,by go_num,hRn,hBn⟩
       case measure=>simp [intOf];omega
  · obtain rfl:n=k:=by omega
    clear p8
    go_wp2_with fail
    go_ret
    exact ⟨w.heap.size+1,rfl,Nat.le_succ _,hRk.out,HBB.out.trans (hBk.out.mono (Nat.le_succ _))⟩
end
section
open Go.RowKit
def LowV (vs:List Vw):Prop:=∀i (hi:i<vs.length),∀q,q<5→vs[i].h q<(i:Int)
theorem LowV.snoc {vs:List Vw} {v:Vw} (h:LowV vs) (hv:∀q,q<5→v.h q<(vs.length:Int)):LowV (vs++[v]):=fun i hi q hq=>by
 by_cases hlt:i<vs.length
 · rw [List.getElem_append_left hlt];exact h i hlt q hq
 · rw [List.length_append,List.length_singleton] at hi
   obtain rfl:i=vs.length:=by omega
   rw [List.getElem_append_right (by omega)]
   simpa using hv q hq
theorem putW_asc {vs:List Vw} {v:Vw} (h:LowV vs) (hv:∀q,q<5→v.h q<(vs.length:Int)):LowV (xV vs v).1:=by
 unfold xV
 split
 · exact h
 · exact h.snoc hv
theorem ZQ {f:Nat→Vw} {vs:List Vw} (h:LowV vs):∀n,(∀p,p<n→∀q,q<5→(f p).h q<(vs.length:Int))→LowV (yp f vs n).1
 | 0,_=>h
 | n+1,hf=>by
  rw [yp]
  refine putW_asc (ZQ h n fun p hp=>hf p (by omega)) fun q hq=>?_
  have h1:=hf n (by omega) q hq
  obtain ⟨us,hu⟩:=jO f vs n
  rw [hu,List.length_append]
  omega
theorem firstE_h (p:Nat) (i:Int) (q:Nat) (_hq:q<5):(yW p i).h q=-1:=by
 match q,_hq with
 | 0,_=>rfl
 | 1,_=>rfl
 | 2,_=>rfl
 | 3,_=>rfl
 | 4,_=>rfl
theorem QW {vs:List Vw} {n:Nat} {inp:List Int} {word:List Rd} (h:LowV vs):∀j,LowV (zI vs n inp word j).1
 | 0=>by
  rw [zI]
  refine ZQ h n fun p _ q hq=>?_
  rw [firstE_h p _ q hq];omega
 | j+1=>by
  rw [zI]
  refine ZQ (QW h j) n fun p _ q hq=>?_
  rw [js _ _ _ _ q hq]
  unfold yb
  rw [jt vs n inp word j j (Nat.le_refl _)]
  split
  · rename_i hc
    rw [kX] at hc
    exact (vx vs n inp word j j q (Nat.le_refl _) hc.1).lt.2
  · omega
theorem runW_asc (p:Pb) (l:List (Nat×List Rd)):LowV (zK p l).1:=by
 have key:∀n,n≤l.length→LowV (zK p (l.take n)).1:=by
  intro n
  induction n with
  | zero=>intro _;rw [List.take_zero,kV];intro i hi;cases hi
  | succ n ih=>
   intro hn
   rw [List.take_succ_eq_append_getElem (by omega),qb]
   exact QW (ih (by omega)) _
 have:=key l.length (Nat.le_refl _)
 rwa [List.take_length] at this
theorem wZ (p:Pb):LowV (zx p).vs:=runW_asc p _
theorem or_32 {a b:Nat} (ha:a<32) (hb:b<32):bits BinOp.or IntKind.i64 (a:Int) (b:Int)=((a ||| b:Nat):Int):=by
 have h:∀a:Nat,a<32→∀b:Nat,b<32→bits BinOp.or IntKind.i64 (a:Int) (b:Int)=((a ||| b:Nat):Int):=by decide +kernel
 exact h a ha b hb
theorem vB {l:List Int} {i j:Nat} {x:Int}:(l.set i x).getD j 0=if i=j∧i<l.length then x else l.getD j 0:=by
 rw [List.getD_eq_getElem?_getD,List.getD_eq_getElem?_getD,List.getElem?_set]
 by_cases e:i=j
 · subst e
   by_cases h:i<l.length
   · simp [h]
   · simp [h]
 · simp [e]
theorem Yj {v:Vw} {i j:Nat} {o:List Int} (h:i≠j) (q:Nat):(kN v i o q).getD j 0=o.getD j 0:=by
 induction q with
 | zero=>rw [kN,vB,if_neg (fun e=>h e.1)]
 | succ q ih=>
  rw [kN];unfold YU
  split
  · rw [vB,if_neg (fun e=>h e.1),ih]
  · exact ih
theorem wT {vs:List Vw} {k:Nat}:∀m,k≤m→∀i,i<k→(qj vs m).getD i 0=(qj vs k).getD i 0
 | 0,hm,i,hi=>by omega
 | m+1,hm,i,hi=>by
  by_cases e:k=m+1
  · subst e;rfl
  · rw [qj,Yj (by omega),wT m (by omega) i hi]
theorem jV {vs:List Vw} (hl:LowV vs) {i:Nat} (hi:i<vs.length) {p:Nat} (hp:vs[i].p=(p:Int)) (hp5:p<5)
  (hE:∀j,j<i→∃S:Nat,(qj vs vs.length).getD j 0=(S:Int)∧S<32) :
  ∃S:Nat,(qj vs vs.length).getD i 0=(S:Int)∧S<32∧∀o,o<5→(S.testBit o=true↔o=p∨(0<vs[i].r∧∃q,q<5∧0≤vs[i].h q∧∃T:Nat,(qj vs vs.length).getD (vs[i].h q).toNat 0=(T:Int)∧T.testBit o=true)):=by
 have hv:vs.getD i default=vs[i]:=by rw [List.getD_eq_getElem?_getD,List.getElem?_eq_getElem hi];rfl
 have key:∀q,q≤5→∃S:Nat,(kN vs[i] i (qj vs i) q).getD i 0=(S:Int)∧S<32∧∀o,o<5→(S.testBit o=true↔o=p∨(0<vs[i].r∧∃q',q'<q∧0≤vs[i].h q'∧∃T:Nat,(qj vs vs.length).getD (vs[i].h q').toNat 0=(T:Int)∧T.testBit o=true)):=by
  intro q
  induction q with
  | zero=>
   intro _
   refine ⟨2^p,?_,?_,fun o ho=>?_⟩
   · rw [kN,vB,if_pos ⟨rfl,by rw [jd];exact hi⟩,hp,Int.toNat_natCast]
   · exact Nat.lt_of_lt_of_le (Nat.pow_lt_pow_right (by omega) hp5) (by decide)
   · rw [Nat.testBit_two_pow]
     simp only [decide_eq_true_eq]
     constructor
     · intro e;exact .inl e.symm
     · rintro (e | ⟨_,q',hq',_⟩)
       · exact e.symm
       · omega
  | succ q ih=>
   intro hq
   obtain ⟨S,e,hS,hb⟩:=ih (by omega)
   rw [kN];unfold YU
   by_cases hc:0<vs[i].r∧0≤vs[i].h q
   · rw [if_pos hc]
     have hlt:=hl i hi q (by omega)
     obtain ⟨T,eT,hT⟩:=hE (vs[i].h q).toNat (by omega)
     have eT2:(kN vs[i] i (qj vs i) q).getD (vs[i].h q).toNat 0=(T:Int):=by
      rw [Yj (by omega),←wT vs.length (show i≤vs.length by omega) _ (show (vs[i].h q).toNat<i by omega),eT]
     refine ⟨S ||| T,?_,Nat.or_lt_two_pow (n:=5) hS hT,fun o ho=>?_⟩
     · rw [vB,if_pos ⟨rfl,by rw [Yk,jd];exact hi⟩,e,eT2]
       exact or_32 hS hT
     · rw [Nat.testBit_or,Bool.or_eq_true,hb o ho]
       constructor
       · rintro ((e1 | ⟨h0,q',hq',r⟩) | h)
         · exact .inl e1
         · exact .inr ⟨h0,q',by omega,r⟩
         · exact .inr ⟨hc.1,q,by omega,hc.2,T,eT,h⟩
       · rintro (e1 | ⟨h0,q',hq',h2,T',eT',r⟩)
         · exact .inl (.inl e1)
         · by_cases e2:q'=q
           · subst e2
             rw [eT] at eT'
             have:T=T':=by omega
             subst this
             exact .inr r
           · exact .inl (.inr ⟨h0,q',by omega,h2,T',eT',r⟩)
   · rw [if_neg hc]
     refine ⟨S,e,hS,fun o ho=>(hb o ho).trans ?_⟩
     constructor
     · rintro (e1 | ⟨h0,q',hq',r⟩)
       · exact .inl e1
       · exact .inr ⟨h0,q',by omega,r⟩
     · rintro (e1 | ⟨h0,q',hq',h2,r⟩)
       · exact .inl e1
       · by_cases e2:q'=q
         · subst e2;exact absurd ⟨h0,h2⟩ hc
         · exact .inr ⟨h0,q',by omega,h2,r⟩
 obtain ⟨S,e,hS,hb⟩:=key 5 (Nat.le_refl _)
 refine ⟨S,?_,hS,hb⟩
 rw [wT vs.length (show i+1≤vs.length by omega) i (by omega),qj,hv]
 exact e
theorem Xm {vs:List Vw} (hl:LowV vs) (hp:∀v∈vs,∃p:Nat,v.p=(p:Int)∧p<5):∀i,i<vs.length→∃S:Nat,(qj vs vs.length).getD i 0=(S:Int)∧S<32:=by
 intro i
 induction i using Nat.strongRecOn with
 | ind i ih=>
  intro hi
  obtain ⟨p,h1,h2⟩:=hp _ (List.getElem_mem hi)
  obtain ⟨S,e,hS,_⟩:=jV hl hi h1 h2 (fun j hj=>ih j hj (by omega))
  exact ⟨S,e,hS⟩
def HR (N:Nat) (word:List Rd):Nat→Nat→Nat→Prop
 | 0,q,o=>o=q
 | k+1,q,o=>∃m,m<N∧((word.getD k default).h q).toNat.testBit m=true∧HR N word k m o
theorem HR_own {s:Sy} {K N:Nat} (hF:Fine s K N) {x:Exn} (hx:x∈s.xs):∀k,k≤K→∀q,q<N→HR N x.word k q q
 | 0,_,q,_=>rfl
 | k+1,hk,q,hq=>by
  obtain ⟨r1,n1⟩:=hF.round hx (show k<K by omega)
  obtain ⟨m,hm,_,hb⟩:=wU r1 n1 hF.n5 hq
  exact ⟨q,hq,by rw [hm,Int.toNat_natCast];exact hb,HR_own hF hx k (by omega) q hq⟩
theorem Jk {s:Sy} {K N:Nat} (hF:Fine s K N) (hS:Sees s K N) (hl:LowV s.vs) {x:Exn} (hx:x∈s.xs):∀k,k≤K→∀q,q<N→∃S:Nat,(qj s.vs s.vs.length).getD (xw x k q).toNat 0=(S:Int)∧S<32∧∀o,o<5→(S.testBit o=true↔HR N x.word k q o):=by
 have hn5:=hF.n5
 have hsm:=Xm hl (fun v hv=>by obtain ⟨⟨p,h1,h2⟩,_⟩:=hF.vs v hv;exact ⟨p,h1,by omega⟩)
 intro k
 induction k with
 | zero=>
  intro _ q hq
  have ha:=hS.v0 x hx q hq
  have hlt:=ha.lt
  obtain ⟨hi,e⟩:=List.getElem?_eq_some_iff.1 ha.2
  obtain ⟨S,e1,e2,e3⟩:=jV hl hi (p:=q) (by rw [e];rfl) (by omega) (fun j hj=>hsm j (by omega))
  refine ⟨S,e1,e2,fun o ho=>(e3 o ho).trans ?_⟩
  rw [e]
  constructor
  · rintro (h | ⟨h0,_⟩)
    · exact h
    · exact absurd h0 (by show ¬((0:Int)<0);omega)
  · exact fun h=>.inl h
 | succ k ih=>
  intro hk q hq
  have ha:=hS.vk x hx k (by omega) q hq
  obtain ⟨hi,e⟩:=List.getElem?_eq_some_iff.1 ha.2
  obtain ⟨S,e1,e2,e3⟩:=jV hl hi (p:=q) (by rw [e];rfl) (by omega) (fun j hj=>hsm j (by omega))
  obtain ⟨r1,n1⟩:=hF.round hx (show k<K by omega)
  obtain ⟨m0,hm0,hmN,hb⟩:=wU r1 n1 hn5 hq
  obtain ⟨hl1,hp1⟩:=hF.row hx (show k≤K by omega)
  refine ⟨S,e1,e2,fun o ho=>(e3 o ho).trans ?_⟩
  rw [e]
  have hbit:∀m,((x.word.getD k default).h q).toNat.testBit m=true→m<N:=fun m hm=>by
   rw [hm0,Int.toNat_natCast] at hm
   by_cases h:m<N
   · exact h
   · rw [Nat.testBit_lt_two_pow (Nat.lt_of_lt_of_le hmN (Nat.pow_le_pow_right (by omega) (by omega)))] at hm
     cases hm
  constructor
  · rintro (rfl | ⟨_,m,hm5,hm0',T,eT,hT⟩)
    · exact HR_own hF hx (k+1) hk o hq
    · rw [js _ _ _ _ m hm5] at hm0' eT
      unfold yb at hm0' eT
      by_cases hc:m<(x.views.getD k []).length∧((x.word.getD k default).h q).toNat.testBit m=true
      · rw [if_pos hc] at eT
        have hmN':m<N:=by omega
        obtain ⟨S',f1,f2,f3⟩:=ih (by omega) m hmN'
        have e':(x.views.getD k []).getD m 0=xw x k m:=rfl
        rw [e',f1] at eT
        have:S'=T:=by omega
        subst this
        exact ⟨m,hmN',hc.2,(f3 o ho).1 hT⟩
      · rw [if_neg hc] at hm0'
        exact absurd hm0' (by omega)
  · rintro ⟨m,hmN',hmb,hR⟩
    obtain ⟨S',f1,f2,f3⟩:=ih (by omega) m hmN'
    have e':(x.views.getD k []).getD m 0=xw x k m:=rfl
    have hc:m<(x.views.getD k []).length∧((x.word.getD k default).h q).toNat.testBit m=true:=⟨by omega,hmb⟩
    refine .inr ⟨by show (0:Int)<((k+1:Nat):Int);omega,m,by omega,?_,S',?_,(f3 o ho).2 hR⟩
    · rw [js _ _ _ _ m (by omega)]
      unfold yb
      rw [if_pos hc,e']
      obtain ⟨v,hv,_⟩:=hS.pr hx (show k≤K by omega) hmN'
      exact hv.lt.1
    · rw [js _ _ _ _ m (by omega)]
      unfold yb
      rw [if_pos hc,e',f1]
end
section
open Go.RowKit
def xv (s:Sy) (out:List Int) (h:Fh) (x:Nat×Nat):Bool:=
 if h.op=0 then true
 else if h.op=1 then decide ((yf s.p (s.xs.getD x.1 default).c.toNat).getD h.p.toNat 0=h.v)
 else if h.op=2 then decide (h.v∈yf s.p (s.xs.getD x.1 default).c.toNat)
 else if h.op=3 then ((qj s.vs s.vs.length).getD (xw (s.xs.getD x.1 default) x.2 h.p.toNat).toNat 0).toNat.testBit h.o.toNat
 else if h.op=4 then decide (0<x.2)&&(((s.xs.getD x.1 default).word.getD (x.2-1) default).f).toNat.testBit h.p.toNat
 else if h.op=5 then decide (0<out.length)&&decide (out.getD (xw (s.xs.getD x.1 default) x.2 h.p.toNat).toNat 0=h.v)
 else decide ((x.2:Int)=h.v)
def qr (s:Sy) (out:List Int) (h:Fh):List Bool:=(zt (s.p.k.toNat+1) 0 s.xs.length).map (xv s out h)
def jD (s:Sy) (out:List Int) (d:Nat) (f:Fm):List Bool×Int:=
 if yn s≠0 then ([],yn s) else if 0<out.length∧out.length≠s.vs.length then ([],15) else if kO s.n d f≠0 then ([],kO s.n d f) else if 0<f.args.length then ([],11) else (qr s out f.h,0)
theorem YH (s:Sy) (out:List Int) (h:Fh):(qr s out h).length=s.xs.length*(s.p.k.toNat+1):=by unfold qr;rw [List.length_map,xF _ _ (by omega)]
structure AtmOk (N:Nat) (h:Fh):Prop where
 op0:0≤h.op
 op6:h.op≤6
 p:h.op=1∨h.op=3∨h.op=4∨h.op=5→0≤h.p∧h.p<(N:Int)
 o:h.op=3→0≤h.o∧h.o<(N:Int)
theorem atm_ok {n:Int} {N:Nat} (hn:n=(N:Int)) {d:Nat} {f:Fm} (h:kO n d f=0) (ha:f.args.length=0):AtmOk N f.h:=by
 have hnod:kZ N f.h 0=0:=by
  unfold kO at h
  split at h
  · cases h
  · split at h
    · rename_i h2;exact absurd h h2
    · have e : jH n.toNat d f = if kZ N f.h 0 ≠ 0 then kZ N f.h 0 else jH n.toNat d f := by
       have hN:n.toNat=N:=by omega
       rw [hN]
       cases d<;>(unfold jH nodS;rw [ha];split<;>simp_all)
      rw [e] at h
      split at h
      · exact h
      · rename_i h3;simpa using h3
 unfold kZ at hnod
 by_cases h1:f.h.op<0∨17<f.h.op
 · rw [if_pos h1] at hnod;cases hnod
 rw [if_neg h1] at hnod
 by_cases h2:((0:Nat):Int)≠arN f.h.op
 · rw [if_pos h2] at hnod;cases hnod
 rw [if_neg h2] at hnod
 have h6:f.h.op≤6:=by
  unfold arN at h2
  by_cases e1:f.h.op=8∨f.h.op=9∨f.h.op=17
  · rw [if_pos e1] at h2;simp at h2
  · rw [if_neg e1] at h2
    by_cases e2:f.h.op≤6
    · exact e2
    · rw [if_neg e2] at h2;simp at h2
 refine ⟨by omega,h6,fun hp=>?_,fun ho=>?_⟩
 · have hu:usP f.h.op=true:=by unfold usP;rw [decide_eq_true_eq];omega
   by_cases hr:0≤f.h.p∧f.h.p≤(N:Int)-1
   · omega
   · rw [if_pos (.inl ⟨hu,hr⟩)] at hnod;cases hnod
 · have hu:usO f.h.op=true:=by unfold usO;rw [decide_eq_true_eq];omega
   by_cases hr:0≤f.h.o∧f.h.o≤(N:Int)-1
   · omega
   · rw [if_pos (.inr (.inl ⟨hu,hr⟩))] at hnod;cases hnod
end
section
open Go.RowKit
structure K5 where
 a:Int
 b:Int
 c:Int
 d:Int
 e:Int
deriving DecidableEq
def k5C (x:K5):Array Value:=#[.int .i64 x.a,.int .i64 x.b,.int .i64 x.c,.int .i64 x.d,.int .i64 x.e]
def k5E (x:K5):Value:=.agg (k5C x)
theorem k5_inj (a b:K5) (h:k5E a=k5E b):a=b:=by
 unfold k5E k5C at h
 injection h with h
 obtain ⟨a0,a1,a2,a3,a4⟩:=a
 obtain ⟨b0,b1,b2,b3,b4⟩:=b
 simpa using h
open Classical in
theorem Qb:KeyOk Tryz.prog 60 k5E where
 inj:=k5_inj
 check:=fun w em v=>Xy w em _ v.a v.b v.c v.d v.e
 equal:=fun w a b=>by
  unfold Op.equal Op.maxDepth k5E k5C
  rw [wX _ ⟨0,0,0,a.a,a.b,a.c,a.d,a.e⟩ ⟨0,0,0,b.a,b.b,b.c,b.d,b.e⟩ w]
  by_cases h:a=b
  · subst h;simp [hE]
  · have:¬(k5E a=k5E b):=fun e=>h (k5_inj a b e)
    unfold k5E k5C at this
    rw [decide_eq_false this]
    obtain ⟨a0,a1,a2,a3,a4⟩:=a
    obtain ⟨b0,b1,b2,b3,b4⟩:=b
    simpa [hE] using h
 now:=fun d hd=>.inr fun a b=>by
  rw [Tryz.underlying60] at hd
  cases hd
  simp [Instr.sameNow]
 stays:=fun a=>by simp [Instr.sameBits,k5E,k5C]
 kind:=⟨_,Tryz.underlying60⟩
end
section
open Go.RowKit Go.Shelf
section
variable {κ:Type} [DecidableEq κ] {enc:κ→Value}
def nuG (l:List κ):κ→Option Value:=fun k=>if k∈l then some (.int .i64 (l.idxOf k:Int)) else none
theorem nuG_nil:nuG ([]:List κ)=fun _=>none:=by funext k;simp [nuG]
theorem nuG_put {l:List κ} {k:κ} (h:k∉l):qQ (nuG l) k (.int .i64 (l.length:Int))=nuG (l++[k]):=by
 funext x
 unfold qQ nuG
 by_cases e:x=k
 · subst e
   rw [if_pos rfl,if_pos (by simp),List.idxOf_append,if_neg h]
   simp
 · rw [if_neg e]
   by_cases hx:x∈l
   · rw [if_pos hx,if_pos (by simp [hx]),List.idxOf_append,if_pos hx]
   · rw [if_neg hx,if_neg (by simp [hx,e])]
theorem nuG_count {w:World} {b n:Nat} {us:List κ} (inj:∀a b,enc a=enc b→a=b) (h:MapOf enc w b n (nuG us)) (hu:us.Nodup):∃es clock,w.heap[b]?=some (.map es clock)∧es.size=us.length:=
 h.count inj hu (fun k=>by
  unfold nuG
  by_cases hk:k∈us
  · simp [hk]
  · simp [hk])
end
structure NkIn {κ:Type} [DecidableEq κ] (enc:κ→Value) (FT MT:TypeId) (B:Nat) (S:Array Value) (F:Value) (R:Nat→Prop) (us:List κ) (ls:List Int) (w W:World):Prop where
 wrote:Wrote R w W
 b0:W.heap[B]?=some (.cells S 35 (0,0))
 b1:W.heap[B+1]?=some (.cells #[F] FT (0,0))
 b3:W.heap[B+1+1+1]?=some (.cells #[.map (some (B+1+1))] MT (0,0))
 b5:W.heap[B+1+1+1+1+1]?=some (.cells S 35 (0,0))
 hm:∃m,MapOf enc W (B+1+1) m (nuG us)
 box:∃P c,W.heap[B+1+1+1+1]?=some (.cells #[.slice P ls.length c] 36 (0,0))∧Own W (B+6) (.slice P ls.length c) ls
 sz:B+6≤W.heap.size
section
variable {B:Nat} {S:Array Value} {F:Value} {R:Nat→Prop} {κ:Type} [DecidableEq κ] {enc:κ→Value} {FT MT:TypeId} {us:List κ} {ls:List Int} {w W W':World}
theorem NkIn.turn {row:Option Nat} (h:NkIn enc FT MT B S F R us ls w W) (hw:w.heap.size≤B) (hg:W.grownBy W' row) (hr:∀r,row=some r→B+6≤r∧∃o:Obj,W.heap[r]?=some o∧o.isCells=false):NkIn enc FT MT B S F R us ls w W':=by
 obtain ⟨P,c,hb,ho⟩:=h.box
 obtain ⟨m,hm⟩:=h.hm
 have hsz:=h.sz
 have old:∀k,k<B+6→W'.heap[k]?=W.heap[k]?:=fun k hk=>hg.block k (by omega) (fun e=>by have:=(hr k e.symm).1;omega)
 refine ⟨h.wrote.trans (Wrote.of_grown (R:=fun k=>w.heap.size≤k) hg (fun k e hk=>by have:=(hr k e).1;omega)) (fun k h1 h2=>by omega),(old B (by omega)).trans h.b0,(old _ (by omega)).trans h.b1,(old _ (by omega)).trans h.b3,(old _ (by omega)).trans h.b5,⟨m,hm.same (old _ (by omega))⟩,⟨P,c,(old _ (by omega)).trans hb,ho.kept hg ?_⟩,Nat.le_trans hsz hg.size⟩
 rcases e:(Value.slice P ls.length c).ownBlock with _ | g
 · exact .inl rfl
 · refine .inr fun e2=>?_
   obtain ⟨o,h1,h2⟩:=(hr g e2.symm).2
   have:=(vy ho g e).2 o h1
   rw [this] at h2;cases h2
theorem NkIn.call (h:NkIn enc FT MT B S F R us ls w W) (hw:Wrote R W W') (hR:∀k,R k→k<B):NkIn enc FT MT B S F R us ls w W':=by
 obtain ⟨P,c,hb,ho⟩:=h.box
 obtain ⟨m,hm⟩:=h.hm
 have hsz:=h.sz
 have old:∀k,B≤k→k<W.heap.size→W'.heap[k]?=W.heap[k]?:=fun k hk hl=>hw.block k hl (fun e=>by have:=hR k e;omega)
 exact ⟨h.wrote.trans hw (fun _ _ h=>h),(old B (by omega) (by omega)).trans h.b0,(old _ (by omega) (by omega)).trans h.b1,(old _ (by omega) (by omega)).trans h.b3,(old _ (by omega) (by omega)).trans h.b5,⟨m,hm.same (old _ (by omega) (by omega))⟩,⟨P,c,(old _ (by omega) (by omega)).trans hb,ho.same fun k hk hl=>old k (by omega) hl⟩,Nat.le_trans hsz hw.size⟩
theorem NkIn.put {us':List κ} {m:Nat} (h:NkIn enc FT MT B S F R us ls w W) (hw:w.heap.size≤B) (hg:W.grownBy W' (some (B+1+1))) (hm:MapOf enc W' (B+1+1) m (nuG us')):NkIn enc FT MT B S F R us' ls w W':=by
 obtain ⟨P,c,hb,ho⟩:=h.box
 have hsz:=h.sz
 have old:∀k,k<W.heap.size→k≠B+1+1→W'.heap[k]?=W.heap[k]?:=fun k hk hl=>hg.block k hk (fun e=>hl (by cases e;rfl))
 exact ⟨h.wrote.trans (Wrote.of_grown (R:=fun k=>w.heap.size≤k) hg (fun k e hk=>by cases e;omega)) (fun k h1 h2=>by omega),(old B (by omega) (by omega)).trans h.b0,(old _ (by omega) (by omega)).trans h.b1,(old _ (by omega) (by omega)).trans h.b3,(old _ (by omega) (by omega)).trans h.b5,⟨m,hm⟩,⟨P,c,(old _ (by omega) (by omega)).trans hb,ho.same fun k hk hl=>old k hl (by omega)⟩,Nat.le_trans hsz hg.size⟩
theorem NkIn.push {P P2:Option Addr} {c c2:Nat} {u:Int} {W1:World} (h:NkIn enc FT MT B S F R us ls w W) (hw:w.heap.size≤B) (hb:W.heap[B+1+1+1+1]?=some (.cells #[.slice P ls.length c] 36 (0,0))) (ho:Own W (B+6) (.slice P ls.length c) ls)
  (ho1:Own W1 (B+6) (.slice P2 (ls.length+1) c2) (ls++[u])) (hg:W.grownBy W1 (Value.slice P ls.length c).ownBlock) :
  NkIn enc FT MT B S F R us (ls++[u]) w (W1.setCell ⟨B+1+1+1+1,0,none⟩ (.slice P2 (ls.length+1) c2)):=by
 obtain ⟨m,hm⟩:=h.hm
 have hsz:=h.sz
 have hlo:=ho.lt
 have hs1:=hg.size
 have old1:∀k,k<B+6→W1.heap[k]?=W.heap[k]?:=fun k hk=>hg.block k (by omega) (fun e=>by have:=(hlo k e.symm).1;omega)
 have hb1:=(old1 _ (by omega)).trans hb
 obtain ⟨x1,x2,x3⟩:=qR hb1 (.slice P2 (ls.length+1) c2)
 have old:∀k,k<B+6→k≠B+1+1+1+1→(W1.setCell ⟨B+1+1+1+1,0,none⟩ (.slice P2 (ls.length+1) c2)).heap[k]?=W.heap[k]?:=fun k hk hne=>(x3 k hne).trans (old1 k hk)
 refine ⟨?_,(old B (by omega) (by omega)).trans h.b0,(old _ (by omega) (by omega)).trans h.b1,(old _ (by omega) (by omega)).trans h.b3,(old _ (by omega) (by omega)).trans h.b5,⟨m,hm.same (old _ (by omega) (by omega))⟩,⟨P2,c2,by rw [List.length_append];exact x1,by rw [List.length_append];exact ho1.same fun k hk _=>x3 k (by omega)⟩,by rw [show (W1.setCell ⟨B+1+1+1+1,0,none⟩ (.slice P2 (ls.length+1) c2)).heap.size=W1.heap.size by simp [World.setCell]];omega⟩
 have a1:Wrote (fun k=>w.heap.size≤k) W W1:=Wrote.of_grown hg (fun k e hk=>by have:=(hlo k e).1;omega)
 have a2:Wrote (fun k=>w.heap.size≤k) W1 (W1.setCell ⟨B+1+1+1+1,0,none⟩ (.slice P2 (ls.length+1) c2)):=Wrote.of_grown (zQ W1 _ 0 _) (fun k e hk=>by cases e;omega)
 exact h.wrote.trans (a1.trans a2 (fun _ _ h=>h)) (fun k h1 h2=>by omega)
theorem NkIn.keeps {P:Option Addr} {c:Nat} {W1:World} (h:NkIn enc FT MT B S F R us ls w W) (hb:W.heap[B+1+1+1+1]?=some (.cells #[.slice P ls.length c] 36 (0,0))) (ho:Own W (B+6) (.slice P ls.length c) ls)
  (hg:W.grownBy W1 (Value.slice P ls.length c).ownBlock) (v:Value):KeepsFrom (B+6) W (W1.setCell ⟨B+1+1+1+1,0,none⟩ v)∧KeepB (fun k=>k=B+1+1+1+1+1) W (W1.setCell ⟨B+1+1+1+1,0,none⟩ v):=by
 have hlo:=ho.lt
 have hsz:=h.sz
 have hs1:=hg.size
 have hb1:=(hg.block (B+1+1+1+1) (by omega) (fun e=>by have:=(hlo _ e.symm).1;omega)).trans hb
 obtain ⟨x1,x2,x3⟩:=qR hb1 v
 refine ⟨⟨by simp [World.setCell];omega,fun k o hk hk1 ho1=>?_⟩,⟨by simp [World.setCell];omega,fun k hk hl=>?_⟩⟩
 · refine (x3 k (by omega)).trans ((hg.block k (zj hk1) (fun e=>?_)).trans hk1)
   have:=(vy ho k e.symm).2 o hk1
   rw [this] at ho1;cases ho1
 · subst hk
   exact (x3 _ (by omega)).trans (hg.block _ (by omega) (fun e=>by have:=(hlo _ e.symm).1;omega))
end
end
section
open Go.RowKit Go.Shelf
attribute [local go_sem] Oper.semAt_some
set_option maxRecDepth 100000 in
theorem YT (s:Sy) (K M:Nat) (hK:K≤100) (hM:M≤100) (hk:s.p.k=(K:Int)) (hx:s.xs.length=M) (A SV AV AX:Option Addr) (kc ks kv kx:Nat) (kf:Nat) (kb:Array Value) (ek:Enters Tryz.prog kf) (key:Nat×Nat→K5)
  (R:Nat→Prop) (J:World→Prop) (w:World) (hR:∀k,R k→k<w.heap.size) (hJ0:J w) (hJ:∀W W',J W→Wrote (fun k=>w.heap.size≤k) W W'→J W')
  (hkey:∀x∈zt (K+1) 0 M,∀W,J W→w.heap.size≤W.heap.size→Calls Tryz.prog kf (#[.agg #[.int .i64 x.1,.int .i64 x.2]]++kb) W fun e w'=>e=.returned (k5E (key x))∧J w'∧Wrote R W w') :
  Calls Tryz.prog 49 #[.agg (s.vs_ A kc SV ks AV kv AX kx),.func (.func kf) #[] kb] w fun e w'=>∃v,e=.returned v∧Own w' w.heap.size v (yR ((zt (K+1) 0 M).map key))∧J w'∧Wrote R w w':=by
 have hC:PtC (s.vs_ A kc SV ks AV kv AX kx) K M AX kx:=⟨by unfold Sy.vs_;rw [←hk];rfl,by unfold Sy.vs_;rw [←hx];rfl⟩
 have hlen:(zt (K+1) 0 M).length≤20000:=by
  rw [xF (K+1) M (by omega)]
  exact Nat.le_trans (Nat.mul_le_mul hM (show K+1≤101 by omega)) (by decide)
 have HIT:=zH (fun (bs:Nat) (W:World) (hb:W.heap[bs]?=some (.cells (s.vs_ A kc SV ks AV kv AX kx) 35 (0,0)))=>vE (s.vs_ A kc SV ks AV kv AX kx) K M hK hM AX kx hC bs W hb)
 have HAL:=zH (fun (W:World)=>Zy s A SV AV AX kc ks kv kx W)
 have HKEY:=zH hkey
 have HJ:=zH hJ
 have HJ0:=zH hJ0
 have hz:∀W:World,(zeroValue 3).run Tryz.prog W=.ok (.int .i64 0) W:=fun W=>by kernel_rfl
 have ht:Tryz.prog.underlying 133=some (.map 60 3):=Tryz.underlying133
 have hmm:=@run_makeMap Tryz.prog
 obtain ⟨L,hL⟩:∃L,zt (K+1) 0 M=L:=⟨_,rfl⟩
 rw [hL] at HIT HKEY hlen ⊢
 unfold Sy.vs_ at HIT HAL ⊢
 clear hkey hJ hJ0 hL hC hk hx
 refine yE Tryz.func49 rfl ?_
 simp only [Tryz.ntmps49,List.size_toArray,List.length_cons,List.length_nil,Nat.reduceAdd,Nat.reduceSub,Array.replicate_succ,Array.replicate_zero,List.push_toArray,List.append_toArray,List.nil_append,List.cons_append]
 go_wp2_with fail
 refine (HAL.out _).mono ?_
 rintro e w2 ⟨rfl,hw2⟩
 obtain ⟨S,hS⟩:∃S,S=#[Value.int .i64 s.p.t.n,.int .i64 s.p.t.ins,.int .i64 s.p.t.outs,.slice A s.p.t.cases.length kc,.int .i64 s.p.a.n,.slice SV s.p.a.sts.length ks,.int .i64 s.p.k,.int .i64 s.n,.slice AV s.vs.length kv,.slice AX s.xs.length kx]:=⟨_,rfl⟩
 rw [←hS] at hw2 HIT
 have hNW:NkIn k5E 105 133 w.heap.size S (.func (.func kf) #[] kb) R [] [] w w2∧Wrote (fun k=>w.heap.size≤k) w w2:=by
  obtain ⟨a1,h1,x1,y1,z1⟩:=zm w S 35
  rw [h1] at hw2
  obtain ⟨a2,h2,x2,y2,z2⟩:=zm a1 #[.func (.func kf) #[] kb] 105
  rw [h2] at hw2
  obtain ⟨a3,h3⟩:∃a3,a2.alloc (.map #[] 0)=a3:=⟨_,rfl⟩
  have m3:MapOf k5E a3 a2.heap.size 0 (fun _=>none):=by rw [←h3];exact MapOf.made a2
  have y3:a3.heap.size=a2.heap.size+1:=by rw [←h3];simp
  have z3:Below a2.heap.size a2 a3:=by rw [←h3];exact zW _ _
  rw [h3] at hw2
  obtain ⟨a4,h4,x4,y4,z4⟩:=zm a3 #[.map (some (w.heap.size+1+1))] 133
  rw [h4] at hw2
  obtain ⟨a5,h5,x5,y5,z5⟩:=zm a4 #[.slice none 0 0] 36
  rw [h5] at hw2
  obtain ⟨a6,h6,x6,y6,z6⟩:=zm a5 S 35
  rw [h6] at hw2
  subst hw2
  rw [y1] at x2 y2
  rw [y2] at m3 y3
  rw [y3] at x4 y4
  rw [y4] at x5 y5
  rw [y5] at x6 y6
  have w1:Wrote (fun k=>w.heap.size≤k) w a6:=by
   have b1:=(Wrote.of_below (R:=fun k=>w.heap.size≤k) z1).trans (Wrote.of_below (R:=fun k=>w.heap.size≤k) z2) (fun _ _ h=>h)
   have b2:=(b1.trans (Wrote.of_below (R:=fun k=>w.heap.size≤k) z3) (fun _ _ h=>h)).trans (Wrote.of_below (R:=fun k=>w.heap.size≤k) z4) (fun _ _ h=>h)
   exact ((b2.trans (Wrote.of_below (R:=fun k=>w.heap.size≤k) z5) (fun _ _ h=>h)).trans (Wrote.of_below (R:=fun k=>w.heap.size≤k) z6) (fun _ _ h=>h))
  refine ⟨⟨w1.more (fun k h1 h2=>by omega),?_,?_,?_,x6,⟨0,?_⟩,⟨none,0,?_,Own.nil _ _⟩,by omega⟩,w1⟩
  · exact (z6.block _ (by omega)).trans ((z5.block _ (by omega)).trans ((z4.block _ (by omega)).trans ((z3.block _ (by omega)).trans ((z2.block _ (by omega)).trans x1))))
  · exact (z6.block _ (by omega)).trans ((z5.block _ (by omega)).trans ((z4.block _ (by omega)).trans ((z3.block _ (by omega)).trans x2)))
  · exact (z6.block _ (by omega)).trans ((z5.block _ (by omega)).trans x4)
  · rw [nuG_nil]
    exact m3.same ((z6.block _ (by omega)).trans ((z5.block _ (by omega)).trans (z4.block _ (by omega))))
  · exact (z6.block _ (by omega)).trans x5
 have hsz2:w2.heap.size=w.heap.size+6:=by rw [←hw2];simp
 have HJ2:Hid (J w2):=HJ.out w w2 HJ0.out hNW.2
 have HIT2:=zH (HIT.out (w.heap.size+1+1+1+1+1) w2 hNW.1.b5)
 have HN:=zH hNW.1
 clear hNW hw2 HIT HAL HJ0 hmm hS
 go_wp2_with fail
 refine qW rfl (enters_of Tryz.func67 (by kernel_rfl) rfl) HIT2.out (by rintro x rfl;omega) (fun _=>rfl)
  (fun (pre:List { x:Nat×Nat // x∈L }) (X:World)=>NkIn k5E 105 133 w.heap.size S (.func (.func kf) #[] kb) R (xC (pre.map fun x=>key x.1)) (yR (pre.map fun x=>key x.1)) w X∧J X)
  (fun _ _ _=>False)
  ?hI (fun _ _ _ _ _ h _ _=>h)
  ⟨HN.out,HJ2.out⟩ (fun x=>#[.int .i64 x.1,.int .i64 x.2]) 84 ?a1 ?assign ?body ?done ?stop (fun _ _ h=>by have:=h.1.sz;omega)
 case hI=>
  intro pre X X' row hX hg hr
  refine ⟨hX.1.turn (Nat.le_refl _) hg (fun r e=>⟨by have:=(hr r e).1;omega,(hr r e).2⟩),HJ.out X X' hX.2 (Wrote.of_grown hg fun k e hk=>by have:=(hr k e).1;omega)⟩
 case assign=>
  intro l pre x X K' hI hK
  obtain ⟨g',hg'⟩:∃g',g'=X.heap.size:=⟨_,rfl⟩
  have HK:=zH (hK g' hg' ⟨hI.1.turn (Nat.le_refl _) (row:=none) ⟨rfl,rfl,rfl,by simp,fun k hk _=>Below.heap_alloc X _ k hk⟩ (fun r e=>by cases e),HJ.out X _ hI.2 (Wrote.of_below (zW X _))⟩)
  have HG:=zH hg'
  clear hK hg' hI
  gi_wp2
  rw [←HG.out]
  exact HK.out
 case body=>
  intro l pre x g W3 hg hgb hI hlt
  obtain ⟨us,hus⟩:∃us,xC (pre.map fun x=>key x.1)=us:=⟨_,rfl⟩
  obtain ⟨ls,hls⟩:∃ls,yR (pre.map fun x=>key x.1)=ls:=⟨_,rfl⟩
  have hll:ls.length≤20000:=by rw [←hls,xL,List.length_map];omega
  have hun:us.Nodup:=by rw [←hus];exact gO _
  obtain ⟨kk,hkk⟩:∃kk,key x.1=kk:=⟨_,rfl⟩
  have hus2:xC ((pre++[x]).map fun x=>key x.1)=qt us kk:=by rw [List.map_append,List.map_cons,List.map_nil,qx,hus,hkk]
  have hls2:yR ((pre++[x]).map fun x=>key x.1)=ls++[if kk∈us then (us.idxOf kk:Int) else (us.length:Int)]:=by
   rw [List.map_append,List.map_cons,List.map_nil,qA,hus,hls,hkk]
   congr 2
   by_cases h:kk∈us
   · rw [if_pos h,if_pos (yq.1 (hus▸h))]
   · rw [if_neg h,if_neg (fun e=>h (hus▸yq.2 e))]
  rw [hus,hls] at hI
  have hcall:=HKEY.out x.1 x.2 W3 hI.2 (by have:=hI.1.sz;omega)
  rw [hkk] at hcall
  have HC:=zH hcall
  have HN3:=zH hI.1
  have HU2:=zH hus2
  have HL2:=zH hls2
  have HUN:=zH hun
  have q1:=zh hI.1.b1 0 rfl
  have g0:=zh hgb 0 rfl
  have g1:=zh hgb 1 rfl
  clear hI hcall hus hls hus2 hls2 hkk hgb hun HKEY HIT2 HN HJ2
  gi_wp2_with fail
  refine ⟨trivial,?_⟩
  rw [ek]
  refine ⟨fun _=>by omega,(CallsIn.inRound l ((callsIn_wide (n:=6)).2 HC.out)).mono ?_⟩
  rintro e W4 ⟨rfl,hJ4,hw4⟩
  have hn4:=HN3.out.call hw4 hR
  obtain ⟨W4',hW4',d8,hs8,hb8⟩:=zm W4 (k5C kk) 60
  have hgr:W4.grownBy W4' none:=by rw [←hW4'];exact ⟨rfl,rfl,rfl,by simp,fun k hk _=>Below.heap_alloc W4 _ k hk⟩
  have HN4:=zH (hn4.turn (Nat.le_refl _) hgr (fun r e=>by cases e))
  have hJ4:=HJ.out W4 W4' hJ4 (Wrote.of_below hb8)
  have HJ4:=zH hJ4
  have hw4:Hid (KeepsFrom w2.heap.size W3 W4'∧KeepB (fun k=>k=w.heap.size+1+1+1+1+1) W3 W4'):=by
   have hz4:=hw4.size
   refine ⟨⟨by omega,fun k o hk hk1 _=>(hb8.block k (by have:=zj hk1;omega)).trans ((hw4.block k (zj hk1) (fun e=>by have:=hR k e;omega)).trans hk1)⟩,⟨by omega,fun k hk hl=>(hb8.block k (by omega)).trans (hw4.block k hl (fun e=>by have:=hR k e;subst hk;omega))⟩⟩
  have HW4:=hw4
  have HD8:=zH d8
  have HWW:=zH hW4'
  have hl8:=zj d8
  unfold k5C at hW4' d8
  have hke:k5E kk=.agg #[.int .i64 kk.a,.int .i64 kk.b,.int .i64 kk.c,.int .i64 kk.d,.int .i64 kk.e]:=rfl
  have HKE:=zH hke
  rw [hke]
  have v0:=zh d8 0 rfl
  have v1:=zh d8 1 rfl
  have v2:=zh d8 2 rfl
  have v3:=zh d8 3 rfl
  have v4:=zh d8 4 rfl
  have hz34:w.heap.size+6≤W4.heap.size:=hn4.sz
  have q3:=zh HN4.out.b3 0 rfl
  clear hke hn4 hs8 hb8 hgr
  gi_upto_region 6 with fail
  unfold k5C at HD8
  obtain ⟨m,hm⟩:=HN4.out.hm
  have hlk:=hm.look2 Qb ht (hz W4') kk
  have HM4:=zH hm
  clear q1 g0 g1 HC hJ4 hw4 hm hW4' d8
  by_cases hin:kk∈us
  case pos=>
   have hf:nuG us kk=some (.int .i64 (us.idxOf kk:Int)):=if_pos hin
   have HNU:Hid ((nuG us kk).getD (.int .i64 0)=.int .i64 (us.idxOf kk:Int)):=by rw [hf];rfl
   rw [hf,HKE.out] at hlk
   simp only [Option.getD_some,Option.isSome_some] at hlk
   have HU3:Hid (xC ((pre++[x]).map fun x=>key x.1)=us):=HU2.out.trans (if_pos hin)
   have HL3:Hid (yR ((pre++[x]).map fun x=>key x.1)=ls++[(us.idxOf kk:Int)]):=HL2.out.trans (by rw [if_pos hin])
   clear HU2 HL2
   have HU2:=HU3
   have HL2:=HL3
   clear HU3 HL3 hf hin HM4
   obtain ⟨P,c,hbx,ho⟩:=HN4.out.box
   have HBX:=zH hbx
   have HO:=zH ho
   have HJB:=HJ4
   have HKB:=HW4
   have HDBX:=HD8.out
   clear hbx ho
   have HDB:Hid (W4'.heap[W4.heap.size]?=some (.cells #[.int .i64 kk.a,.int .i64 kk.b,.int .i64 kk.c,.int .i64 kk.d,.int .i64 kk.e] 60 (0,0))):=HDBX
   have LD:=zH (And.intro (zj HN4.out.b3) (And.intro (zj HBX.out) (zj HDB.out)))
   have HLK:Hid (∀X:World,(∀k,k<W4'.heap.size→X.heap[k]?=W4'.heap[k]?)→(Instr.lookup 133 (.map (some (w.heap.size+1+1))) (.agg #[.int .i64 kk.a,.int .i64 kk.b,.int .i64 kk.c,.int .i64 kk.d,.int .i64 kk.e]) false).run Tryz.prog X=.ok (.int .i64 (us.idxOf kk:Int)) X):=fun X hX=>by
    obtain ⟨m9,hm9⟩:=HN4.out.hm
    have h9:=(hm9.same (hX _ (by have:=HN4.out.sz;omega))).look Qb ht (hz X) kk
    rw [HNU.out,HKE.out] at h9
    exact h9
   have hzb:=HN4.out.sz
   gi_wp2_with fail
   refine yJ [(0,true),(1,true),(2,true),(3,true),(4,false),(5,false),(6,false)] (fun X=>∀k,k<W4'.heap.size→X.heap[k]?=W4'.heap[k]?) (by kernel_rfl) (by kernel_rfl) (by kernel_rfl) (by rintro ⟨_,_,h⟩;exact h) (fun _ _=>rfl) ?_
   repeat
    apply zM rfl
    · rintro K' hK' X hX
      have y3:=zh ((hX _ LD.out.1).trans HN4.out.b3) 0 rfl
      have y4:=zh ((hX _ LD.out.2.1).trans HBX.out) 0 rfl
      have y50:=zh ((hX _ LD.out.2.2).trans HDB.out) 0 rfl
      have y51:=zh ((hX _ LD.out.2.2).trans HDB.out) 1 rfl
      have y52:=zh ((hX _ LD.out.2.2).trans HDB.out) 2 rfl
      have y53:=zh ((hX _ LD.out.2.2).trans HDB.out) 3 rfl
      have y54:=zh ((hX _ LD.out.2.2).trans HDB.out) 4 rfl
      have ylk:=HLK.out X hX
      clear hX
      go_simp
      exact hK'
   refine zC rfl ?_
   intro K' hK'
   go_simp
   obtain ⟨WA,hWA,dA,hsA,hbA⟩:=Zl W4' #[.int .i64 (us.idxOf kk:Int)] 3
   rw [hWA]
   have hgA:W4'.grownBy WA none:=⟨hbA.os,hbA.tape,hbA.output,hbA.size,fun k hk _=>hbA.block k hk⟩
   have HNA:=zH (HN4.out.turn (Nat.le_refl _) hgA (fun r e=>by cases e))
   have HJA:=zH (HJ.out _ _ HJB.out (Wrote.of_below hbA))
   have HBA:=zH hbA
   refine hK' _ _ (fun k hk=>hbA.block k hk) ?_
   clear hK' K' hWA hgA
   refine yM rfl (by kernel_rfl) ?_
   intro K' hK'
   rw [if_pos (by rfl)]
   have hbxA:=(HBA.out.block _ LD.out.2.1).trans HBX.out
   have hoA:Own WA (w.heap.size+6) (.slice P ls.length c) ls:=HO.out.below hbA (Nat.le_refl _)
   refine jo jv (.tmp 30) (.tmp 34) (by rfl) (w.heap.size+6) (.slice P ls.length c) ls.length (ls.map (Value.int .i64)) (by rfl) hoA W4'.heap.size #[.int .i64 (us.idxOf kk:Int)] (by rfl) dA rfl (by simp [Value.oneCell']) (by omega) (by omega) _ rfl ?_
   intro g6 k6 W6 hr6 hg6 hat6 hlt6
   have hown6:Own W6 (w.heap.size+6) (.slice (some ⟨g6,0,none⟩) (ls.length+1) k6) (ls++[(us.idxOf kk:Int)]):=by
    have h:=hr6
    unfold Own
    rw [List.map_append,List.length_append]
    exact h
   have h4b:=(hg6.block (w.heap.size+1+1+1+1) (zj hbxA) (fun e=>uJ hoA hbxA (by decide) e.symm)).trans hbxA
   have q6:=zh h4b 0 rfl
   have f6:=zi h4b 0
   have l6:=zj h4b
   have hka:=HNA.out.keeps hbxA hoA hg6 (.slice (some ⟨g6,0,none⟩) (ls.length+1) k6)
   have hpu:=HNA.out.push (Nat.le_refl _) hbxA hoA hown6 hg6
   have hJ6:J (W6.setCell ⟨w.heap.size+1+1+1+1,0,none⟩ (.slice (some ⟨g6,0,none⟩) (ls.length+1) k6)):=by
    have a2:Wrote (fun k=>w.heap.size≤k) WA W6:=Wrote.of_grown hg6 (fun k e hk=>by have:=(hoA.lt k e).1;omega)
    have a3:Wrote (fun k=>w.heap.size≤k) W6 (W6.setCell ⟨w.heap.size+1+1+1+1,0,none⟩ (.slice (some ⟨g6,0,none⟩) (ls.length+1) k6)):=Wrote.of_grown (zQ W6 _ 0 _) (fun k e hk=>by cases e;omega)
    exact HJ.out _ _ HJA.out (a2.trans a3 (fun _ _ h=>h))
   have HKa:=zH hka
   have HPU:=zH hpu
   have HJ6:=zH hJ6
   refine hK' (fun _=>True) _ _ trivial ?_
   clear hK' K' hr6 hg6 hat6 hlt6 hown6 h4b hka hpu hJ6 hoA hbxA hbA dA hsA
   refine zC rfl ?_
   intro K' hK'
   go_simp
   refine hK' _ _ trivial ?_
   clear hK' K'
   refine zT ?_
   gi_wp2_with fail
   refine ⟨(HKB.out.1.trans (hsz2▸qf HBA.out)).trans (hsz2▸HKa.out.1),(HKB.out.2.trans (KeepB.of_below HBA.out (by rintro k rfl;have:=HN4.out.sz;omega))).trans HKa.out.2,?_,HJ6.out⟩
   rw [HU2.out,HL2.out]
   exact HPU.out
  case neg=>
   have hf:nuG us kk=none:=if_neg hin
   rw [hf,HKE.out] at hlk
   simp only [Option.getD_none,Option.isSome_none] at hlk
   have HU3:Hid (xC ((pre++[x]).map fun x=>key x.1)=us++[kk]):=HU2.out.trans (if_neg hin)
   have HL3:Hid (yR ((pre++[x]).map fun x=>key x.1)=ls++[(us.length:Int)]):=HL2.out.trans (by rw [if_neg hin])
   obtain ⟨es,clock,hes,hesz⟩:=nuG_count k5_inj HM4.out HUN.out
   obtain ⟨W5,hrun,hm5,hg5⟩:=HM4.out.put Qb ht kk (.int .i64 (us.length:Int))
   rw [nuG_put hin] at hm5
   have HN5:=zH (HN4.out.put (Nat.le_refl _) hg5 hm5)
   have HG5:=zH hg5
   have HNU:Hid ((nuG (us++[kk]) kk).getD (.int .i64 0)=.int .i64 (us.length:Int)):=by
    unfold nuG Hid
    rw [if_pos (by simp),List.idxOf_append,if_neg hin];simp
   have HJB:=zH (HJ.out W4' W5 HJ4.out (Wrote.of_grown hg5 fun k e hk=>by cases e;omega))
   have HW5:Hid (KeepsFrom w2.heap.size W4' W5∧KeepB (fun k=>k=w.heap.size+1+1+1+1+1) W4' W5):=by
    refine ⟨⟨hg5.size,fun k o hk hk1 _=>(hg5.block k (zj hk1) (fun e=>by cases e;omega)).trans hk1⟩,⟨hg5.size,fun k hk hl=>hg5.block k hl (fun e=>by cases e;omega)⟩⟩
   have HKB:=zH (And.intro (HW4.out.1.trans HW5.out.1) (HW4.out.2.trans HW5.out.2))
   obtain ⟨P,c,hbx,ho⟩:=HN5.out.box
   have HBX:=zH hbx
   have HO:=zH ho
   have q35:=zh HN5.out.b3 0 rfl
   have HDBX:=(HG5.out.block _ (zj HD8.out) (fun e=>by have:=Option.some.inj e;omega)).trans HD8.out
   rw [HKE.out] at hrun
   clear HU2 HL2
   have HU2:=HU3
   have HL2:=HL3
   clear HU3 HL3 hf hin HM4 hm5 hg5 hbx ho HW5
   have hln:(Builtin.len_ #[133] 3 #[.map (some (w.heap.size+1+1))]).run Tryz.prog W4'=.ok (.int .i64 (us.length:Int)) W4':=by
    rw [←hesz]
    exact run_len_map W4' _ _ _ es clock (by kernel_rfl) hes
   clear hes hesz
   have HDB:Hid (W5.heap[W4.heap.size]?=some (.cells #[.int .i64 kk.a,.int .i64 kk.b,.int .i64 kk.c,.int .i64 kk.d,.int .i64 kk.e] 60 (0,0))):=HDBX
   have LD:=zH (And.intro (zj HN5.out.b3) (And.intro (zj HBX.out) (zj HDB.out)))
   have HLK:Hid (∀X:World,(∀k,k<W5.heap.size→X.heap[k]?=W5.heap[k]?)→(Instr.lookup 133 (.map (some (w.heap.size+1+1))) (.agg #[.int .i64 kk.a,.int .i64 kk.b,.int .i64 kk.c,.int .i64 kk.d,.int .i64 kk.e]) false).run Tryz.prog X=.ok (.int .i64 (us.length:Int)) X):=fun X hX=>by
    obtain ⟨m9,hm9⟩:=HN5.out.hm
    have h9:=(hm9.same (hX _ (by have:=HN5.out.sz;omega))).look Qb ht (hz X) kk
    rw [HNU.out,HKE.out] at h9
    exact h9
   have hzb:=HN5.out.sz
   gi_wp2_with fail
   refine yJ [(0,true),(1,true),(2,true),(3,true),(4,false),(5,false),(6,false)] (fun X=>∀k,k<W5.heap.size→X.heap[k]?=W5.heap[k]?) (by kernel_rfl) (by kernel_rfl) (by kernel_rfl) (by rintro ⟨_,_,h⟩;exact h) (fun _ _=>rfl) ?_
   repeat
    apply zM rfl
    · rintro K' hK' X hX
      have y3:=zh ((hX _ LD.out.1).trans HN5.out.b3) 0 rfl
      have y4:=zh ((hX _ LD.out.2.1).trans HBX.out) 0 rfl
      have y50:=zh ((hX _ LD.out.2.2).trans HDB.out) 0 rfl
      have y51:=zh ((hX _ LD.out.2.2).trans HDB.out) 1 rfl
      have y52:=zh ((hX _ LD.out.2.2).trans HDB.out) 2 rfl
      have y53:=zh ((hX _ LD.out.2.2).trans HDB.out) 3 rfl
      have y54:=zh ((hX _ LD.out.2.2).trans HDB.out) 4 rfl
      have ylk:=HLK.out X hX
      clear hX
      go_simp
      exact hK'
   refine zC rfl ?_
   intro K' hK'
   go_simp
   obtain ⟨WA,hWA,dA,hsA,hbA⟩:=Zl W5 #[.int .i64 (us.length:Int)] 3
   rw [hWA]
   have hgA:W5.grownBy WA none:=⟨hbA.os,hbA.tape,hbA.output,hbA.size,fun k hk _=>hbA.block k hk⟩
   have HNA:=zH (HN5.out.turn (Nat.le_refl _) hgA (fun r e=>by cases e))
   have HJA:=zH (HJ.out _ _ HJB.out (Wrote.of_below hbA))
   have HBA:=zH hbA
   refine hK' _ _ (fun k hk=>hbA.block k hk) ?_
   clear hK' K' hWA hgA
   refine yM rfl (by kernel_rfl) ?_
   intro K' hK'
   rw [if_pos (by rfl)]
   have hbxA:=(HBA.out.block _ LD.out.2.1).trans HBX.out
   have hoA:Own WA (w.heap.size+6) (.slice P ls.length c) ls:=HO.out.below hbA (Nat.le_refl _)
   refine jo jv (.tmp 30) (.tmp 34) (by rfl) (w.heap.size+6) (.slice P ls.length c) ls.length (ls.map (Value.int .i64)) (by rfl) hoA W5.heap.size #[.int .i64 (us.length:Int)] (by rfl) dA rfl (by simp [Value.oneCell']) (by omega) (by omega) _ rfl ?_
   intro g6 k6 W6 hr6 hg6 hat6 hlt6
   have hown6:Own W6 (w.heap.size+6) (.slice (some ⟨g6,0,none⟩) (ls.length+1) k6) (ls++[(us.length:Int)]):=by
    have h:=hr6
    unfold Own
    rw [List.map_append,List.length_append]
    exact h
   have h4b:=(hg6.block (w.heap.size+1+1+1+1) (zj hbxA) (fun e=>uJ hoA hbxA (by decide) e.symm)).trans hbxA
   have q6:=zh h4b 0 rfl
   have f6:=zi h4b 0
   have l6:=zj h4b
   have hka:=HNA.out.keeps hbxA hoA hg6 (.slice (some ⟨g6,0,none⟩) (ls.length+1) k6)
   have hpu:=HNA.out.push (Nat.le_refl _) hbxA hoA hown6 hg6
   have hJ6:J (W6.setCell ⟨w.heap.size+1+1+1+1,0,none⟩ (.slice (some ⟨g6,0,none⟩) (ls.length+1) k6)):=by
    have a2:Wrote (fun k=>w.heap.size≤k) WA W6:=Wrote.of_grown hg6 (fun k e hk=>by have:=(hoA.lt k e).1;omega)
    have a3:Wrote (fun k=>w.heap.size≤k) W6 (W6.setCell ⟨w.heap.size+1+1+1+1,0,none⟩ (.slice (some ⟨g6,0,none⟩) (ls.length+1) k6)):=Wrote.of_grown (zQ W6 _ 0 _) (fun k e hk=>by cases e;omega)
    exact HJ.out _ _ HJA.out (a2.trans a3 (fun _ _ h=>h))
   have HKa:=zH hka
   have HPU:=zH hpu
   have HJ6:=zH hJ6
   refine hK' (fun _=>True) _ _ trivial ?_
   clear hK' K' hr6 hg6 hat6 hlt6 hown6 h4b hka hpu hJ6 hoA hbxA hbA dA hsA
   refine zC rfl ?_
   intro K' hK'
   go_simp
   refine hK' _ _ trivial ?_
   clear hK' K'
   refine zT ?_
   gi_wp2_with fail
   refine ⟨(HKB.out.1.trans (hsz2▸qf HBA.out)).trans (hsz2▸HKa.out.1),(HKB.out.2.trans (KeepB.of_below HBA.out (by rintro k rfl;have:=HN5.out.sz;omega))).trans HKa.out.2,?_,HJ6.out⟩
   rw [HU2.out,HL2.out]
   exact HPU.out
 case done=>
  intro D ys W hD hys hI hDk
  have hmap:ys.map (fun x=>key x.1)=L.map key:=by rw [show ys.map (fun x=>key x.1)=(ys.map (·.1)).map key by rw [List.map_map];rfl,hys]
  rw [hmap] at hI
  obtain ⟨hN,hJW⟩:=hI
  obtain ⟨P,c,hbx,ho⟩:=hN.box
  have q4:=zh hbx 0 rfl
  have HN9:=zH hN
  have HO:=zH ho
  have HJ9:=zH hJW
  have HDk:=zH hDk
  clear hN ho hbx hJW hDk hys hmap
  go_wp2_with fail
  refine yZ (B:=w2.heap.size) (w:=W) (show Marks w2.heap.size _ W from ⟨[D],rfl,by simp,fun r hr=>by rw [List.mem_singleton] at hr;subst hr;exact ⟨hD,HDk.out⟩⟩) (v:=.slice P (yR (L.map key)).length c) (fun W=>by kernel_rfl) ?_
  intro X hS
  have hb:Below w2.heap.size W X:=hS.below
  refine ⟨_,rfl,(HO.out.shut hS).low (by omega),HJ.out W X HJ9.out ⟨hb.os,hb.tape,hb.output,hb.size,fun k hk hn=>hb.block k (by omega)⟩,HN9.out.wrote.trans (R':=fun k=>w2.heap.size≤k) ⟨hb.os,hb.tape,hb.output,hb.size,fun k hk hn=>hb.block k (by omega)⟩ (fun k h1 h2=>by omega)⟩
 case stop=>
  intro D c pre W _ _ h
  exact h.elim
end
section
open Go.RowKit Go.Shelf
attribute [local go_sem] Oper.semAt_some
def kq (G:Nat) (f:Nat→Int) (j i:Nat):Int:=if i<j∧G.testBit i=true then f i+1 else 0
def kz (G:Nat) (f:Nat→Int) (j:Nat):K5:=⟨kq G f j 0,kq G f j 1,kq G f j 2,kq G f j 3,kq G f j 4⟩
theorem kz_zero (G:Nat) (f:Nat→Int):k5C (kz G f 0)=#[.int .i64 0,.int .i64 0,.int .i64 0,.int .i64 0,.int .i64 0]:=by simp [k5C,kz,kq]
theorem kq_not {G:Nat} {f:Nat→Int} {j:Nat} (h:G.testBit j=false) (i:Nat):kq G f (j+1) i=kq G f j i:=by
 unfold kq
 by_cases e:i=j
 · subst e;simp [h]
 · have:(i<j+1)=(i<j):=by apply propext;omega
   simp only [this]
theorem X8 {G:Nat} {f:Nat→Int} {j:Nat} (h:G.testBit j=false):kz G f (j+1)=kz G f j:=by
 unfold kz
 simp only [kq_not h]
theorem kq_hit {G:Nat} {f:Nat→Int} {j:Nat} (h:G.testBit j=true) (i:Nat):kq G f (j+1) i=if i=j then f j+1 else kq G f j i:=by
 unfold kq
 by_cases e:i=j
 · subst e;simp [h]
 · have:(i<j+1)=(i<j):=by apply propext;omega
   simp only [this,if_neg e]
theorem kz_hit {G:Nat} {f:Nat→Int} {j:Nat} (h:G.testBit j=true) (hj:j<5):k5C (kz G f (j+1))=(k5C (kz G f j)).set! j (.int .i64 (f j+1)):=by
 unfold kz k5C
 simp only [kq_hit h]
 rcases j with _ | _ | _ | _ | _ | j
 · simp
 · simp
 · simp
 · simp
 · simp
 · omega
theorem k5_cell {w:World} {b:Nat} {x:K5} (h:w.heap[b]?=some (.cells (k5C x) 60 (0,0))) (j:Nat) (hj:j<5):∃u,w.cell? ⟨b,j,none⟩=some u∧∃m,u=.int .i64 m:=by
 rcases j with _ | _ | _ | _ | _ | j
 · exact ⟨_,zh h 0 rfl,_,rfl⟩
 · exact ⟨_,zh h 1 rfl,_,rfl⟩
 · exact ⟨_,zh h 2 rfl,_,rfl⟩
 · exact ⟨_,zh h 3 rfl,_,rfl⟩
 · exact ⟨_,zh h 4 rfl,_,rfl⟩
 · omega
theorem jk {h j:Nat} (hh:h<32) (hj:j<5):(bits BinOp.and IntKind.i64 ((h:Int) / 2^j) 1==1)=h.testBit j:=by
 match j,hj with
 | 0,_=>exact of_decide_eq_true (kn (p:=fun h=>decide ((bits BinOp.and IntKind.i64 ((h:Int) / 2^0) 1==1)=h.testBit 0)) (by decide +kernel) hh)
 | 1,_=>exact of_decide_eq_true (kn (p:=fun h=>decide ((bits BinOp.and IntKind.i64 ((h:Int) / 2^1) 1==1)=h.testBit 1)) (by decide +kernel) hh)
 | 2,_=>exact of_decide_eq_true (kn (p:=fun h=>decide ((bits BinOp.and IntKind.i64 ((h:Int) / 2^2) 1==1)=h.testBit 2)) (by decide +kernel) hh)
 | 3,_=>exact of_decide_eq_true (kn (p:=fun h=>decide ((bits BinOp.and IntKind.i64 ((h:Int) / 2^3) 1==1)=h.testBit 3)) (by decide +kernel) hh)
 | 4,_=>exact of_decide_eq_true (kn (p:=fun h=>decide ((bits BinOp.and IntKind.i64 ((h:Int) / 2^4) 1==1)=h.testBit 4)) (by decide +kernel) hh)
theorem qE {w:World} {g:Nat} {cs:Array Value} {t:TypeId} (h:w.heap[g]?=some (.cells cs t (0,0))) (i:Nat) (v:Value) :
  (w.setCell ⟨g,i,none⟩ v).heap[g]?=some (.cells (cs.set! i v) t (0,0))∧∀k,k≠g→(w.setCell ⟨g,i,none⟩ v).heap[k]?=w.heap[k]?:=by
 have hlt:=zj h
 refine ⟨?_,fun k hk=>Below.heap_setCell w ⟨g,i,none⟩ v k hk⟩
 rw [World.setCell,Array.getElem?_modify,if_pos rfl,h]
 rfl
set_option maxRecDepth 100000 in
theorem tog1_any (s:Sy) (K N:Nat) (hF:Fine s K N) (G:Nat) (hG32:G<32) (e k:Nat) (he:e<s.xs.length) (hk:k≤K) (A SV AV AX:Option Addr) (kc ks kv kx bs bg:Nat) (w:World) (hX:XAt w w.heap.size AX s.xs)
  (hb:w.heap[bs]?=some (.cells (s.vs_ A kc SV ks AV kv AX kx) 35 (0,0))) (hg:w.heap[bg]?=some (.cells #[.int .i64 (G:Int)] 3 (0,0))) :
  Calls Tryz.prog 50 #[.agg #[.int .i64 (e:Int),.int .i64 (k:Int)],.pointer (some ⟨bs,0,none⟩),.pointer (some ⟨bg,0,none⟩)] w fun r w'=>r=.returned (k5E (kz G (fun q=>xw s.xs[e] k q) N))∧Below w.heap.size w w':=by
 obtain ⟨w1,hw1,d0,hs1,hB⟩:=zm w #[.int .i64 (e:Int),.int .i64 (k:Int)] 84
 obtain ⟨w2,hw2,d1,hs2,hB2⟩:=zm w1 #[.int .i64 0,.int .i64 0,.int .i64 0,.int .i64 0,.int .i64 0] 60
 obtain ⟨w3,hw3,d2,hs3,hB3⟩:=zm w2 #[.int .i64 0,.int .i64 0,.int .i64 0,.int .i64 0,.int .i64 0] 60
 have hBB:Below w.heap.size w w3:=hB.trans ((hB2.mono (by omega)).trans (hB3.mono (by omega)))
 have hxm:=List.getElem_mem he
 obtain ⟨hvl,hrow⟩:=hF.views _ hxm
 obtain ⟨bx,ox,A1,c1,A2,c2,eX,hbx,x0,x1,x2,hRw,hLv⟩:=(hX.keep hBB).row e he
 subst eX
 obtain ⟨x,hx⟩:∃x,x=s.xs[e]:=⟨_,rfl⟩
 rw [←hx] at hvl hrow x2 hLv ⊢
 obtain ⟨bl,ol,A3,c3,eL,hbl,y1,hI⟩:=hLv.at_ k (by omega)
 subst eL
 obtain ⟨hl,hpos⟩:=hrow _ (List.getElem_mem (by omega:k<x.views.length))
 have hxw:∀row,x.views[k]'(by omega)=row→∀q,xw x k q=row.getD q 0:=fun row hr q=>by unfold xw;rw [zD (by omega:k<x.views.length),hr]
 obtain ⟨row,hrw⟩:∃row,x.views[k]'(by omega)=row:=⟨_,rfl⟩
 have hXW:=hxw row hrw
 rw [hrw] at y1 hI hl hpos
 obtain ⟨V,hV⟩:∃V:Nat→Int,(fun q=>xw x k q)=V:=⟨_,rfl⟩
 have HV:Hid (∀q,V q=row.getD q 0):=fun q=>by rw [←hV];exact hXW q
 rw [hV]
 obtain ⟨nv,hnv⟩:∃nv,x.views.length=nv:=⟨_,rfl⟩
 rw [hnv] at x2 hvl
 rw [hl] at y1
 have HRL:=zH hl
 have HPO:=zH hpos
 have HIR:=zH hI
 have HLV:=zH hF.lv
 have HN5:=zH hF.n5
 have HW1:=zH hw1
 have HW2:=zH hw2
 have HW3:=zH hw3
 have HB:=zH hBB
 have lbs:=zj hb
 have lbg:=zj hg
 have HBG:=zH ((hBB.block _ lbg).trans hg)
 have HD1:=zH ((hB3.block _ (by omega:w1.heap.size<w2.heap.size)).trans d1)
 have hd0:=(hB3.block _ (by omega:w.heap.size<w2.heap.size)).trans ((hB2.block _ (by omega)).trans d0)
 have HD2:=zH d2
 have g0:=zh hd0 0 rfl
 have g1:=zh hd0 1 rfl
 have p9:w3.cell? ⟨bs,9,none⟩=some (.slice (some ⟨bx,ox,none⟩) s.xs.length kx):=zh ((hBB.block _ lbs).trans hb) 9 rfl
 have h1:(0:Int)≤(e:Int):=by omega
 have h2:(e:Int)<(s.xs.length:Int):=by omega
 have h3:(0:Int)≤(k:Int):=by omega
 have h4:(k:Int)<(nv:Int):=by omega
 have hS1:=hs1
 clear hw1 hw2 hw3 d0 d1 d2 hd0 hB hB2 hB3 hBB hX hb hg hF hV hXW hnv hx hRw hLv hI hpos hrow hxm hxw hrw x0 x1 hl hvl
 go_enter Tryz.func50,Tryz.ntmps50
 go_wp2_with fail
 rw [HW1.out]
 rw [HW2.out,HW3.out]
 clear HW1 HW2 HW3
 refine zz [(0,true),(1,true),(2,true),(3,true),(4,true),(5,true),(6,true),(7,true),(8,true),(9,true),(10,true),(11,true),(12,true)] (fun X=>X=w3.drew) (by kernel_rfl) (by kernel_rfl) rfl ?_
 repeat
  apply zM rfl
  · rintro K' hK' X rfl
    go_simp
    exact hK'
 refine zT ?_
 obtain ⟨W5,hW5⟩:∃W5,w3.drew=W5:=⟨_,rfl⟩
 have HH:Hid (W5.heap=w3.heap):=by rw [←hW5];exact rfl
 have HB5:Hid (Below w.heap.size w W5):=by rw [←hW5];exact HB.out.drew
 rw [hW5]
 rw [show w3.heap=W5.heap from HH.out.symm] at HBG HD1 HD2
 have HK5:Hid (∀z,z<w.heap.size→W5.heap[z]?=w3.heap[z]?):=fun z _=>by rw [HH.out]
 clear hW5 g0 g1 p9 x2 y1 h1 h2 h3 h4 HB
 have e2:w2.heap.size=w.heap.size+1+1:=by rw [hs2,hs1]
 rw [e2] at HD2
 rw [hs1] at HD1
 have hK0:Hid (W5.heap[w.heap.size+1+1]?=some (.cells (k5C (kz G V 0)) 60 (0,0))):=by rw [kz_zero];exact HD2.out
 have hWl:w.heap.size+3≤W5.heap.size:=by rw [HH.out,hs3,hs2,hs1];omega
 clear HD2 hs2 hs3 e2 HH
 go_wp2_with fail
 go_loopw [20] (fun i wr=>∃j:Nat,j≤N∧i=.int .i64 (j:Int)∧Hid (wr.heap[w.heap.size+1+1]?=some (.cells (k5C (kz G V j)) 60 (0,0)))∧Hid (Wrote (fun z=>z=w.heap.size+1+1) W5 wr)) (fun i _=>N-(intOf i).toNat)
 case atStart=>exact ⟨0,by omega,rfl,hK0,Wrote.refl _ _⟩
 case round=>
  obtain ⟨j,hj,rfl,hKj,hWr⟩:=hrel
  clear hK0
  have hws:=hWr.out.size
  by_cases hjl:j<N
  · have hj5:j<5:=by have:=HN5.out;omega
    have hb1:=jk hG32 hj5
    have hIw:IAt wr w.heap.size A3 row:=HIR.out.sameB fun z hz=>by
     have:=hWr.out.block z (by omega) (by show ¬z=w.heap.size+1+1;omega)
     rw [this];exact HK5.out z hz
    obtain ⟨b6,o6,rfl,hb6,z0⟩:=hIw.at_ j (by rw [HRL.out];exact hjl)
    have hu0:=HV.out j
    rw [xn (by rw [HRL.out];exact hjl)] at hu0
    have hur:=HPO.out _ (List.getElem_mem (by rw [HRL.out];exact hjl:j<row.length))
    obtain ⟨u,hu⟩:∃u,row[j]'(by rw [HRL.out];exact hjl)=u:=⟨_,rfl⟩
    rw [hu] at z0 hu0 hur
    have HU0:=zH hu0
    have q0:=zh ((hWr.out.block bg (by omega) (by show ¬bg=w.heap.size+1+1;omega)).trans HBG.out) 0 rfl
    have hwv:IntKind.i64.wrap (u+1)=u+1:=by have:=HLV.out;rw [IntKind.wrap_i64];omega
    obtain ⟨old,hold,m5,rfl⟩:=k5_cell hKj.out j hj5
    have hfr:=zi hKj.out j
    have hj0:(0:Int)≤(j:Int):=by omega
    have hj1:(j:Int)<(N:Int):=by omega
    have hj6:(j:Int)<5:=by omega
    have hG00:(0:Int)≤(G:Int):=by omega
    have hmn:min j 64=j:=by omega
    clear hu hu0 hur hIw
    by_cases hbit:G.testBit j=true
    case neg=>
     have hbf:G.testBit j=false:=by simpa using hbit
     rw [hbf] at hb1
     have hKn:Hid (wr.heap[w.heap.size+1+1]?=some (.cells (k5C (kz G V (j+1))) 60 (0,0))):=by rw [X8 hbf];exact hKj.out
     clear hKj hbit hbf
     go_wp2_with fail
     go_roundw
     case rel=>exact ⟨j+1,by omega,by go_num,hKn,hWr⟩
     case measure=>simp [intOf];omega
    case pos=>
     rw [hbit] at hb1
     have HK:=zH (kz_hit (f:=V) hbit hj5)
     have h9:=qE hKj.out j (.int .i64 (u+1))
     have hKn:Hid ((wr.setCell ⟨w.heap.size+1+1,j,none⟩ (.int .i64 (u+1))).heap[w.heap.size+1+1]?=some (.cells (k5C (kz G V (j+1))) 60 (0,0))):=by rw [HK.out,HU0.out];exact h9.1
     have hWn:Hid (Wrote (fun z=>z=w.heap.size+1+1) W5 (wr.setCell ⟨w.heap.size+1+1,j,none⟩ (.int .i64 (u+1)))):=hWr.out.trans (Wrote.of_grown (zQ wr (w.heap.size+1+1) j _) (fun z e _=>by cases e;rfl)) (fun _ _ h=>h)
     clear h9 hKj hWr hbit HK
     go_wp2_with fail
     go_roundw
     case rel=>exact ⟨j+1,by omega,by go_num,hKn,hWn⟩
     case measure=>simp [intOf];omega
  · obtain rfl:N=j:=by omega
    obtain ⟨Z,hZ⟩:∃Z,kz G V N=Z:=⟨_,rfl⟩
    rw [hZ] at hKj
    obtain ⟨za,zb,zc,zd,ze⟩:=Z
    have HZ:=zH hZ
    clear hZ
    have c0:wr.cell? ⟨w.heap.size+1+1,0,none⟩=some (.int .i64 za):=zh hKj.out 0 rfl
    have c1:wr.cell? ⟨w.heap.size+1+1,1,none⟩=some (.int .i64 zb):=zh hKj.out 1 rfl
    have c2:wr.cell? ⟨w.heap.size+1+1,2,none⟩=some (.int .i64 zc):=zh hKj.out 2 rfl
    have c3:wr.cell? ⟨w.heap.size+1+1,3,none⟩=some (.int .i64 zd):=zh hKj.out 3 rfl
    have c4:wr.cell? ⟨w.heap.size+1+1,4,none⟩=some (.int .i64 ze):=zh hKj.out 4 rfl
    have hr1:=(hWr.out.block (w.heap.size+1) (by omega) (by show ¬w.heap.size+1=w.heap.size+1+1;omega)).trans HD1.out
    have r0:wr.cell? ⟨w.heap.size+1,0,none⟩=some (.int .i64 0):=zh hr1 0 rfl
    have r1:wr.cell? ⟨w.heap.size+1,1,none⟩=some (.int .i64 0):=zh hr1 1 rfl
    have r2:wr.cell? ⟨w.heap.size+1,2,none⟩=some (.int .i64 0):=zh hr1 2 rfl
    have r3:wr.cell? ⟨w.heap.size+1,3,none⟩=some (.int .i64 0):=zh hr1 3 rfl
    have r4:wr.cell? ⟨w.heap.size+1,4,none⟩=some (.int .i64 0):=zh hr1 4 rfl
    have f0:=zi hr1 0
    have f1:=zi hr1 1
    have f2:=zi hr1 2
    have f3:=zi hr1 3
    have f4:=zi hr1 4
    have l0:=zj hr1
    have HWr:Hid (Below w.heap.size w wr):=HB5.out.trans ((vg (H:=w.heap.size+1+1) hWr.out (by omega)).mono (by omega))
    have HR1:=zH hr1
    clear hKj hWr HIR HPO HV hr1
    go_wp2_with fail
    have HR5:Hid ((((((wr.setCell ⟨w.heap.size+1,0,none⟩ (.int .i64 za)).setCell ⟨w.heap.size+1,1,none⟩ (.int .i64 zb)).setCell ⟨w.heap.size+1,2,none⟩ (.int .i64 zc)).setCell ⟨w.heap.size+1,3,none⟩ (.int .i64 zd)).setCell ⟨w.heap.size+1,4,none⟩ (.int .i64 ze)).heap[w.heap.size+1]?=some (.cells (k5C ⟨za,zb,zc,zd,ze⟩) 60 (0,0))):=(qE (qE (qE (qE (qE HR1.out 0 _).1 1 _).1 2 _).1 3 _).1 4 _).1.trans (by simp [k5C])
    (try simp only [Exit.inBlock,Exit.then])
    refine bodyPost_ret (results_cell_row (P:=Tryz.prog) rfl _ _ (w.heap.size+1) 60 _ (0,0) _ rfl HR5.out Tryz.underlying60 rfl (by kernel_rfl)) rfl ?_
    have hle:w.heap.size≤w.heap.size+1:=Nat.le_succ _
    exact ⟨by rw [HZ.out];rfl,(((((HWr.out.setCell hle _).setCell hle _).setCell hle _).setCell hle _).setCell hle _)⟩
end
section
open Go.RowKit Go.Shelf
attribute [local go_sem] Oper.semAt_some
def togK (s:Sy) (G:Nat) (x:Nat×Nat):K5:=kz G (fun q=>xw (s.xs.getD x.1 default) x.2 q) s.n.toNat
def kd (s:Sy) (g:Int):List Int:=yR ((zt (s.p.k.toNat+1) 0 s.xs.length).map (togK s g.toNat))
def ZD (s:Sy) (g:Int):List Int×Int:=if yl s g≠0 then ([],yl s g) else (kd s g,0)
theorem Qy (s:Sy) (g:Int):(kd s g).length=s.xs.length*(s.p.k.toNat+1):=by unfold kd;rw [xL,List.length_map,xF _ _ (by omega)]
set_option maxRecDepth 100000 in
theorem jq (s:Sy) (hs:LowS s) (hf:xY s.p) (g:Int) (A SV AV AX:Option Addr) (kc ks kv kx:Nat) (w:World) (hS:SyAt w w.heap.size A SV AV AX s) :
  Calls Tryz.prog 15 #[.agg (s.vs_ A kc SV ks AV kv AX kx),.int .i64 g] w (XF (ZD s g).1 (ZD s g).2 w):=by
 obtain ⟨w1,hw1,d0,d1,hs1,hB⟩:=yD w (s.vs_ A kc SV ks AV kv AX kx) #[.int .i64 g] 35 3
 have HG:=zH (gW s hs hf g A SV AV AX kc ks kv kx w1 (hS.up hB))
 have HE0:Hid (yl s g≠0→ZD s g=([],yl s g)):=fun h=>if_pos h
 have HE1:Hid (yl s g=0→ZD s g=(kd s g,0)):=fun h=>if_neg (by simpa using h)
 have HVF:=zH (fun h=>xq hf (uG (s:=s) (g:=g) h).1)
 have HRV:=zH (fun h=>(uG (s:=s) (g:=g) h).2)
 have HS1:=zH (hS.up hB)
 have HNB:=zH (fun (K N G:Nat) (hF:Fine s K N) (hG:G<32) (X:World) (hX:SyAt X X.heap.size A SV AV AX s) (bs bp:Nat) (hb:X.heap[bs]?=some (.cells (s.vs_ A kc SV ks AV kv AX kx) 35 (0,0))) (hp:X.heap[bp]?=some (.cells #[.int .i64 (G:Int)] 3 (0,0)))=>
  YT s K s.xs.length (by have:=hF.k6;omega) (by have:=hF.lx;omega) hF.k rfl A SV AV AX kc ks kv kx 50 #[.pointer (some ⟨bs,0,none⟩),.pointer (some ⟨bp,0,none⟩)]
   (enters_of Tryz.func50 (by kernel_rfl) rfl) (togK s G) (fun _=>False)
   (fun W=>XAt W X.heap.size AX s.xs∧W.heap[bs]?=some (.cells (s.vs_ A kc SV ks AV kv AX kx) 35 (0,0))∧W.heap[bp]?=some (.cells #[.int .i64 (G:Int)] 3 (0,0))∧X.heap.size≤W.heap.size) X (fun _ h=>h.elim)
   ⟨hX.fx,hb,hp,Nat.le_refl _⟩
   (fun W W' h hw=>by
    have hbl:Below X.heap.size W W':=⟨hw.os,hw.tape,hw.output,hw.size,fun k hk=>hw.block k (by have:=h.2.2.2;omega) (fun h2=>by omega)⟩
    exact ⟨h.1.keep hbl,(hbl.block _ (zj hb)).trans h.2.1,(hbl.block _ (zj hp)).trans h.2.2.1,Nat.le_trans h.2.2.2 hw.size⟩)
   (fun x hx W hJ hW=>by
    obtain ⟨_,h1,h2⟩:=xd _ _ x hx
    have he:x.1<s.xs.length:=by omega
    have:=tog1_any s K N hF G hG x.1 x.2 he (by omega) A SV AV AX kc ks kv kx bs bp W (hJ.1.more hJ.2.2.2) hJ.2.1 hJ.2.2.1
    refine this.mono ?_
    rintro r w' ⟨rfl,hb'⟩
    unfold togK
    rw [zD he,hF.n,Int.toNat_natCast]
    refine ⟨rfl,⟨hJ.1.keep (hb'.mono hJ.2.2.2),(hb'.block _ (zj hJ.2.1)).trans hJ.2.1,(hb'.block _ (zj hJ.2.2.1)).trans hJ.2.2.1,Nat.le_trans hJ.2.2.2 hb'.size⟩,Wrote.of_below hb'⟩))
 have HKL:=zH (fun (K G:Nat) (h:s.p.k=(K:Int))=>(by unfold kd;rw [h];rfl:kd s (G:Int)=yR ((zt (K+1) 0 s.xs.length).map (togK s G))))
 obtain ⟨r,hr⟩:∃r,yl s g=r:=⟨_,rfl⟩
 rw [hr] at HG HE0 HE1 HVF HRV
 obtain ⟨R,hRR⟩:∃R,ZD s g=R:=⟨_,rfl⟩
 rw [hRR] at HE0 HE1 ⊢
 unfold Sy.vs_ at hw1 d0 HG HNB ⊢
 have HW1:=zH hw1
 have HB:=zH hB
 have HD:=zH d0
 have HD1:=zH d1
 have q0:=zh d1 0 rfl
 obtain ⟨p0,p1,p2,p3,p4,p5,p6,p7,p8,p9⟩:=zA (d0)
 clear hw1 d0 d1 hB hS hr hRR hs hf
 go_enter Tryz.func15,Tryz.ntmps15
 go_wp2_with fail
 rw [HW1.out]
 go_wp2_with fail
 refine HG.out.mono ?_
 rintro e w2 ⟨rfl,hb2⟩
 have HB2:=zH (HB.out.trans (hb2.mono (by omega)))
 have HD:=zH ((hb2.block _ (zj HD.out)).trans HD.out)
 have HD1:=zH ((hb2.block _ (zj HD1.out)).trans HD1.out)
 have HS2:=zH (HS1.out.up hb2)
 clear p0 p1 p2 p3 p4 p5 p6 p7 p8 p9 q0 hb2 HG HW1 HS1
 by_cases h0:r=0
 case neg=>
  have hR:Hid (R=([],r)):=HE0.out h0
  have e0:(r != 0)=true:=by simpa using h0
  clear HE0 HE1 HD HD1 HVF HRV HNB HKL
  go_wp2_with fail
  go_ret2
  rw [hR.out]
  exact ⟨none,0,rfl,Own.nil _ _,HB2.out⟩
 case pos=>
 subst h0
 obtain ⟨hsb,K,N,hF⟩:=HVF.out rfl
 clear hsb
 have hR:=zH (HE1.out rfl)
 obtain ⟨hg0,hg1⟩:=HRV.out rfl
 obtain ⟨G,rfl⟩:=Int.eq_ofNat_of_zero_le hg0
 have hG32:G<32:=by
  have hn5:=hF.n5
  rw [hF.n,Int.toNat_natCast] at hg1
  have:=Nat.pow_le_pow_right (n:=2) (show 0<2 by omega) hn5
  have h2:((2^N:Nat):Int)=(2:Int)^N:=by push_cast;rfl
  omega
 have HC:=zH (HNB.out K N G hF hG32 w2 HS2.out w.heap.size (w.heap.size+1) HD.out HD1.out)
 have hkl:=HKL.out K G hF.k
 rw [←hkl] at HC
 obtain ⟨p0,p1,p2,p3,p4,p5,p6,p7,p8,p9⟩:=zA HD.out
 clear HE0 HE1 HD HD1 HVF HRV HNB HKL HS2 hF hkl hg0 hg1
 go_wp2_with fail
 all_goals first | (exfalso;omega) | skip
 refine HC.out.mono ?_
 rintro e w3 ⟨v,rfl,ho,_,hw3⟩
 have HO:=zH ho
 have hb3:=gh hw3
 have HB3:=zH (HB2.out.trans (hb3.mono HB2.out.size))
 clear ho hw3 hb3 HC p0 p1 p2 p3 p4 p5 p6 p7 p8 p9
 obtain ⟨A6,k6,rfl,_,_,_⟩:=HO.out.form
 go_wp2_with fail
 go_ret2
 rw [hR.out]
 exact ⟨A6,k6,rfl,HO.out.low HB2.out.size,HB3.out⟩
end
section
open Go.RowKit Go.Shelf
attribute [local go_sem] Oper.semAt_some
def kG (bs:List Bool):Nat→List Int
 | 0=>[]
 | k+1=>if bs.getD k false=true then kG bs k++[(k:Int)] else kG bs k
theorem truK_len (bs:List Bool) (k:Nat):(kG bs k).length≤k:=by
 induction k with
 | zero=>simp [kG]
 | succ k ih=>
  rw [kG]
  split
  · rw [List.length_append,List.length_singleton];omega
  · omega
set_option maxRecDepth 100000 in
theorem Xa (bs:List Bool) (hn:bs.length≤1000) (A:Option Addr) (c:Nat) (w:World) (hA:BAt w w.heap.size A bs) :
  Calls Tryz.prog 28 #[.slice A bs.length c] w fun e w'=>∃v,e=.returned v∧Own w' w.heap.size v (kG bs bs.length)∧Below w.heap.size w w':=by
 have HA:=zH hA
 obtain ⟨n,hnn⟩:∃n,bs.length=n:=⟨_,rfl⟩
 have HN:=zH hnn
 rw [hnn] at hn ⊢
 clear hA hnn
 go_enter Tryz.func28,Tryz.ntmps28
 go_wp2_with fail
 go_loopw [3,8] (fun v i wr=>∃(k:Nat) (P:Option Addr) (cc:Nat),k≤n∧i=.int .i64 (k:Int)∧v=.slice P (kG bs k).length cc∧Hid (Own wr w.heap.size (.slice P (kG bs k).length cc) (kG bs k))∧Hid (Below w.heap.size w wr)) (fun _ i _=>n-(intOf i).toNat)
 case atStart=>exact ⟨0,none,0,by omega,rfl,rfl,Own.nil _ _,Below.refl _ _⟩
 case round=>
  obtain ⟨k,P,cc,hk,rfl,rfl,hO,hB⟩:=hrel
  by_cases hkn:k<n
  · obtain ⟨b,hb⟩:∃b,bs.getD k false=b:=⟨_,rfl⟩
    have HS:Hid (kG bs (k+1)=if b=true then kG bs k++[(k:Int)] else kG bs k):=by rw [←hb];exact rfl
    obtain ⟨ba,oa,rfl,hba,hc⟩:=(HA.out.keep hB.out) (by have h9:bs.length=n:=HN.out;omega)
    have hcl:=hc k (by rw [HN.out];exact hkn)
    have hbk:bs[k]'(by rw [HN.out];exact hkn)=b:=by rw [←hb,List.getD_eq_getElem?_getD,List.getElem?_eq_getElem (by rw [HN.out];exact hkn)];rfl
    rw [hbk] at hcl
    have hk0:(0:Int)≤(k:Int):=by omega
    have hk1:(k:Int)<(n:Int):=by omega
    clear hb hc hbk
    cases b
    · have hE:kG bs (k+1)=kG bs k:=by rw [HS.out];simp
      rw [←hE] at hO ⊢
      clear HS hE
      go_wp2_with fail
      go_roundw
      case rel=>exact ⟨k+1,P,cc,by omega,by go_num,rfl,hO,hB⟩
      case measure=>simp [intOf];omega
    · have HE:Hid (kG bs (k+1)=kG bs k++[(k:Int)]):=by rw [HS.out];exact if_pos rfl
      have hl:=truK_len bs k
      obtain ⟨xs,hxs⟩:∃xs,kG bs k=xs:=⟨_,rfl⟩
      rw [hxs] at hO HE hl ⊢
      have HSZ:=zH hB.out.size
      clear HS hxs
      go_wp2_with (at_builtin;go_must (refine yC jv rfl _ _ (by rfl) w.heap.size (.slice P xs.length cc) xs.length (xs.map (Value.int .i64)) (by rfl) (World.ownsRow.alloc hO.out _) wr.heap.size #[.int .i64 (k:Int)] (by rfl) (zu wr _) rfl (by simp [Value.oneCell']) (by omega) (by have hq:=HSZ.out;simp;omega) _ rfl ?_);intro g' cap' w4 hr4 hg4 hat4 hlt4;have HG4:=zH hg4;have HR4:=zH hr4;clear hr4 hg4 hat4)
      have hB4:Hid (Below w.heap.size w w4):=hB.out.trans (Below.grown (Below.refl _ _) (yN HG4.out) HSZ.out (fun r e=>(hO.out.lt r e).1))
      have hown:Hid (Own w4 w.heap.size (.slice (some ⟨g',0,none⟩) (kG bs (k+1)).length cap') (kG bs (k+1))):=by
       have h4:=HR4.out
       unfold OwnR at h4
       show Own w4 _ _ _
       unfold Own
       rw [HE.out,List.length_append,List.length_singleton,show (xs++[(k:Int)]).map (Value.int .i64)=xs.map (Value.int .i64)++(#[Value.int .i64 (k:Int)]).toList by simp]
       exact h4
      have hlen:(kG bs (k+1)).length=xs.length+1:=by rw [HE.out];simp
      rw [←hlen]
      clear hO HE HR4
      go_wp2_with fail
      go_roundw
      case rel=>exact ⟨k+1,_,_,by omega,by go_num,rfl,hown,hB4⟩
      case measure=>simp [intOf];omega
  · obtain rfl:n=k:=by omega
    go_wp2_with fail
    go_ret
    exact ⟨_,rfl,hO.out,hB.out⟩
end
section
def ex6A:List Int:=[0,1,0,2,0,1,0,3]
def ex6B:List Int:=[0,1,0,1,2,3,2,3]
def Jw:List Int:=[0,1,0,2,3,4,3,5]
def ex6F:Fm:=.mk ⟨3,0,1,0,0⟩ []
def ex6G:Fm:=.mk ⟨1,1,0,1,0⟩ []
def ex6H:List Bool:=[false,false,false,true,false,false,false,true]
def ex6I:List Bool:=[false,false,false,false,true,true,true,true]
theorem ex6_cnt:cntE yA=(8,0):=by
 have h:cntE yA=if yn yA≠0 then (0,yn yA) else ((ptn yA:Int),0):=rfl
 rw [h,jx,Yw.2.2];rfl
theorem ex6_plc:Z1 yA 5=((2,1),0):=by
 unfold Z1
 rw [jx,Yw.2.2,exs_p]
 decide +kernel
theorem ex6_clsA:Y0 yA 0=(ex6A,0):=by
 unfold Y0
 rw [jx,Zs.2,show ((0:Int)).toNat=0 from rfl,Zt.1]
 rfl
theorem ex6_clsB:Y0 yA 1=(ex6B,0):=by
 unfold Y0
 rw [jx,Zs.2,show ((1:Int)).toNat=1 from rfl,Zt.2]
 rfl
theorem ex6_tog:ZD yA 3=(Jw,0):=by
 unfold ZD
 rw [Ju.1]
 have h:kd yA 3=Jw:=by decide +kernel
 rw [h];rfl
theorem ex6_atmF:jD yA [] 0 ex6F=(ex6H,0):=by
 unfold jD
 rw [jx]
 have h:qr yA [] ex6F.h=ex6H:=by decide +kernel
 have h2:kO yA.n 0 ex6F=0:=by rw [Zs.2];decide +kernel
 rw [h,h2];rfl
theorem ex6_atmG:jD yA [] 0 ex6G=(ex6I,0):=by
 unfold jD
 rw [jx]
 have h:qr yA [] ex6G.h=ex6I:=by decide +kernel
 have h2:kO yA.n 0 ex6G=0:=by rw [Zs.2];decide +kernel
 rw [h,h2];rfl
theorem ex6_truH:kG ex6H 8=[3,7]:=by decide
theorem ex6_truI:kG ex6I 8=[4,5,6,7]:=by decide
end
section
open Go.RowKit Go.Shelf
attribute [local go_sem] Oper.semAt_some
theorem Zf (a b c:Int) (w:World):Calls Tryz.prog 89 #[.int .i64 a,.int .i64 b,.int .i64 c] w fun e w'=>e=.returned (.bool (decide (b≤a∧a≤c)))∧w'=w:=by
 have hd:∀x:Bool,x=decide (b≤a∧a≤c)→Ending.returned (.bool x)=.returned (.bool (decide (b≤a∧a≤c))):=fun x h=>by rw [h]
 go_enter Tryz.func89,Tryz.ntmps89
 by_cases h1:b≤a
 · by_cases h2:a≤c
   · have e:decide (b≤a∧a≤c)=true:=by simp [h1,h2]
     rw [e]
     clear hd e
     go_wp2_with fail
     go_ret
     exact ⟨rfl,rfl⟩
   · have e:decide (b≤a∧a≤c)=false:=by simp [h2]
     rw [e]
     clear hd e
     go_wp2_with fail
     go_ret
     exact ⟨rfl,rfl⟩
 · have e:decide (b≤a∧a≤c)=false:=by simp [h1]
   rw [e]
   clear hd e
   go_wp2_with fail
   go_ret
   exact ⟨rfl,rfl⟩
theorem JU (n d:Nat) (w:World):Calls Tryz.prog 90 #[.int .i64 (n:Int),.int .i64 (d:Int)] w fun e w'=>e=.returned (.int .i64 (jl (n,d)))∧w'=w:=by
 by_cases h1:128<n
 · have e:jl (n,d)=5:=if_pos h1
   have e1:(128:Int)<(n:Int):=by omega
   rw [e]
   go_enter Tryz.func90,Tryz.ntmps90
   go_wp2_with fail
   go_ret
   exact ⟨rfl,rfl⟩
 by_cases h2:24<d
 · have e:jl (n,d)=12:=by unfold jl;rw [if_neg h1,if_pos h2]
   have e1:¬(128:Int)<(n:Int):=by omega
   have e2:(24:Int)<(d:Int):=by omega
   rw [e]
   go_enter Tryz.func90,Tryz.ntmps90
   go_wp2_with fail
   go_ret
   exact ⟨rfl,rfl⟩
 · have e:jl (n,d)=0:=by unfold jl;rw [if_neg h1,if_neg h2]
   have e1:¬(128:Int)<(n:Int):=by omega
   have e2:¬(24:Int)<(d:Int):=by omega
   rw [e]
   go_enter Tryz.func90,Tryz.ntmps90
   go_wp2_with fail
   go_ret
   exact ⟨rfl,rfl⟩
set_option maxRecDepth 100000 in
theorem Yp (f:Fm) (R:Fm→Nat×Nat) (A:Option Addr) (c:Nat) (w:World) (hl:f.args.length≤1000000) (hb:(yi R f.args).1≤1000000∧(yi R f.args).2≤1000000)
  (hrec:RecAt w A f.args fun cs x X=>Calls Tryz.prog 91 #[.agg cs] X fun e w'=>e=.returned (.tuple #[.int .i64 ((R x).1:Int),.int .i64 ((R x).2:Int)])∧Below X.heap.size X w') :
  Calls Tryz.prog 91 #[.agg (f.vs A c)] w fun e w'=>e=.returned (.tuple #[.int .i64 ((yi R f.args).1:Int),.int .i64 (((yi R f.args).2+1:Nat):Int)])∧Below w.heap.size w w':=by
 obtain ⟨w1,hw1,d0,hs1,hB⟩:=zm w (f.vs A c) 41
 have HREC:=zH hrec
 have HTK:=zH (fun k=>vj R f.args k)
 have HSN:=zH (fun k (h:k<f.args.length)=>(by rw [List.take_succ_eq_append_getElem h,vm]:yi R (f.args.take (k+1))=((yi R (f.args.take k)).1+(R f.args[k]).1,max (yi R (f.args.take k)).2 (R f.args[k]).2)))
 have HEND:Hid (yi R (f.args.take f.args.length)=yi R f.args):=by rw [Hid,List.take_length]
 have HHB:=zH hb
 unfold Fm.vs at hw1 d0 HREC ⊢
 obtain ⟨l,hll⟩:∃l,f.args=l:=⟨_,rfl⟩
 rw [hll] at hw1 d0 HREC HTK HSN HEND HHB hl ⊢
 obtain ⟨T,hT⟩:∃T,yi R l=T:=⟨_,rfl⟩
 rw [hT] at HTK HEND HHB ⊢
 obtain ⟨n,hn⟩:∃n,l.length=n:=⟨_,rfl⟩
 have HN:=zH hn
 rw [hn] at hw1 d0 HEND hl ⊢
 have HW1:=zH hw1
 have HB:=zH hB
 have p0:=zh d0 0 rfl
 have p1:=zh d0 1 rfl
 have p2:=zh d0 2 rfl
 have p3:=zh d0 3 rfl
 have p4:=zh d0 4 rfl
 have p5:=zh d0 5 rfl
 clear hw1 d0 hB hrec hb hll hT hn
 go_enter Tryz.func91,Tryz.ntmps91
 go_wp2_with fail
 rw [HW1.out]
 go_wp2_with fail
 go_loopw [4,5,13] (fun a b i wr=>∃k:Nat,k≤n∧i=.int .i64 (k:Int)∧a=.int .i64 ((yi R (l.take k)).1:Int)∧b=.int .i64 ((yi R (l.take k)).2:Int)∧Hid (Below w1.heap.size w1 wr)) (fun _ _ i _=>n-(intOf i).toNat)
 case atStart=>exact ⟨0,by omega,rfl,rfl,rfl,Below.refl _ _⟩
 case round=>
  obtain ⟨k,hk,rfl,rfl,rfl,hbr⟩:=hrel
  clear p0 p1 p2 p3 p4 p5 HW1
  obtain ⟨a,ha⟩:∃a,(yi R (l.take k)).1=a:=⟨_,rfl⟩
  obtain ⟨b,hb⟩:∃b,(yi R (l.take k)).2=b:=⟨_,rfl⟩
  have ha6:a≤1000000∧b≤1000000:=by
   have h1:=HTK.out k
   have h2:=HHB.out
   omega
  by_cases hlt:k<n
  · have hkl:k<l.length:=by have:=HN.out;omega
    have hsn:=HSN.out k hkl
    have htk:=HTK.out (k+1)
    obtain ⟨bb,o,A',c',eA,hbb,hcell,hcall⟩:=HREC.out k hkl
    subst eA
    obtain ⟨x,hx⟩:∃x,l[k]=x:=⟨_,rfl⟩
    rw [hx] at hcell hcall hsn
    obtain ⟨Rx,hRx⟩:∃Rx,R x=Rx:=⟨_,rfl⟩
    dsimp only at hcall
    rw [hRx] at hcall hsn
    rw [ha,hb] at hsn
    have hE1:(yi R (l.take (k+1))).1=a+Rx.1:=by rw [hsn]
    have hE2:(yi R (l.take (k+1))).2=max b Rx.2:=by rw [hsn]
    have HE1:=zH hE1
    have HE2:=zH hE2
    have hs6:a+Rx.1≤1000000∧max b Rx.2≤1000000:=by
     have h2:=HHB.out
     omega
    obtain ⟨xh,xl⟩:=x
    obtain ⟨h0,h1,h2,h3,h4⟩:=xh
    have hc:∀j v,#[Value.int .i64 h0,.int .i64 h1,.int .i64 h2,.int .i64 h3,.int .i64 h4,.slice A' xl.length c'][j]?=some v→wr.cell? ⟨bb,o+k*6+j,none⟩=some v:=hcell wr (HB.out.trans (hbr.out.mono (by have:=HB.out.size;omega)))
    have z0:wr.cell? ⟨bb,o+k*6,none⟩=some (.int .i64 h0):=hc 0 _ rfl
    have z1:wr.cell? ⟨bb,o+k*6+1,none⟩=some (.int .i64 h1):=hc 1 _ rfl
    have z2:wr.cell? ⟨bb,o+k*6+2,none⟩=some (.int .i64 h2):=hc 2 _ rfl
    have z3:wr.cell? ⟨bb,o+k*6+3,none⟩=some (.int .i64 h3):=hc 3 _ rfl
    have z4:wr.cell? ⟨bb,o+k*6+4,none⟩=some (.int .i64 h4):=hc 4 _ rfl
    have z5:wr.cell? ⟨bb,o+k*6+5,none⟩=some (.slice A' xl.length c'):=hc 5 _ rfl
    have hk0:(0:Int)≤(k:Int):=by omega
    have hk1:(k:Int)<(n:Int):=by omega
    have hbw:bb<wr.heap.size:=by have:=hbr.out.size;have:=HB.out.size;omega
    have HC:=zH hcall
    have HHR:=zH hbr.out
    simp only [Fm.vs,Fm.args,Fm.h] at HC
    clear hcell hcall hx hRx hsn htk hE1 hE2 hc hbr
    go_upto_region 5 with fail
    obtain ⟨W2,hW2,d2,hs2,hb2⟩:=zm wr #[.int .i64 h0,.int .i64 h1,.int .i64 h2,.int .i64 h3,.int .i64 h4,.slice A' xl.length c'] 41
    rw [hW2]
    have hbs:=HB.out.size
    have HB2:=zH (HHR.out.trans (hb2.mono HHR.out.size))
    have HC2:=zH (HC.out W2 (HB.out.trans (HB2.out.mono hbs)))
    have y0:=zh d2 0 rfl
    have y1:=zh d2 1 rfl
    have y2:=zh d2 2 rfl
    have y3:=zh d2 3 rfl
    have y4:=zh d2 4 rfl
    have y5:=zh d2 5 rfl
    clear hW2 d2 hb2 z0 z1 z2 z3 z4 z5 HC
    obtain ⟨r1,r2⟩:=Rx
    dsimp only at HC2 HE1 HE2 hs6
    go_wp2_with fail
    refine HC2.out.mono ?_
    rintro e w3 ⟨rfl,hb3⟩
    have HB3:=zH (HB2.out.trans (hb3.mono HB2.out.size))
    have hw1:IntKind.i64.wrap ((a:Int)+(r1:Int))=((a+r1:Nat):Int):=by rw [IntKind.wrap_i64];omega
    have hmx:max (b:Int) (r2:Int)=((max b r2:Nat):Int):=by omega
    clear hb3 HC2 y0 y1 y2 y3 y4 y5
    go_wp2_with fail
    go_roundw
    case rel=>exact ⟨k+1,by omega,by go_num,by first | (rw [HE1.out];done) | (rw [HE1.out];go_num),by first | (rw [HE2.out];done) | (rw [HE2.out];go_num),HB3⟩
    case measure=>simp [intOf];omega
  · obtain rfl:k=n:=by omega
    have h1:Hid (a=T.1):=by rw [Hid,←ha,HEND.out]
    have h2:Hid (b=T.2):=by rw [Hid,←hb,HEND.out]
    have hBF:=zH (HB.out.trans (hbr.out.mono (by have:=HB.out.size;omega)))
    have hw1:IntKind.i64.wrap ((b:Int)+1)=((b+1:Nat):Int):=by rw [IntKind.wrap_i64];omega
    clear HTK HSN HEND HHB HREC
    go_wp2_with fail
    go_ret2
    refine ⟨?_,hBF.out⟩
    show Ending.returned (.tuple #[.int .i64 ((yi R (l.take k)).1:Int),.int .i64 ((b:Int)+1)])=_
    rw [←h1.out,←h2.out,ha];rfl
theorem Xr:∀(d:Nat) (f:Fm) (A:Option Addr) (c:Nat) (w:World),FsAt w w.heap.size d A f.args→(yx d f).1≤1000000 →
  Calls Tryz.prog 91 #[.agg (f.vs A c)] w fun e w'=>e=.returned (.tuple #[.int .i64 ((yx d f).1:Int),.int .i64 ((yx d f).2:Int)])∧Below w.heap.size w w'
 | 0,f,A,c,w,hA,hb=>by
  have h0:f.args=[]:=hA
  exact Yp f (fun _=>(0,0)) A c w (by rw [h0];decide) (by rw [h0];decide) (RecAt.none hA)
 | d+1,f,A,c,w,hA,hb=>by
  have h1:(yi (yx d) f.args).1≤1000000:=hb
  have h2:(yi (yx d) f.args).2+1≤(yi (yx d) f.args).1:=vp (d+1) f
  have h3:=vn (yx d) (jL d) f.args
  refine Yp f (yx d) A c w (by omega) (by omega) (RecAt.of hA fun x A' c' X hx hX=>Xr d x A' c' X hX ?_)
  exact Nat.le_trans (uC (yx d) hx) h1
end
end Go.Proofs.YtiookelkkekbeaaGreat
