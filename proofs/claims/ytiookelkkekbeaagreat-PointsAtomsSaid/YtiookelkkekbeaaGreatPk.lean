/- Parts AtrC OpenF LwAtm. -/
import Derived.Test.YtiookelkkekbeaaGreatProg
import Derived.Test.YtiookelkkekbeaaGreatPf
import Derived.Test.YtiookelkkekbeaaGreatPh
import Derived.Deep.QuietTactic
import Derived.BigQuiet
import Derived.Test.YtiookelkkekbeaaGreatPg
import Derived.Test.YtiookelkkekbeaaGreatPj

namespace Go.Proofs.YtiookelkkekbeaaGreat
set_option maxHeartbeats 4000000
section
open Go.RowKit Go.Shelf
attribute [local go_sem] Oper.semAt_some
theorem rfewR_any (AR:Option Addr) (n cr:Nat) (w:World):Calls Tryz.prog 7 #[.agg #[.slice AR n cr]] w fun e w'=>e=.returned (.bool (decide (n≤2000)))∧Below w.heap.size w w':=by
 obtain ⟨w1,hw1,d0,hs1,hB⟩:=zm w #[.slice AR n cr] 38
 have hd:decide ((n:Int)≤2000)=decide (n≤2000):=decide_eq_decide.2 (by omega)
 have HD:=zH hd
 have HW1:=zH hw1
 have HB:=zH hB
 have r0:=zh d0 0 rfl
 clear hw1 d0 hB hd
 go_enter Tryz.func7,Tryz.ntmps7
 go_wp2_with fail
 rw [HW1.out]
 go_wp2_with fail
 go_ret
 rw [←HD.out]
 exact ⟨rfl,HB.out⟩
set_option maxRecDepth 100000 in
theorem J4 (A B:Option Addr) (ca cb:Nat) (a b:List Bool) (hl:a.length≤100000) (w:World) (hA:BAt w w.heap.size A a) (hB:BAt w w.heap.size B b) :
  Calls Tryz.prog 12 #[.slice A a.length ca,.slice B b.length cb] w fun e w'=>e=.returned (.bool (decide (a=b)))∧Below w.heap.size w w':=by
 obtain ⟨n,hn⟩:∃n,a.length=n:=⟨_,rfl⟩
 obtain ⟨m,hm⟩:∃m,b.length=m:=⟨_,rfl⟩
 have HA:=zH hA
 have HB:=zH hB
 have HN:=zH hn
 have HM:=zH hm
 rw [hn,hm]
 rw [hn] at hl
 obtain ⟨E,hE⟩:∃E,decide (a=b)=E:=⟨_,rfl⟩
 have HE:=zH hE.symm
 rw [hE]
 clear hA hB hn hm hE
 go_enter Tryz.func12,Tryz.ntmps12
 by_cases hnm:n=m
 case neg=>
  have e0:((n:Int) != (m:Int))=true:=by simpa using (by omega:¬(n:Int)=(m:Int))
  have hEE:Hid (E=false):=by
   rw [Hid,HE.out]
   exact decide_eq_false fun h=>hnm (by rw [←HN.out,←HM.out,h])
  go_wp2_with fail
  go_ret
  rw [hEE.out]
  exact ⟨rfl,Below.refl _ _⟩
 subst hnm
 have e0:((n:Int) != (n:Int))=false:=by simp
 go_wp2_with fail
 go_loopw [5] (fun i wr=>∃k:Nat,k≤n∧i=.int .i64 (k:Int)∧Hid (∀j (h1:j<a.length) (h2:j<b.length),j<k→a[j]=b[j])∧Hid (Below w.heap.size w wr)) (fun i _=>n-(intOf i).toNat)
 case atStart=>exact ⟨0,by omega,rfl,fun j _ _ h=>absurd h (by omega),Below.refl _ _⟩
 case round=>
  obtain ⟨k,hk,rfl,hs,hbr⟩:=hrel
  by_cases hlt:k<n
  · have hka:k<a.length:=by rw [HN.out];exact hlt
    have hkb:k<b.length:=by rw [HM.out];exact hlt
    obtain ⟨b1,o1,rfl,hb1,z1⟩:=((HA.out.keep hbr.out).more hbr.out.size).at_ k hka
    obtain ⟨b2,o2,rfl,hb2,z2⟩:=((HB.out.keep hbr.out).more hbr.out.size).at_ k hkb
    obtain ⟨x,hx⟩:∃x,a[k]'hka=x:=⟨_,rfl⟩
    obtain ⟨y,hy⟩:∃y,b[k]'hkb=y:=⟨_,rfl⟩
    rw [hx] at z1
    rw [hy] at z2
    have hk0:(0:Int)≤(k:Int):=by omega
    have hk1:(k:Int)<(n:Int):=by omega
    have hwk:IntKind.i64.wrap ((k:Int)+1)=((k+1:Nat):Int):=by rw [IntKind.wrap_i64];omega
    by_cases hxy:x=y
    · subst hxy
      have e1:(x != x)=false:=by simp
      have hs2:Hid (∀j (h1:j<a.length) (h2:j<b.length),j<k+1→a[j]=b[j]):=fun j h1 h2 h3=>by
       by_cases e:j=k
       · subst e;rw [hx,hy]
       · exact hs.out j h1 h2 (by omega)
      clear hx hy hs hka hkb
      go_wp2_with fail
      go_quiet (fail)
      go_wp2_with fail
      go_roundw
      case rel=>exact ⟨k+1,by omega,by go_num,hs2,zR hbr.out _⟩
      case measure=>simp [intOf];omega
    · have e1:(x != y)=true:=by simpa using hxy
      have e2:(x==y)=false:=by simpa using hxy
      have e3:(!x==y)=true:=by rw [show (x==y)=false from e2];rfl
      have hEE:Hid (E=false):=by
       rw [Hid,HE.out]
       refine decide_eq_false fun h=>hxy ?_
       rw [←hx,←hy]
       subst h;rfl
      clear hx hy hs hka hkb hxy
      go_wp2_with fail
      go_quiet (fail)
      go_wp2_with fail
      go_ret
      rw [hEE.out]
      exact ⟨rfl,by first | exact hbr.out | exact zR hbr.out _⟩
  · obtain rfl:k=n:=by omega
    have hk1:¬(k:Int)<(k:Int):=by omega
    have hEE:Hid (E=true):=by
     rw [Hid,HE.out]
     refine decide_eq_true (List.ext_getElem (by rw [HN.out,HM.out]) fun j h1 h2=>hs.out j h1 h2 (by rw [←HN.out];exact h1))
    clear hs
    go_wp2_with fail
    go_ret
    rw [hEE.out]
    exact ⟨rfl,hbr.out⟩
end
section
open Go.ChangeShapes Go.WideShapes Go.ChangeAt Go.RowKit Go.Deep
theorem FsAt.deep:∀ {d:Nat} {w:World} {B:Nat} {A:Option Addr} {l:List Fm},FsAt w B d A l→FsAt w B (d+1) A l
 | 0,_,_,_,l,h=>fun h0=>by
  have e:l=[]:=h
  rw [e] at h0;cases h0
 | d+1,w,B,A,l,h=>fun h0=>by
  obtain ⟨b,o,e,hlt,hr⟩:=h h0
  refine ⟨b,o,e,hlt,fun i hi=>?_⟩
  obtain ⟨A',c',h1,h2⟩:=hr i hi
  exact ⟨A',c',h1,FsAt.deep h2⟩
theorem FsAt.deeper {d d':Nat} {w:World} {B:Nat} {A:Option Addr} {l:List Fm} (h:FsAt w B d A l) (hd:d≤d'):FsAt w B d' A l:=by
 induction d' with
 | zero=>have:d=0:=(by omega);subst this;exact h
 | succ k ih=>
  by_cases e:d=k+1
  · subst e;exact h
  · exact (ih (by omega)).deep
section
variable {H:Type} {enc:TypeId×Value→H} {P:Program} {W:World} {base:Nat} {spare:Nat→Bool} {held:Bool}
theorem open_rowsS {α:Type} [Inhabited α] {t e:TypeId} {fuel:Nat} {cs:List Value} {x:DataW H×List MemPlace} {s:Nat} (L:List Value→α→Prop) (ht:P.underlying t=some (.slice e)) (hs:P.cellsOf e=s) (h1:0<s)
  (rd:∀(m:Nat) (cs:List Value) (y:DataW H×List MemPlace),DataW.trod enc P W base spare held m e cs=some y→xy P e y.1→SizeOf.sizeOf y.1<SizeOf.sizeOf x.1→∃a,L cs a)
  (h:DataW.trod enc P W base spare held fuel t cs=some x) (hw:xy P t x.1) :
  ∃(A:Option Addr) (us0:List α) (cap:Nat),cs=[.slice A us0.length cap]∧us0.length*P.bytesOf e≤reachBytes ∧
   (0<us0.length→∃b off,A=some ⟨b,off,none⟩∧b<W.heap.size∧∀(i:Nat) (hi:i<us0.length),∃cs,L cs us0[i]∧∀(k:Nat) (y:Value),cs[k]?=some y→W.cell? ⟨b,off+i*s+k,none⟩=some y):=by
 rcases open_slice ht h with ⟨rfl,_⟩ | ⟨a,len,cap,m,n',D,Pl,rfl,_,hlc,hcm,hm,hx1,hi⟩
 · exact ⟨none,[],0,rfl,by simp,fun h=>absurd h (by simp)⟩
 · have hlm:len≤m:=by rw [hm];split<;>omega
   rw [hx1] at hw rd
   obtain ⟨hb,hall⟩:=Yr ht hw
   have hel:∀i,i<len→∃(a':α) (cs:List Value),cs.length=s∧L cs a'∧∀(k:Nat) (y:Value),cs[k]?=some y→W.cell? (a.add (i*s+k))=some y:=fun i hlt=>by
    obtain ⟨cs',hc,ht'⟩:=hi i (by omega)
    rw [hs] at hc
    obtain ⟨_,hcl,hat⟩:=World.cells?_some hc
    have hmem:D i∈(List.range len).map D:=List.mem_map.2 ⟨i,List.mem_range.2 hlt,rfl⟩
    have hsz:=List.sizeOf_lt_of_mem hmem
    obtain ⟨u,hu⟩:=rd _ _ _ ht' (hall _ hmem) (by simp only [DataW.slice.sizeOf_spec];omega)
    refine ⟨u,cs',hcl,hu,fun k y hk=>?_⟩
    have hk':k<s:=by rw [←hcl];exact (List.getElem?_eq_some_iff.1 hk).1
    rw [←Go.Deep.add_add,hat k hk',hk]
   obtain ⟨us0,hal,has⟩:∃us0:List α,us0.length=len∧∀i (hi:i<us0.length),∃cs:List Value,cs.length=s∧L cs us0[i]∧∀(k:Nat) (y:Value),cs[k]?=some y→W.cell? (a.add (i*s+k))=some y:=by
    refine ⟨(List.range len).map fun i=>if h:i<len then Classical.choose (hel i h) else default,by simp,fun i hi=>?_⟩
    have hi':i<len:=by simpa using hi
    simp only [List.getElem_map,List.getElem_range,hi',dite_true]
    exact Classical.choose_spec (hel i hi')
   subst hal
   have hb':us0.length*P.bytesOf e≤reachBytes:=by simpa using hb
   refine ⟨some a,us0,cap,rfl,hb',fun h0=>?_⟩
   obtain ⟨c0,hl0,_,hc0⟩:=has 0 h0
   have h00:=hc0 0 _ (List.getElem?_eq_getElem (by omega))
   obtain ⟨b,off,spot⟩:=a
   have hspot:spot=none:=by simpa [Addr.add] using World.cell?_spot h00
   subst hspot
   refine ⟨b,off,rfl,?_,fun i hi=>?_⟩
   · have:=World.block_lt_of_cell? W _ h00
     simpa [Addr.add] using this
   · obtain ⟨c1,_,hL,hc1⟩:=has i hi
     refine ⟨c1,hL,fun k y hk=>?_⟩
     have:=hc1 k y hk
     rw [add_plain] at this
     rw [←Nat.add_assoc] at this
     exact this
end
section
variable {H:Type} {enc:TypeId×Value→H} {W:World} {base:Nat} {spare:Nat→Bool} {held:Bool}
theorem cellsFm:Tryz.prog.cellsOf 41=6:=by kernel_rfl
theorem jh:Tryz.prog.cellsOf 39=1:=by kernel_rfl
theorem bytesFm:Tryz.prog.bytesOf 41=64:=by kernel_rfl
theorem cellsRu:Tryz.prog.cellsOf 38=1:=by kernel_rfl
set_option maxRecDepth 100000 in
theorem ZX:∀(k m:Nat) (cs:List Value) (y:DataW H×List MemPlace),SizeOf.sizeOf y.1<k→DataW.trod enc Tryz.prog W base spare held m 41 cs=some y→xy Tryz.prog 41 y.1 →
  ∃(f:Fm) (d:Nat) (A:Option Addr) (c:Nat),cs=(f.vs A c).toList∧f.args.length≤17592186044416∧FsAt W W.heap.size d A f.args
 | 0,_,_,_,hk,_,_=>absurd hk (by omega)
 | k+1,m,cs,y,hk,h,hw=>by
  obtain ⟨xs,n,rfl,hx,hl,hxl,hfd⟩:=DataW.trod_struct Tryz.underlying41 h
  have hd:y.1=.agg (xs.map (·.1)):=congrArg Prod.fst hx
  rw [hd] at hw hk
  rw [cellsFm] at hl
  have hxl6:xs.length=6:=hxl
  match cs,hl with
  | [c0,c1,c2,c3,c4,c5],_=>
   have f0:=hfd 0 _ rfl
   have f1:=hfd 1 _ rfl
   have f2:=hfd 2 _ rfl
   have f3:=hfd 3 _ rfl
   have f4:=hfd 4 _ rfl
   have f5:=hfd 5 _ rfl
   obtain ⟨x0,x1,x2,x3,x4,x5,rfl⟩:∃x0 x1 x2 x3 x4 x5,xs=[x0,x1,x2,x3,x4,x5]:=by
    match xs,hxl6 with
    | [x0,x1,x2,x3,x4,x5],_=>exact ⟨x0,x1,x2,x3,x4,x5,rfl⟩
   have g0:DataW.trod enc Tryz.prog W base spare held n 3 [c0]=some x0:=by simpa [yt,jh] using f0
   have g1:DataW.trod enc Tryz.prog W base spare held n 3 [c1]=some x1:=by simpa [yt,jh] using f1
   have g2:DataW.trod enc Tryz.prog W base spare held n 3 [c2]=some x2:=by simpa [yt,jh] using f2
   have g3:DataW.trod enc Tryz.prog W base spare held n 3 [c3]=some x3:=by simpa [yt,jh] using f3
   have g4:DataW.trod enc Tryz.prog W base spare held n 3 [c4]=some x4:=by simpa [yt,jh] using f4
   have g5:DataW.trod enc Tryz.prog W base spare held n 39 [c5]=some x5:=by simpa [yt,jh] using f5
   have w5:xy Tryz.prog 39 x5.1:=yy Tryz.underlying41 hw (j:=5) rfl rfl
   obtain ⟨i0,e0,_⟩:=DataW.trod_int Tryz.underlying3 g0
   obtain ⟨i1,e1,_⟩:=DataW.trod_int Tryz.underlying3 g1
   obtain ⟨i2,e2,_⟩:=DataW.trod_int Tryz.underlying3 g2
   obtain ⟨i3,e3,_⟩:=DataW.trod_int Tryz.underlying3 g3
   obtain ⟨i4,e4,_⟩:=DataW.trod_int Tryz.underlying3 g4
   have hs5:SizeOf.sizeOf x5.1<k:=by
    have hm5:x5.1∈List.map (fun z:DataW H×List MemPlace=>z.1) [x0,x1,x2,x3,x4,x5]:=by simp
    have:=List.sizeOf_lt_of_mem hm5
    simp only [DataW.agg.sizeOf_spec] at hk
    omega
   obtain ⟨A,l,c,e5,hby,hA⟩:=open_rowsS (α:=Fm) (fun cs f=>∃(d:Nat) (A:Option Addr) (c:Nat),cs=(f.vs A c).toList∧FsAt W W.heap.size d A f.args) Tryz.underlying39 cellsFm (by decide)
    (fun m cs y h hw hsz=>by obtain ⟨f,d,A,c,e,_,h2⟩:=ZX k m cs y (by omega) h hw;exact ⟨f,d,A,c,e,h2⟩) g5 w5
   cases e0;cases e1;cases e2;cases e3;cases e4;cases e5
   have hlen:l.length≤17592186044416:=by rw [bytesFm] at hby;unfold reachBytes at hby;omega
   by_cases h0:0<l.length
   case neg=>
    have hnil:l=[]:=List.eq_nil_of_length_eq_zero (by omega)
    refine ⟨.mk ⟨i0,i1,i2,i3,i4⟩ l,0,A,c,rfl,hlen,?_⟩
    show l=[]
    exact hnil
   obtain ⟨b,off,eA,hb,hc⟩:=hA h0
   have key:∀q,q≤l.length→∃D,∀i (hi:i<l.length),i<q→∃A' c',(∀j v,(l[i].vs A' c')[j]?=some v→W.cell? ⟨b,off+i*6+j,none⟩=some v)∧FsAt W W.heap.size D A' l[i].args:=by
    intro q
    induction q with
    | zero=>exact fun _=>⟨0,fun i _ h=>absurd h (by omega)⟩
    | succ q ih=>
     intro hq
     obtain ⟨D,hD⟩:=ih (by omega)
     obtain ⟨cs1,⟨d1,A1,k1,rfl,h1⟩,h2⟩:=hc q (by omega)
     refine ⟨max D d1,fun i hi hiq=>?_⟩
     by_cases e:i=q
     · subst e
       exact ⟨A1,k1,fun j v hv=>h2 j v (by rw [Array.getElem?_toList];exact hv),h1.deeper (Nat.le_max_right _ _)⟩
     · obtain ⟨A',c',a1,a2⟩:=hD i hi (by omega)
       exact ⟨A',c',a1,a2.deeper (Nat.le_max_left _ _)⟩
   obtain ⟨D,hD⟩:=key l.length (Nat.le_refl _)
   refine ⟨.mk ⟨i0,i1,i2,i3,i4⟩ l,D+1,A,c,rfl,hlen,fun _=>⟨b,off,eA,hb,fun i hi=>?_⟩⟩
   obtain ⟨A',c',a1,a2⟩:=hD i hi hi
   exact ⟨A',c',a1,a2⟩
set_option maxRecDepth 100000 in
theorem Zi {b0:Nat} {v:Value} {d:DataW H} {ps:List MemPlace} (hv:Value.okWide Tryz.prog W .any b0 41 v) (h:DataW.Trod enc Tryz.prog W base spare held 41 v d ps) (hw:xy Tryz.prog 41 d) :
  ∃(f:Fm) (dd:Nat) (A:Option Addr) (c:Nat),v=.agg (f.vs A c)∧f.args.length≤17592186044416∧FsAt W W.heap.size dd A f.args:=by
 obtain ⟨cs,rfl,_⟩:=okWide_struct Tryz.underlying41 hv
 obtain ⟨fuel,hf⟩:=h
 obtain ⟨f,dd,A,c,e,hl,hA⟩:=ZX _ _ _ _ (Nat.lt_succ_self _) hf hw
 refine ⟨f,dd,A,c,?_,hl,hA⟩
 have e2:cs.toList=(f.vs A c).toList:=e
 rw [Array.toList_inj.1 e2]
set_option maxRecDepth 100000 in
theorem XY {b0:Nat} {v:Value} {d:DataW H} {ps:List MemPlace} (hv:Value.okWide Tryz.prog W .any b0 38 v) (h:DataW.Trod enc Tryz.prog W base spare held 38 v d ps) (hw:xy Tryz.prog 38 d) :
  ∃(AR:Option Addr) (out:List Int) (kr:Nat),v=.agg #[.slice AR out.length kr]∧out.length≤17592186044416∧IAt W W.heap.size AR out:=by
 obtain ⟨cs,rfl,_⟩:=okWide_struct Tryz.underlying38 hv
 obtain ⟨fuel,hf⟩:=h
 obtain ⟨xs,n,rfl,hx,hl,hxl,hfd⟩:=DataW.trod_struct Tryz.underlying38 hf
 have hd:d=.agg (xs.map (·.1)):=congrArg Prod.fst hx
 rw [hd] at hw
 rw [cellsRu] at hl
 have hxl1:xs.length=1:=hxl
 obtain ⟨cl⟩:=cs
 match cl,hl with
 | [c0],_=>
  have f0:=hfd 0 _ rfl
  obtain ⟨x0,rfl⟩:∃x0,xs=[x0]:=by
   match xs,hxl1 with
   | [x0],_=>exact ⟨x0,rfl⟩
  have g0:DataW.trod enc Tryz.prog W base spare held n 36 [c0]=some x0:=by simpa [Qk,Value.cells] using f0
  have w0:xy Tryz.prog 36 x0.1:=yy Tryz.underlying38 hw (j:=0) rfl rfl
  obtain ⟨AR,out,kr,e0,hb,hA⟩:=XP g0 w0
  cases e0
  exact ⟨AR,out,kr,rfl,hb,hA⟩
end
end
section
open Go.RowKit
attribute [local go_sem] Oper.semAt_some
theorem atm_lens {s:Sy} (hf:xY s.p) (out:List Int) (d:Nat) (f:Fm):(jD s out d f).1.length≤700:=by
 unfold jD
 split
 · simp
 · rename_i h
   split
   · simp
   · split
     · simp
     · split
       · simp
       · rw [YH]
         obtain ⟨_,K,N,hF⟩:=xq hf (by simpa using h)
         have hk:=hF.k
         have hk6:=hF.k6
         have:=Nat.mul_le_mul hF.lx (show s.p.k.toNat+1≤7 by omega)
         omega
set_option maxRecDepth 100000 in
theorem law_patoms (s:Sy) (hl:LowSy s) (A SV AV AX:Option Addr) (kc ks kv kx:Nat) (out:List Int) (_hlr:out.length≤17592186044416) (AR:Option Addr) (cr:Nat) (f:Fm) (d:Nat) (_hlf:f.args.length≤17592186044416) (AF:Option Addr) (cf:Nat) (w:World) (hS:SyAt w w.heap.size A SV AV AX s) (hO:IAt w w.heap.size AR out) (hA:FsAt w w.heap.size d AF f.args) :
  Calls Tryz.prog 3 #[.agg (s.vs_ A kc SV ks AV kv AX kx),.agg #[.slice AR out.length cr],.agg (f.vs AF cf)] w fun e w'=>e=.returned (.bool true)∧Below w.heap.size w w':=by
 obtain ⟨wa,hwa,da,hsa,hBa⟩:=zm w (s.vs_ A kc SV ks AV kv AX kx) 35
 obtain ⟨wb,hwb,db,hsb,hBb⟩:=zm wa #[.slice AR out.length cr] 38
 obtain ⟨w1,hw1,dc,hsc,hBc⟩:=zm wb (f.vs AF cf) 41
 have hB:Below w.heap.size w w1:=(hBa.trans (hBb.mono (by omega))).trans (hBc.mono (by omega))
 have da:w1.heap[w.heap.size]?=some (.cells (s.vs_ A kc SV ks AV kv AX kx) 35 (0,0)):=(hBc.block _ (by omega)).trans ((hBb.block _ (by omega)).trans da)
 have db:w1.heap[w.heap.size+1]?=some (.cells #[.slice AR out.length cr] 38 (0,0)):=by rw [←hsa];exact (hBc.block _ (by omega)).trans db
 have dc:w1.heap[w.heap.size+1+1]?=some (.cells (f.vs AF cf) 41 (0,0)):=by rw [←hsa,←hsb];exact dc
 have hz1:w1.heap.size=w.heap.size+3:=by omega
 have hUP:∀X,Below w1.heap.size w1 X→SyAt X X.heap.size A SV AV AX s∧IAt X X.heap.size AR out∧FsAt X X.heap.size d AF f.args:=fun X hX=>⟨(hS.up hB).up hX,(((hO.keep hB).more hB.size).keep hX).more hX.size,(((hA.keep hB).more hB.size).keep hX).more hX.size⟩
 have HF:=zH (fewS_any s hl A SV AV AX kc ks kv kx w1 (hS.up hB))
 have HFF:=zH (fun (X:World) (hX:Below w1.heap.size w1 X)=>QM d f AF cf X (hUP X hX).2.2)
 have HLN:=zH (fun (h:uY s=true)=>atm_lens (kw hl h).1 out d f)
 have C0:=zH (fun (h:uY s=true) (hz:(yx d f).1<140) (X:World) (hX:Below w1.heap.size w1 X)=>wj s (kw hl h).2.2.1 (kw hl h).1 out d f (by omega) A SV AV AX AF AR kc ks kv kx cf cr X (hUP X hX).1 (hUP X hX).2.1 (hUP X hX).2.2)
 have C1:=zH (fun (h:uY s=true) (hz:(yx d f).1<140) (X:World) (hX:Below w1.heap.size w1 X)=>ratom_any s (kw hl h).2.2.1 (kw hl h).1 out d f (by omega) A SV AV AX AR AF kc ks kv kx cr cf X (hUP X hX).1 (hUP X hX).2.1 (hUP X hX).2.2)
 obtain ⟨R,hR⟩:∃R,jD s out d f=R:=⟨_,rfl⟩
 rw [hR] at C0 C1 HLN
 obtain ⟨z,hz⟩:∃z,(yx d f).1=z:=⟨_,rfl⟩
 simp only [hz] at C0 C1 HFF
 obtain ⟨F,hF⟩:∃F,uY s=F:=⟨_,rfl⟩
 rw [hF] at HF C0 C1 HLN
 unfold YK at C0 C1
 unfold Sy.vs_ at hwa da HF C0 C1 ⊢
 unfold Fm.vs at hw1 dc HFF C0 C1 ⊢
 have HW1:Hid (((w.alloc (.cells #[.int .i64 s.p.t.n,.int .i64 s.p.t.ins,.int .i64 s.p.t.outs,.slice A s.p.t.cases.length kc,.int .i64 s.p.a.n,.slice SV s.p.a.sts.length ks,.int .i64 s.p.k,.int .i64 s.n,.slice AV s.vs.length kv,.slice AX s.xs.length kx] 35)).alloc (.cells #[.slice AR out.length cr] 38)).alloc (.cells #[.int .i64 f.h.op,.int .i64 f.h.p,.int .i64 f.h.o,.int .i64 f.h.v,.int .i64 f.h.g,.slice AF f.args.length cf] 41)=w1):=by rw [Hid,hwa,hwb,hw1]
 have HB:=zH hB
 have HBX:Hid (∀X,Below w1.heap.size w1 X→X.heap[w.heap.size]?=some (.cells #[.int .i64 s.p.t.n,.int .i64 s.p.t.ins,.int .i64 s.p.t.outs,.slice A s.p.t.cases.length kc,.int .i64 s.p.a.n,.slice SV s.p.a.sts.length ks,.int .i64 s.p.k,.int .i64 s.n,.slice AV s.vs.length kv,.slice AX s.xs.length kx] 35 (0,0))∧X.heap[w.heap.size+1]?=some (.cells #[.slice AR out.length cr] 38 (0,0))∧X.heap[w.heap.size+1+1]?=some (.cells #[.int .i64 f.h.op,.int .i64 f.h.p,.int .i64 f.h.o,.int .i64 f.h.v,.int .i64 f.h.g,.slice AF f.args.length cf] 41 (0,0))):=
  fun X hX=>⟨(hX.block _ (by omega)).trans da,(hX.block _ (by omega)).trans db,(hX.block _ (by omega)).trans dc⟩
 obtain ⟨p0,p1,p2,p3,p4,p5,p6,p7,p8,p9⟩:=zA ((HBX.out _ (Below.refl _ w1)).1)
 have r0:=zh (HBX.out _ (Below.refl _ w1)).2.1 0 rfl
 have f0:=zh ((HBX.out _ (Below.refl _ w1)).2.2) 0 rfl
 have f1:=zh ((HBX.out _ (Below.refl _ w1)).2.2) 1 rfl
 have f2:=zh ((HBX.out _ (Below.refl _ w1)).2.2) 2 rfl
 have f3:=zh ((HBX.out _ (Below.refl _ w1)).2.2) 3 rfl
 have f4:=zh ((HBX.out _ (Below.refl _ w1)).2.2) 4 rfl
 have f5:=zh ((HBX.out _ (Below.refl _ w1)).2.2) 5 rfl
 clear hwa hwb hw1 da db dc hsa hsb hsc hBa hBb hBc hB hS hO hA hUP hR hF hz hz1 hl
 go_enter Tryz.func3,Tryz.ntmps3
 go_wp2_with fail
 rw [HW1.out]
 go_wp2_with fail
 refine HF.out.mono ?_
 rintro e w2 ⟨rfl,hb2⟩
 have G2:=zH hb2
 clear hb2 HF HW1 p0 p1 p2 p3 p4 p5 p6 p7 p8 p9 r0 f0 f1 f2 f3 f4 f5
 cases F with
 | false=>
  clear C0 C1 HLN HFF
  go_wp2_with fail
  refine (xe w2).mono ?_
  rintro e v3 ⟨rfl,hb3⟩
  have B3:=zH (HB.out.trans ((G2.out.trans (hb3.mono G2.out.size)).mono HB.out.size))
  clear hb3
  go_wp2_with fail
  go_ret
  exact ⟨rfl,B3.out⟩
 | true=>
 have D0:=zH (C0.out rfl)
 have D1:=zH (C1.out rfl)
 have LN:=zH (HLN.out rfl)
 clear C0 C1 HLN
 obtain ⟨p0,p1,p2,p3,p4,p5,p6,p7,p8,p9⟩:=zA ((HBX.out _ G2.out).1)
 have r0:=zh (HBX.out _ G2.out).2.1 0 rfl
 have f0:=zh ((HBX.out _ G2.out).2.2) 0 rfl
 have f1:=zh ((HBX.out _ G2.out).2.2) 1 rfl
 have f2:=zh ((HBX.out _ G2.out).2.2) 2 rfl
 have f3:=zh ((HBX.out _ G2.out).2.2) 3 rfl
 have f4:=zh ((HBX.out _ G2.out).2.2) 4 rfl
 have f5:=zh ((HBX.out _ G2.out).2.2) 5 rfl
 go_wp2_with fail
 refine (rfewR_any AR out.length cr w2).mono ?_
 rintro e w3 ⟨rfl,hb3⟩
 have G3:=zH (G2.out.trans (hb3.mono G2.out.size))
 clear hb3 p0 p1 p2 p3 p4 p5 p6 p7 p8 p9 r0 f0 f1 f2 f3 f4 f5
 by_cases hor:out.length≤2000
 case neg=>
  have e0:decide (out.length≤2000)=false:=decide_eq_false hor
  rw [e0]
  clear D0 D1 LN HFF e0
  go_wp2_with fail
  refine (xe w3).mono ?_
  rintro e v3 ⟨rfl,hb3⟩
  have B3:=zH (HB.out.trans ((G3.out.trans (hb3.mono G3.out.size)).mono HB.out.size))
  clear hb3
  go_wp2_with fail
  go_ret
  exact ⟨rfl,B3.out⟩
 have e0:decide (out.length≤2000)=true:=decide_eq_true hor
 rw [e0]
 clear e0
 obtain ⟨p0,p1,p2,p3,p4,p5,p6,p7,p8,p9⟩:=zA ((HBX.out _ G3.out).1)
 have r0:=zh (HBX.out _ G3.out).2.1 0 rfl
 have f0:=zh ((HBX.out _ G3.out).2.2) 0 rfl
 have f1:=zh ((HBX.out _ G3.out).2.2) 1 rfl
 have f2:=zh ((HBX.out _ G3.out).2.2) 2 rfl
 have f3:=zh ((HBX.out _ G3.out).2.2) 3 rfl
 have f4:=zh ((HBX.out _ G3.out).2.2) 4 rfl
 have f5:=zh ((HBX.out _ G3.out).2.2) 5 rfl
 go_wp2_with fail
 refine (HFF.out w3 G3.out).mono ?_
 rintro e w4 ⟨rfl,hb4⟩
 have G4:=zH (G3.out.trans (hb4.mono G3.out.size))
 clear hb4 HFF p0 p1 p2 p3 p4 p5 p6 p7 p8 p9 r0 f0 f1 f2 f3 f4 f5
 by_cases hzz:z<140
 case neg=>
  have e0:decide (z<140)=false:=decide_eq_false hzz
  rw [e0]
  clear D0 D1 LN e0
  go_wp2_with fail
  refine (xe w4).mono ?_
  rintro e v3 ⟨rfl,hb3⟩
  have B3:=zH (HB.out.trans ((G4.out.trans (hb3.mono G4.out.size)).mono HB.out.size))
  clear hb3
  go_wp2_with fail
  go_ret
  exact ⟨rfl,B3.out⟩
 have e0:decide (z<140)=true:=decide_eq_true hzz
 rw [e0]
 clear e0
 have D0:=zH (D0.out hzz)
 have D1:=zH (D1.out hzz)
 obtain ⟨p0,p1,p2,p3,p4,p5,p6,p7,p8,p9⟩:=zA ((HBX.out _ G4.out).1)
 have r0:=zh (HBX.out _ G4.out).2.1 0 rfl
 have f0:=zh ((HBX.out _ G4.out).2.2) 0 rfl
 have f1:=zh ((HBX.out _ G4.out).2.2) 1 rfl
 have f2:=zh ((HBX.out _ G4.out).2.2) 2 rfl
 have f3:=zh ((HBX.out _ G4.out).2.2) 3 rfl
 have f4:=zh ((HBX.out _ G4.out).2.2) 4 rfl
 have f5:=zh ((HBX.out _ G4.out).2.2) 5 rfl
 go_wp2_with fail
 refine (D0.out w4 G4.out).mono ?_
 rintro e w5 ⟨A5,c5,rfl,hI5,hb5⟩
 have G5:=zH (G4.out.trans (hb5.mono G4.out.size))
 have I5:Hid (∀X,Below w5.heap.size w5 X→BAt X X.heap.size A5 R.1):=fun X hX=>(hI5.keep hX).more hX.size
 clear hb5 hI5 D0 p0 p1 p2 p3 p4 p5 p6 p7 p8 p9 r0 f0 f1 f2 f3 f4 f5
 obtain ⟨p0,p1,p2,p3,p4,p5,p6,p7,p8,p9⟩:=zA ((HBX.out _ G5.out).1)
 have r0:=zh (HBX.out _ G5.out).2.1 0 rfl
 have f0:=zh ((HBX.out _ G5.out).2.2) 0 rfl
 have f1:=zh ((HBX.out _ G5.out).2.2) 1 rfl
 have f2:=zh ((HBX.out _ G5.out).2.2) 2 rfl
 have f3:=zh ((HBX.out _ G5.out).2.2) 3 rfl
 have f4:=zh ((HBX.out _ G5.out).2.2) 4 rfl
 have f5:=zh ((HBX.out _ G5.out).2.2) 5 rfl
 go_wp2_with fail
 refine (D1.out w5 G5.out).mono ?_
 rintro e w6 ⟨A6,c6,rfl,hI6,hb6⟩
 have G6:=zH (G5.out.trans (hb6.mono G5.out.size))
 have I6:Hid (∀X,Below w6.heap.size w6 X→BAt X X.heap.size A6 R.1):=fun X hX=>(hI6.keep hX).more hX.size
 have I5:Hid (∀X,Below w6.heap.size w6 X→BAt X X.heap.size A5 R.1):=fun X hX=>I5.out X (hb6.trans (hX.mono hb6.size))
 clear hb6 hI6 D1 p0 p1 p2 p3 p4 p5 p6 p7 p8 p9 r0 f0 f1 f2 f3 f4 f5
 go_wp2_with fail
 refine (xe w6).mono ?_
 rintro e w7 ⟨rfl,hb7⟩
 have G7:=zH (G6.out.trans (hb7.mono G6.out.size))
 have HS:=zH (J4 A5 A6 c5 c6 R.1 R.1 (by have:=LN.out;omega) w7 (I5.out w7 hb7) (I6.out w7 hb7))
 rw [show decide (R.1=R.1)=true by simp] at HS
 clear hb7 I5 I6
 go_wp2_with fail
 refine HS.out.mono ?_
 rintro e w8 ⟨rfl,hb8⟩
 have HBF:=zH (HB.out.trans ((G7.out.trans (hb8.mono G7.out.size)).mono HB.out.size))
 clear hb8 HS
 go_wp2_with fail
 go_ret
 exact ⟨rfl,HBF.out⟩
end
end Go.Proofs.YtiookelkkekbeaaGreat
