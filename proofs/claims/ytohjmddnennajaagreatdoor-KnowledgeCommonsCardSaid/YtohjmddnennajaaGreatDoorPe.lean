/- Parts BuildC First BtA BtB EqL EqF NumR NumR3 FewQ Ver Fin. -/
import Derived.Test.YtohjmddnennajaaGreatDoorProg
import Derived.Test.YtohjmddnennajaaGreatDoorPd
import Derived.Carry
import Derived.Test.YtohjmddnennajaaGreatDoorPa
import Derived.Test.YtohjmddnennajaaGreatDoorPc
import Derived.Test.YtohjmddnennajaaGreatDoorPb
import Derived.StillTailTactics
import Derived.Deep.RegionHeld3

namespace Go.Proofs.YtohjmddnennajaaGreatDoor
abbrev Lw:=@Go.RowKit.Below.setCell
abbrev Rq:=@Go.Proofs.Tryz.results60
abbrev Po:=@Nat.mul_comm
abbrev Sa:=@List.idxOf_lt_length_of_mem
set_option maxRecDepth 100000
set_option maxHeartbeats 8000000
section
open Go.RowKit Go.Shelf
attribute [local go_sem] Oper.semAt_some
theorem jP{w X:Ba}{g h B:Nat}{a0 a1 a2 a3 a4 a5 a6 a7 a8 a9 u0:Value}(v0 v1 v2 v3 v4 v5 v6 v7 v8 v9 u:Value)(hg:X.heap[g]?=some (.cells #[a0,a1,a2,a3,a4,a5,a6,a7,a8,a9] 35 (0,0)))(hh:X.heap[h]?=some (.cells #[u0] 39 (0,0)))
  (hne:g≠h) (hB:Below B w X) (h1:B<=g) (h2:B<=h) :
  (((((((((((X.setCell ⟨g,0,none⟩ v0).setCell ⟨g,1,none⟩ v1).setCell ⟨g,2,none⟩ v2).setCell ⟨g,3,none⟩ v3).setCell ⟨g,4,none⟩ v4).setCell ⟨g,5,none⟩ v5).setCell ⟨g,6,none⟩ v6).setCell ⟨g,7,none⟩ v7).setCell ⟨g,8,none⟩ v8).setCell ⟨g,9,none⟩ v9).setCell ⟨h,0,none⟩ u).heap[g]?=some (.cells #[v0,v1,v2,v3,v4,v5,v6,v7,v8,v9] 35 (0,0))/\(((((((((((X.setCell ⟨g,0,none⟩ v0).setCell ⟨g,1,none⟩ v1).setCell ⟨g,2,none⟩ v2).setCell ⟨g,3,none⟩ v3).setCell ⟨g,4,none⟩ v4).setCell ⟨g,5,none⟩ v5).setCell ⟨g,6,none⟩ v6).setCell ⟨g,7,none⟩ v7).setCell ⟨g,8,none⟩ v8).setCell ⟨g,9,none⟩ v9).setCell ⟨h,0,none⟩ u).heap[h]?=some (.cells #[u] 39 (0,0))/\Below B w (((((((((((X.setCell ⟨g,0,none⟩ v0).setCell ⟨g,1,none⟩ v1).setCell ⟨g,2,none⟩ v2).setCell ⟨g,3,none⟩ v3).setCell ⟨g,4,none⟩ v4).setCell ⟨g,5,none⟩ v5).setCell ⟨g,6,none⟩ v6).setCell ⟨g,7,none⟩ v7).setCell ⟨g,8,none⟩ v8).setCell ⟨g,9,none⟩ v9).setCell ⟨h,0,none⟩ u) /\
   (((((((((((X.setCell ⟨g,0,none⟩ v0).setCell ⟨g,1,none⟩ v1).setCell ⟨g,2,none⟩ v2).setCell ⟨g,3,none⟩ v3).setCell ⟨g,4,none⟩ v4).setCell ⟨g,5,none⟩ v5).setCell ⟨g,6,none⟩ v6).setCell ⟨g,7,none⟩ v7).setCell ⟨g,8,none⟩ v8).setCell ⟨g,9,none⟩ v9).setCell ⟨h,0,none⟩ u).heap.size=X.heap.size/\(∀k,k≠g->k≠h->(((((((((((X.setCell ⟨g,0,none⟩ v0).setCell ⟨g,1,none⟩ v1).setCell ⟨g,2,none⟩ v2).setCell ⟨g,3,none⟩ v3).setCell ⟨g,4,none⟩ v4).setCell ⟨g,5,none⟩ v5).setCell ⟨g,6,none⟩ v6).setCell ⟨g,7,none⟩ v7).setCell ⟨g,8,none⟩ v8).setCell ⟨g,9,none⟩ v9).setCell ⟨h,0,none⟩ u).heap[k]?=X.heap[k]?):=by
 have k0:(X.setCell ⟨g,0,none⟩ v0).heap[g]?=some (.cells #[v0,a1,a2,a3,a4,a5,a6,a7,a8,a9] 35 (0,0)):=Ll _ g 0 _ _ v0 hg;have k1:((X.setCell ⟨g,0,none⟩ v0).setCell ⟨g,1,none⟩ v1).heap[g]?=some (.cells #[v0,v1,a2,a3,a4,a5,a6,a7,a8,a9] 35 (0,0)):=Ll _ g 1 _ _ v1 k0;have k2:(((X.setCell ⟨g,0,none⟩ v0).setCell ⟨g,1,none⟩ v1).setCell ⟨g,2,none⟩ v2).heap[g]?=some (.cells #[v0,v1,v2,a3,a4,a5,a6,a7,a8,a9] 35 (0,0)):=Ll _ g 2 _ _ v2 k1;have k3:((((X.setCell ⟨g,0,none⟩ v0).setCell ⟨g,1,none⟩ v1).setCell ⟨g,2,none⟩ v2).setCell ⟨g,3,none⟩ v3).heap[g]?=some (.cells #[v0,v1,v2,v3,a4,a5,a6,a7,a8,a9] 35 (0,0)):=Ll _ g 3 _ _ v3 k2;have k4:(((((X.setCell ⟨g,0,none⟩ v0).setCell ⟨g,1,none⟩ v1).setCell ⟨g,2,none⟩ v2).setCell ⟨g,3,none⟩ v3).setCell ⟨g,4,none⟩ v4).heap[g]?=some (.cells #[v0,v1,v2,v3,v4,a5,a6,a7,a8,a9] 35 (0,0)):=Ll _ g 4 _ _ v4 k3;have k5:((((((X.setCell ⟨g,0,none⟩ v0).setCell ⟨g,1,none⟩ v1).setCell ⟨g,2,none⟩ v2).setCell ⟨g,3,none⟩ v3).setCell ⟨g,4,none⟩ v4).setCell ⟨g,5,none⟩ v5).heap[g]?=some (.cells #[v0,v1,v2,v3,v4,v5,a6,a7,a8,a9] 35 (0,0)):=Ll _ g 5 _ _ v5 k4;have k6:(((((((X.setCell ⟨g,0,none⟩ v0).setCell ⟨g,1,none⟩ v1).setCell ⟨g,2,none⟩ v2).setCell ⟨g,3,none⟩ v3).setCell ⟨g,4,none⟩ v4).setCell ⟨g,5,none⟩ v5).setCell ⟨g,6,none⟩ v6).heap[g]?=some (.cells #[v0,v1,v2,v3,v4,v5,v6,a7,a8,a9] 35 (0,0)):=Ll _ g 6 _ _ v6 k5
 have k7:((((((((X.setCell ⟨g,0,none⟩ v0).setCell ⟨g,1,none⟩ v1).setCell ⟨g,2,none⟩ v2).setCell ⟨g,3,none⟩ v3).setCell ⟨g,4,none⟩ v4).setCell ⟨g,5,none⟩ v5).setCell ⟨g,6,none⟩ v6).setCell ⟨g,7,none⟩ v7).heap[g]?=some (.cells #[v0,v1,v2,v3,v4,v5,v6,v7,a8,a9] 35 (0,0)):=Ll _ g 7 _ _ v7 k6;have k8:(((((((((X.setCell ⟨g,0,none⟩ v0).setCell ⟨g,1,none⟩ v1).setCell ⟨g,2,none⟩ v2).setCell ⟨g,3,none⟩ v3).setCell ⟨g,4,none⟩ v4).setCell ⟨g,5,none⟩ v5).setCell ⟨g,6,none⟩ v6).setCell ⟨g,7,none⟩ v7).setCell ⟨g,8,none⟩ v8).heap[g]?=some (.cells #[v0,v1,v2,v3,v4,v5,v6,v7,v8,a9] 35 (0,0)):=Ll _ g 8 _ _ v8 k7;have k9:((((((((((X.setCell ⟨g,0,none⟩ v0).setCell ⟨g,1,none⟩ v1).setCell ⟨g,2,none⟩ v2).setCell ⟨g,3,none⟩ v3).setCell ⟨g,4,none⟩ v4).setCell ⟨g,5,none⟩ v5).setCell ⟨g,6,none⟩ v6).setCell ⟨g,7,none⟩ v7).setCell ⟨g,8,none⟩ v8).setCell ⟨g,9,none⟩ v9).heap[g]?=some (.cells #[v0,v1,v2,v3,v4,v5,v6,v7,v8,v9] 35 (0,0)):=Ll _ g 9 _ _ v9 k8
 have l9:=(Lf _ ⟨g,9,none⟩ v9 h (PR hne)).trans ((Lf _ ⟨g,8,none⟩ v8 h (PR hne)).trans ((Lf _ ⟨g,7,none⟩ v7 h (PR hne)).trans ((Lf _ ⟨g,6,none⟩ v6 h (PR hne)).trans ((Lf _ ⟨g,5,none⟩ v5 h (PR hne)).trans ((Lf _ ⟨g,4,none⟩ v4 h (PR hne)).trans ((Lf _ ⟨g,3,none⟩ v3 h (PR hne)).trans ((Lf _ ⟨g,2,none⟩ v2 h (PR hne)).trans ((Lf _ ⟨g,1,none⟩ v1 h (PR hne)).trans ((Lf _ ⟨g,0,none⟩ v0 h (PR hne)).trans (hh))))))))));refine⟨(Lf _ ⟨h,0,none⟩ u g hne).trans k9,?_,?_,by simp,fun k n1 n2=>?_⟩
 . rw[Ll _ h 0 _ _ u l9];rfl
 . refine Lw (p:=⟨h,0,none⟩) ?_ h2 _
   refine Lw (p:=⟨g,9,none⟩) ?_ h1 _;refine Lw (p:=⟨g,8,none⟩) ?_ h1 _;refine Lw (p:=⟨g,7,none⟩) ?_ h1 _;refine Lw (p:=⟨g,6,none⟩) ?_ h1 _;refine Lw (p:=⟨g,5,none⟩) ?_ h1 _;refine Lw (p:=⟨g,4,none⟩) ?_ h1 _;refine Lw (p:=⟨g,3,none⟩) ?_ h1 _;refine Lw (p:=⟨g,2,none⟩) ?_ h1 _;refine Lw (p:=⟨g,1,none⟩) ?_ h1 _;refine Lw (p:=⟨g,0,none⟩) ?_ h1 _;exact hB
 . refine(Lf _ ⟨h,0,none⟩ u k n2).trans ?_
   refine(Lf _ ⟨g,9,none⟩ v9 k n1).trans ?_;refine(Lf _ ⟨g,8,none⟩ v8 k n1).trans ?_;refine(Lf _ ⟨g,7,none⟩ v7 k n1).trans ?_;refine(Lf _ ⟨g,6,none⟩ v6 k n1).trans ?_;refine(Lf _ ⟨g,5,none⟩ v5 k n1).trans ?_;refine(Lf _ ⟨g,4,none⟩ v4 k n1).trans ?_;refine(Lf _ ⟨g,3,none⟩ v3 k n1).trans ?_;refine(Lf _ ⟨g,2,none⟩ v2 k n1).trans ?_;refine(Lf _ ⟨g,1,none⟩ v1 k n1).trans ?_;exact Lf _ ⟨g,0,none⟩ v0 k n1
theorem Xq(w:Ba)(o:Obj):∃W0,w.alloc o=W0/\W0.heap[w.heap.size]?=some o/\W0.heap.size=w.heap.size+1/\Below w.heap.size w W0:=⟨_,rfl,zw _ _,by simp,zW w _⟩
theorem uo{t:Tk}:∀ {q:Option Cs} {l:List Cs},kR t q l=0->∀c∈l,(c.inp.length:Int)=t.n
 | _,[],_,c,hc=>by cases hc
 | q,d::l,h,c,hc=>by
  rw[kR] at h
  split at h
  . rename_i h1;exact absurd h h1
  . rename_i h1
    rcases L5.1 hc with rfl | hc
    . have h2:qJ t q c=0:=by simpa using h1
      unfold qJ at h2
      split at h2
      . rename_i h3;exact absurd h2 h3
      . rename_i h3
        have h4:zK c.inp t.n t.ins=0:=by simpa using h3
        unfold zK at h4
        split at h4
        . cases h4
        . rename_i h5;simpa using h5
    . exact uo h c hc
theorem hU{t:Tk}(h:xn t=0):∀c∈t.cases,(c.inp.length:Int)=t.n:=by
 unfold xn at h
 split at h
 . cases h
 . split at h
   . cases h
   . exact uo (by unfold xM at h;rwa[L4] at h)
theorem RowX.turnC{α:Type}{C:Ct α}(ok:CtOk C){S:Nat->Prop}{w w':Ba}{g:Nat}{xs:List α}(h:RowX C S w g xs)(hs:w.heap.size<=w'.heap.size)(hc:∀(k:Nat) (o:Obj),w.heap[k]?=some o->o.isCells=true->w'.heap[k]?=some o):RowX C S w' g xs:=by
 obtain⟨arr,h1,h2⟩:=h;refine⟨arr,hc _ _ h1 rfl,fun i hi=>?_⟩;obtain⟨cs,h3,h4⟩:=h2 i hi;exact⟨cs,ok.keepC h3 (KeepC.of_cells _ hs hc),h4⟩
theorem OwnV.of_same{w w':Ba}{base:Nat}{v:Value}{vs:List Vw}(h:OwnV w base v vs)(hk:∀k,v.ownBlock=some k->w'.heap[k]?=w.heap[k]?):OwnV w' base v vs:=by
 refine⟨h.1,?_⟩;rcases h.2 with hn | ⟨g,cap,cur,hv,hb,hg,rest⟩
 . exact .inl hn
 . exact .inr ⟨g,cap,cur,hv,hb,(hk g (by rw[hv];rfl)).trans hg,rest⟩
def RetSys(r:Sy×Int)(w:Ba)(e:Ending)(w':Ba):Prop:=∃A kc SV ks AV kv AX kx,e=.returned (.tuple #[.agg (r.1.vs_ A kc SV ks AV kv AX kx),.int .i64 r.2])/\SyAt w' w'.heap.size A SV AV AX r.1/\r.1.vs.length<=kv/\kv<=maxLen/\Below w.heap.size w w'
theorem RetSys.zero{w W:Ba}(n:Int)(h:Below w.heap.size w W):RetSys (qH,n) w (.returned (.tuple #[.agg #[.int .i64 0,.int .i64 0,.int .i64 0,.slice none 0 0,.int .i64 0,.slice none 0 0,.int .i64 0,.int .i64 0,.slice none 0 0,.slice none 0 0],.int .i64 n])) W:=
 ⟨none,0,none,0,none,0,none,0,rfl,⟨CAt.nil _ _ _,SAt.nil _ _ _,fun h=>absurd h (by simp[qH]),XAt.nil _ _ _⟩,Le _,NC _,h⟩
def RetSysF(L0 B0:Nat)(r:Sy×Int)(w:Ba)(e:Ending)(w':Ba):Prop:=∃A kc SV ks AV kv AX kx,e=.returned (.tuple #[.agg (r.1.vs_ A kc SV ks AV kv AX kx),.int .i64 r.2]) /\
 (∀W':Ba,w'.heap.size<=W'.heap.size->(∀k,((L0<=k/\k<B0)\/w.heap.size<=k)->k<w'.heap.size->W'.heap[k]?=w'.heap[k]?)->SyAt W' W'.heap.size A SV AV AX r.1)/\r.1.vs.length<=kv/\kv<=maxLen/\Below w.heap.size w w'
theorem RetSysF.zero{L0 B0:Nat}{w W:Ba}(n:Int)(h:Below w.heap.size w W):RetSysF L0 B0 (qH,n) w (.returned (.tuple #[.agg #[.int .i64 0,.int .i64 0,.int .i64 0,.slice none 0 0,.int .i64 0,.slice none 0 0,.int .i64 0,.int .i64 0,.slice none 0 0,.slice none 0 0],.int .i64 n])) W:=
 ⟨none,0,none,0,none,0,none,0,rfl,fun W' _ _=>⟨CAt.nil _ _ _,SAt.nil _ _ _,fun h=>absurd h (by simp[qH]),XAt.nil _ _ _⟩,Le _,NC _,h⟩
theorem RetSysF.sys{L0 B0:Nat}{r:Sy×Int}{w W:Ba}{e:Ending}(h:RetSysF L0 B0 r w e W):RetSys r w e W:=by
 obtain⟨A,kc,SV,ks,AV,kv,AX,kx,he,h1,h2,h3,h4⟩:=h;exact⟨A,kc,SV,ks,AV,kv,AX,kx,he,h1 W (Le _) (fun _ _ _=>rfl),h2,h3,h4⟩
theorem buildL_any(p:Pb)(hf:yR p)(A:Bb)(kc:Nat)(SV:Bb)(ks:Nat)(w:Ba)(L0 B0:Nat)(hB0:B0<=w.heap.size)(hA1:CAt w B0 A p.t.cases)(hS1:SAt w B0 SV p.a.sts)(hA0:CAtL L0 B0 w A p.t.cases)(hS0:SAtL L0 B0 w SV p.a.sts) :
  Calls Tryz.prog 60 #[.agg (p.vs A kc SV ks)] w (RetSysF L0 B0 (zY p) w):=by
 have hA:=hA1.more hB0;have hS:=hS1.more hB0;have HA0:=zH hA0;have HS0:=zH hS0;clear hA0 hS0 hA1 hS1;have HCN:=zH (fun (W:Ba) (h1:CAt W W.heap.size A p.t.cases) (h2:SAt W W.heap.size SV p.a.sts)=>ecount_any p hf.1 A kc SV ks W h1 h2);have HE1:=zH (@xm p);have HE2:=zH (@xF p);have HE3:=zH (@qv p);have HFX:=zH hf;obtain⟨w1,hw1,d0,d1,d2,hsz,hBw⟩:=kX w (p.vs A kc SV ks) #[.int .i64 0,.int .i64 0,.int .i64 0,.slice none 0 0,.int .i64 0,.slice none 0 0,.int .i64 0,.int .i64 0,.slice none 0 0,.slice none 0 0] #[.int .i64 0] 29 35 39;have HA:=zH hA;have HS:=zH hS;have HBW:=zH hBw;have HD0:=zH d0;have HD1:=zH d1;have HD2:=zH d2;have HCO:=HCN.out w1 ((hA.keep hBw).more hBw.size) ((hS.keep hBw).more hBw.size);have HCO:=zH HCO;unfold Pb.vs at hw1 d0 HCO ⊢;obtain⟨q0,q1,q2,q3,q4,q5,q6,_⟩:=Kf d0;have HW1:=zH hw1;clear hw1 d0 d1 d2 hBw hA hS hf HCN;refine yK Tryz.func60 rfl ?_;simp only[Tryz.ntmps60,List.size_toArray,List.length_cons,List.length_nil,Nat.reduceAdd,Nat.reduceSub,Array.replicate_succ,Array.replicate_zero,List.push_toArray,List.append_toArray,List.nil_append,List.cons_append];go_wp2_with fail;rw[HW1.out];go_wp2_with fail;refine HCO.out.mono ?_;rintro e w2 ⟨rfl,hb2⟩;clear HCO HW1 q0 q1 q2 q3 q4 q5 q6;have D0:=zH (La hb2 HD0.out);have D1:=zH (La hb2 HD1.out);have D2:=zH (La hb2 HD2.out);have B2:=zH (HBW.out.trans (hb2.mono (by omega)));have hsz2:=hb2.size;clear hb2
 by_cases hpe:zU p=0
 case neg=>
  have hce:vJ p=(0,zU p):=Lh hpe;rw[hce,HE1.out hpe];have e0:(zU p != 0)=true:=by simpa using hpe
  obtain⟨pe,hpe2⟩:=Ki (zU p);rw[hpe2] at e0 ⊢;have x0:w2.cell? ⟨w.heap.size+1,0,none⟩=some (.int .i64 0):=zh D1.out 0 rfl;have f0:=zi D1.out 0;have x1:w2.cell? ⟨w.heap.size+1,1,none⟩=some (.int .i64 0):=zh D1.out 1 rfl;have f1:=zi D1.out 1;have x2:w2.cell? ⟨w.heap.size+1,2,none⟩=some (.int .i64 0):=zh D1.out 2 rfl;have f2:=zi D1.out 2;have x3:w2.cell? ⟨w.heap.size+1,3,none⟩=some (.slice none 0 0):=zh D1.out 3 rfl;have f3:=zi D1.out 3;have x4:w2.cell? ⟨w.heap.size+1,4,none⟩=some (.int .i64 0):=zh D1.out 4 rfl;have f4:=zi D1.out 4;have x5:w2.cell? ⟨w.heap.size+1,5,none⟩=some (.slice none 0 0):=zh D1.out 5 rfl;have f5:=zi D1.out 5;have x6:w2.cell? ⟨w.heap.size+1,6,none⟩=some (.int .i64 0):=zh D1.out 6 rfl;have f6:=zi D1.out 6;have x7:w2.cell? ⟨w.heap.size+1,7,none⟩=some (.int .i64 0):=zh D1.out 7 rfl;have f7:=zi D1.out 7;have x8:w2.cell? ⟨w.heap.size+1,8,none⟩=some (.slice none 0 0):=zh D1.out 8 rfl;have f8:=zi D1.out 8;have x9:w2.cell? ⟨w.heap.size+1,9,none⟩=some (.slice none 0 0):=zh D1.out 9 rfl;have f9:=zi D1.out 9;have y0:w2.cell? ⟨w.heap.size+1+1,0,none⟩=some (.int .i64 0):=zh D2.out 0 rfl;have g0:=zi D2.out 0;go_wp2_with fail;obtain⟨k1,k2,k3,_,_⟩:=jP (.int .i64 0) (.int .i64 0) (.int .i64 0) (.slice none 0 0) (.int .i64 0) (.slice none 0 0) (.int .i64 0) (.int .i64 0) (.slice none 0 0) (.slice none 0 0) (.int .i64 pe) D1.out D2.out (by omega) B2.out (by omega:w.heap.size<=w.heap.size+1) (by omega:w.heap.size<=w.heap.size+1+1);refine xj (B:=w.heap.size) (Marks.nil _ _) ?_
  intro W hX;have c0:W.cell? ⟨w.heap.size+1,0,none⟩=some (.int .i64 0):=hX.cell (zh k1 0 rfl);have c1:W.cell? ⟨w.heap.size+1,1,none⟩=some (.int .i64 0):=hX.cell (zh k1 1 rfl);have c2:W.cell? ⟨w.heap.size+1,2,none⟩=some (.int .i64 0):=hX.cell (zh k1 2 rfl);have c3:W.cell? ⟨w.heap.size+1,3,none⟩=some (.slice none 0 0):=hX.cell (zh k1 3 rfl);have c4:W.cell? ⟨w.heap.size+1,4,none⟩=some (.int .i64 0):=hX.cell (zh k1 4 rfl);have c5:W.cell? ⟨w.heap.size+1,5,none⟩=some (.slice none 0 0):=hX.cell (zh k1 5 rfl);have c6:W.cell? ⟨w.heap.size+1,6,none⟩=some (.int .i64 0):=hX.cell (zh k1 6 rfl);have c7:W.cell? ⟨w.heap.size+1,7,none⟩=some (.int .i64 0):=hX.cell (zh k1 7 rfl);have c8:W.cell? ⟨w.heap.size+1,8,none⟩=some (.slice none 0 0):=hX.cell (zh k1 8 rfl);have c9:W.cell? ⟨w.heap.size+1,9,none⟩=some (.slice none 0 0):=hX.cell (zh k1 9 rfl);have c10:W.cell? ⟨w.heap.size+1+1,0,none⟩=some (.int .i64 pe):=hX.cell (zh k2 0 rfl);have hR:=RetSysF.zero (L0:=L0) (B0:=B0) pe (k3.trans hX.below);rw[HE1.out hpe,hpe2];exact⟨_,by simp[results,Tryz.results60,go_sem,c0,c1,c2,c3,c4,c5,c6,c7,c8,c9,c10],hR⟩
 case pos=>
 have hce:vJ p=j5 1048576 (ye p):=Lg (by simpa using hpe);rw[hce]
 by_cases hT:4096<ye p
 case pos=>
  have HB:=zH (HE2.out hpe hT)
  by_cases hT2:1048576<ye p
  case pos=>
   have hcu:j5 1048576 (ye p)=(0,17):=Lh hT2;rw[hcu];clear HE1 HE2 HE3 hce hT hT2 hcu HFX hpe;have x0:w2.cell? ⟨w.heap.size+1,0,none⟩=some (.int .i64 0):=zh D1.out 0 rfl;have f0:=zi D1.out 0;have x1:w2.cell? ⟨w.heap.size+1,1,none⟩=some (.int .i64 0):=zh D1.out 1 rfl;have f1:=zi D1.out 1;have x2:w2.cell? ⟨w.heap.size+1,2,none⟩=some (.int .i64 0):=zh D1.out 2 rfl;have f2:=zi D1.out 2;have x3:w2.cell? ⟨w.heap.size+1,3,none⟩=some (.slice none 0 0):=zh D1.out 3 rfl;have f3:=zi D1.out 3;have x4:w2.cell? ⟨w.heap.size+1,4,none⟩=some (.int .i64 0):=zh D1.out 4 rfl;have f4:=zi D1.out 4;have x5:w2.cell? ⟨w.heap.size+1,5,none⟩=some (.slice none 0 0):=zh D1.out 5 rfl;have f5:=zi D1.out 5;have x6:w2.cell? ⟨w.heap.size+1,6,none⟩=some (.int .i64 0):=zh D1.out 6 rfl;have f6:=zi D1.out 6;have x7:w2.cell? ⟨w.heap.size+1,7,none⟩=some (.int .i64 0):=zh D1.out 7 rfl;have f7:=zi D1.out 7;have x8:w2.cell? ⟨w.heap.size+1,8,none⟩=some (.slice none 0 0):=zh D1.out 8 rfl;have f8:=zi D1.out 8;have x9:w2.cell? ⟨w.heap.size+1,9,none⟩=some (.slice none 0 0):=zh D1.out 9 rfl;have f9:=zi D1.out 9;have y0:w2.cell? ⟨w.heap.size+1+1,0,none⟩=some (.int .i64 0):=zh D2.out 0 rfl;have g0:=zi D2.out 0;go_wp2_with fail
   obtain⟨k1,k2,k3,_,_⟩:=jP (.int .i64 0) (.int .i64 0) (.int .i64 0) (.slice none 0 0) (.int .i64 0) (.slice none 0 0) (.int .i64 0) (.int .i64 0) (.slice none 0 0) (.slice none 0 0) (.int .i64 17) D1.out D2.out (by omega) B2.out (by omega:w.heap.size<=w.heap.size+1) (by omega:w.heap.size<=w.heap.size+1+1);refine xj (B:=w.heap.size) (Marks.nil _ _) ?_;intro W hX;have c0:W.cell? ⟨w.heap.size+1,0,none⟩=some (.int .i64 0):=hX.cell (zh k1 0 rfl);have c1:W.cell? ⟨w.heap.size+1,1,none⟩=some (.int .i64 0):=hX.cell (zh k1 1 rfl);have c2:W.cell? ⟨w.heap.size+1,2,none⟩=some (.int .i64 0):=hX.cell (zh k1 2 rfl);have c3:W.cell? ⟨w.heap.size+1,3,none⟩=some (.slice none 0 0):=hX.cell (zh k1 3 rfl);have c4:W.cell? ⟨w.heap.size+1,4,none⟩=some (.int .i64 0):=hX.cell (zh k1 4 rfl);have c5:W.cell? ⟨w.heap.size+1,5,none⟩=some (.slice none 0 0):=hX.cell (zh k1 5 rfl);have c6:W.cell? ⟨w.heap.size+1,6,none⟩=some (.int .i64 0):=hX.cell (zh k1 6 rfl);have c7:W.cell? ⟨w.heap.size+1,7,none⟩=some (.int .i64 0):=hX.cell (zh k1 7 rfl);have c8:W.cell? ⟨w.heap.size+1,8,none⟩=some (.slice none 0 0):=hX.cell (zh k1 8 rfl);have c9:W.cell? ⟨w.heap.size+1,9,none⟩=some (.slice none 0 0):=hX.cell (zh k1 9 rfl);have c10:W.cell? ⟨w.heap.size+1+1,0,none⟩=some (.int .i64 17):=hX.cell (zh k2 0 rfl);have hR:=RetSysF.zero (L0:=L0) (B0:=B0) 17 (k3.trans hX.below);rw[HB.out];exact⟨_,by simp[results,Tryz.results60,go_sem,c0,c1,c2,c3,c4,c5,c6,c7,c8,c9,c10],hR⟩
  case neg=>
   have hcu:j5 1048576 (ye p)=((ye p:Int),0):=Lg hT2;rw[hcu];obtain⟨T,hTT⟩:=Ki (ye p);rw[hTT] at hT hT2 ⊢;have hT3:(4096:Int)<(T:Int):=by omega
   clear HE1 HE2 HE3 hce hcu HFX hpe hTT;have x0:w2.cell? ⟨w.heap.size+1,0,none⟩=some (.int .i64 0):=zh D1.out 0 rfl;have f0:=zi D1.out 0;have x1:w2.cell? ⟨w.heap.size+1,1,none⟩=some (.int .i64 0):=zh D1.out 1 rfl;have f1:=zi D1.out 1;have x2:w2.cell? ⟨w.heap.size+1,2,none⟩=some (.int .i64 0):=zh D1.out 2 rfl;have f2:=zi D1.out 2;have x3:w2.cell? ⟨w.heap.size+1,3,none⟩=some (.slice none 0 0):=zh D1.out 3 rfl;have f3:=zi D1.out 3;have x4:w2.cell? ⟨w.heap.size+1,4,none⟩=some (.int .i64 0):=zh D1.out 4 rfl;have f4:=zi D1.out 4;have x5:w2.cell? ⟨w.heap.size+1,5,none⟩=some (.slice none 0 0):=zh D1.out 5 rfl;have f5:=zi D1.out 5;have x6:w2.cell? ⟨w.heap.size+1,6,none⟩=some (.int .i64 0):=zh D1.out 6 rfl;have f6:=zi D1.out 6;have x7:w2.cell? ⟨w.heap.size+1,7,none⟩=some (.int .i64 0):=zh D1.out 7 rfl;have f7:=zi D1.out 7;have x8:w2.cell? ⟨w.heap.size+1,8,none⟩=some (.slice none 0 0):=zh D1.out 8 rfl;have f8:=zi D1.out 8;have x9:w2.cell? ⟨w.heap.size+1,9,none⟩=some (.slice none 0 0):=zh D1.out 9 rfl;have f9:=zi D1.out 9;have y0:w2.cell? ⟨w.heap.size+1+1,0,none⟩=some (.int .i64 0):=zh D2.out 0 rfl;have g0:=zi D2.out 0;go_wp2_with fail;obtain⟨k1,k2,k3,_,_⟩:=jP (.int .i64 0) (.int .i64 0) (.int .i64 0) (.slice none 0 0) (.int .i64 0) (.slice none 0 0) (.int .i64 0) (.int .i64 0) (.slice none 0 0) (.slice none 0 0) (.int .i64 17) D1.out D2.out (by omega) B2.out (by omega:w.heap.size<=w.heap.size+1) (by omega:w.heap.size<=w.heap.size+1+1);refine xj (B:=w.heap.size) (Marks.nil _ _) ?_
   intro W hX;have c0:W.cell? ⟨w.heap.size+1,0,none⟩=some (.int .i64 0):=hX.cell (zh k1 0 rfl);have c1:W.cell? ⟨w.heap.size+1,1,none⟩=some (.int .i64 0):=hX.cell (zh k1 1 rfl);have c2:W.cell? ⟨w.heap.size+1,2,none⟩=some (.int .i64 0):=hX.cell (zh k1 2 rfl);have c3:W.cell? ⟨w.heap.size+1,3,none⟩=some (.slice none 0 0):=hX.cell (zh k1 3 rfl);have c4:W.cell? ⟨w.heap.size+1,4,none⟩=some (.int .i64 0):=hX.cell (zh k1 4 rfl);have c5:W.cell? ⟨w.heap.size+1,5,none⟩=some (.slice none 0 0):=hX.cell (zh k1 5 rfl);have c6:W.cell? ⟨w.heap.size+1,6,none⟩=some (.int .i64 0):=hX.cell (zh k1 6 rfl);have c7:W.cell? ⟨w.heap.size+1,7,none⟩=some (.int .i64 0):=hX.cell (zh k1 7 rfl);have c8:W.cell? ⟨w.heap.size+1,8,none⟩=some (.slice none 0 0):=hX.cell (zh k1 8 rfl);have c9:W.cell? ⟨w.heap.size+1,9,none⟩=some (.slice none 0 0):=hX.cell (zh k1 9 rfl);have c10:W.cell? ⟨w.heap.size+1+1,0,none⟩=some (.int .i64 17):=hX.cell (zh k2 0 rfl);have hR:=RetSysF.zero (L0:=L0) (B0:=B0) 17 (k3.trans hX.below);rw[HB.out];exact⟨_,by simp[results,Tryz.results60,go_sem,c0,c1,c2,c3,c4,c5,c6,c7,c8,c9,c10],hR⟩
 case neg=>
 have hcu:j5 1048576 (ye p)=((ye p:Int),0):=Lg (by omega);rw[hcu];have HB:=zH (HE3.out hpe (by omega));have h60:ye p<=60:=by have:=HFX.out.2 hpe;omega
 obtain⟨hpt,hpa,hpn,hpk0,hpk6⟩:=zX hpe;obtain⟨K,hK⟩:=Lr hpk0;obtain⟨hcs1,hn1,hn5⟩:=xg hpt;have hK6:K<=6:=by omega
 have hexT:ye p=yd p.a K 0*p.t.cases.length:=by unfold ye;rw[hK];rfl
 have hcnt:yd p.a K 0<=60:=by
  have:=Rj (yd p.a K 0) hcs1;omega
 have hbel:=B2.out;have HWO:=zH (words_any p.a HFX.out.1.2 hpa K (by omega) (by omega) SV ks w2 ((HS.out.keep hbel).more hbel.size));have HKE:=zH hK;obtain⟨T,hTT⟩:=Ki (ye p);rw[hTT] at h60 hexT ⊢;have HTT:=zH hTT;have HEX:=zH hexT;have hT3:¬(4096:Int)<(T:Int):=by omega
 have q4:=zh D0.out 4 rfl;have q5:=zh D0.out 5 rfl;have q6:w2.cell? ⟨w.heap.size,6,none⟩=some (.int .i64 (K:Int)):=by rw[<-hK];exact zh D0.out 6 rfl
 obtain⟨N,hN⟩:=Lr (show 0<=p.t.n by omega);have HNN:=zH hN;have HPA:=zH hpa;have HPN:=zH hpn;have HTI:=zH (hU hpt);clear HE1 HE2 HE3 hce hcu hT hTT hexT hK hpe hpt hpa hpn hpk0 hpk6 hbel hN;go_wp2_with fail;refine HWO.out.mono ?_;rintro e w3 ⟨AW,cw,rfl,hW3,hb3⟩;clear q4 q5 q6 HWO;have hsz3:=hb3.size;have D03:=zH (La hb3 D0.out);have D13:=zH (La hb3 D1.out);have D23:=zH (La hb3 D2.out);have B3:=zH (B2.out.trans (hb3.mono (by omega)));have HW3:=zH hW3;have hs1:=(yU HFX.out.1.2 HPA.out).2.1;have HCP:=zH (copied_any p HFX.out.1 hcs1 hs1 A kc SV ks w3 L0 B0 (Lz hB0 B3.out.size) (HA0.out.keep (B3.out.mono hB0)) (HS0.out.keep (B3.out.mono hB0)));unfold Pb.vs at HCP;obtain⟨q0,q1,q2,q3,q4,q5,q6,_⟩:=Kf D03.out;clear hb3 hW3 D0 D1 D2 B2;go_wp2_with fail;refine HCP.out.mono ?_;rintro e w4 ⟨g4,kc4,gm4,ks4,rfl,hA4,hS4,hg4,hgm4,hb4⟩;obtain⟨A4,hA4e⟩:∃A4:Bb,A4=some ⟨g4,0,none⟩:=⟨_,rfl⟩;obtain⟨SV4,hS4e⟩:∃S4:Bb,S4=some ⟨gm4,0,none⟩:=⟨_,rfl⟩;rw[<-hA4e,<-hS4e];have HA4e:=zH hA4e;have HS4e:=zH hS4e;clear hA4e hS4e;have hsz4:=hb4.size;have D04:=zH (La hb4 D03.out);have D14:=zH (La hb4 D13.out);have D24:=zH (La hb4 D23.out);have B4:=zH (B3.out.trans (hb4.mono (by omega)));have HA4:=zH hA4;have HS4:=zH hS4;have HW4:=zH ((HW3.out.keep hb4).more hb4.size);unfold Pb.vs
 have p0:w4.cell? ⟨w.heap.size,0,none⟩=some (.int .i64 p.t.n):=zh D04.out 0 rfl;have p1:w4.cell? ⟨w.heap.size,1,none⟩=some (.int .i64 p.t.ins):=zh D04.out 1 rfl;have p2:w4.cell? ⟨w.heap.size,2,none⟩=some (.int .i64 p.t.outs):=zh D04.out 2 rfl;have p3:w4.cell? ⟨w.heap.size,3,none⟩=some (.slice A p.t.cases.length kc):=zh D04.out 3 rfl;have p4:w4.cell? ⟨w.heap.size,4,none⟩=some (.int .i64 p.a.n):=zh D04.out 4 rfl;have p5:w4.cell? ⟨w.heap.size,5,none⟩=some (.slice SV p.a.sts.length ks):=zh D04.out 5 rfl;have p6:w4.cell? ⟨w.heap.size,6,none⟩=some (.int .i64 p.k):=zh D04.out 6 rfl;have hw4:w.heap.size<w4.heap.size:=by omega
 clear hA4 hS4 hb4 q0 q1 q2 q3 q4 q5 q6 HCP D03 D13 D23 HW3;have hmm:=@run_makeMap Tryz.prog;have hwa:w.heap.size<w4.heap.size+1:=by omega
 have hwb:w.heap.size<w4.heap.size+1+1:=by omega
 have hwc:w.heap.size<w4.heap.size+1+1+1:=by omega
 have hwd:w.heap.size<w4.heap.size+1+1+1+1:=by omega
 go_wp2_with fail;obtain⟨W5,hW5,x5,hs5,hB5⟩:=Xq w4 (.cells #[.int .i64 p.t.n,.int .i64 p.t.ins,.int .i64 p.t.outs,.slice A4 p.t.cases.length kc4,.int .i64 p.a.n,.slice SV4 p.a.sts.length ks4,.int .i64 p.k,.int .i64 0,.slice none 0 0,.slice none 0 0] 35);rw[hW5];obtain⟨W6,hW6,x6,hs6,hB6⟩:=Xq W5 (.map #[] 0);rw[hW6];obtain⟨W7,hW7,x7,hs7,hB7⟩:=Xq W6 (.cells #[.int .i64 p.t.n,.slice none 0 0,.map (some (w4.heap.size+1))] 172);rw[hW7];obtain⟨W8,hW8,x8,hs8,hB8⟩:=Xq W7 (.cells #[.pointer (some ⟨w4.heap.size+1+1,0,none⟩)] 169);rw[hW8];have hm0:MapOf (fun v:Vw=>.agg v.cells) W6 W5.heap.size 0 (ub []):=by rw[<-hW6,numF_nil];exact MapOf.made W5
 have hB48:Below w4.heap.size w4 W8:=hB5.trans ((hB6.mono (by omega)).trans ((hB7.mono (by omega)).trans (hB8.mono (by omega))));have D08:=zH (Lb hB48 (by omega) D04.out);clear hW5 hW6 hW7 hW8 hmm p0 p1 p2 p3 p4 p5 p6 hwa hwb hwc hwd;have hex:=execs_any p A kc SV ks AW (zJ p.a K 0).length cw W8;unfold Pb.vs at hex;refine hex.mono ?_;rintro e W9 ⟨rfl,hW9⟩;have hs9:W9.heap.size=w4.heap.size+6:=by rw[<-hW9];simp;omega
 have hB89:Below W8.heap.size W8 W9:=by rw[<-hW9];exact kh W8 _ _
 have hB48:Below w4.heap.size w4 W8:=hB5.trans ((hB6.mono (by omega)).trans ((hB7.mono (by omega)).trans (hB8.mono (by omega))));have hB49:Below w4.heap.size w4 W9:=hB48.trans (hB89.mono (by omega));have hp9:W9.heap[W8.heap.size]?=some (.cells (p.vs A kc SV ks) 29 (0,0)):=by rw[<-hW9];exact yM (zw W8 _) _
 have hq9:W9.heap[W8.heap.size+1]?=some (.cells #[.slice AW (zJ p.a K 0).length cw] 151 (0,0)):=by
  rw[<-hW9];have:=zw (W8.alloc (.cells (p.vs A kc SV ks) 29)) (.cells #[.slice AW (zJ p.a K 0).length cw] 151);rwa[Nw] at this
 have y5:=Lb hB89 (by omega) (Lb hB8 (by omega) (Lb hB7 (by omega) (Lb hB6 (by omega) x5)));have y7:=Lb hB89 (by omega) (Lb hB8 (by omega) x7);have y8:=Lb hB89 (by omega) x8;have ym:=((hm0.same (hB7.block _ (by omega))).same (hB8.block _ (by omega))).same (hB89.block _ (by omega));rw[hs5] at ym;rw[hs6,hs5] at y7;rw[hs7,hs6,hs5] at y8;have HY8:=zH y8;have HP9:=zH hp9;have h8e:W8.heap.size=w4.heap.size+1+1+1+1:=by omega
 -- the words' slices
 obtain⟨sl,hsl⟩:∃sl:Nat->Value,sl=fun j=>match AW with | some ad=>(w4.cell? ⟨ad.block,ad.off+j,none⟩).getD undef | none=>undef:=⟨_,rfl⟩
 have HSL:Hid (∀(j:Nat) (hj:j<(zJ p.a K 0).length),∃A' c,sl j=.slice A' (zJ p.a K 0)[j].length c/\RAt w4 w4.heap.size A' (zJ p.a K 0)[j]):=fun j hj=>by
  obtain⟨b,off,A',c,e,_,hc,hr⟩:=HW4.out.at_ j hj;subst e;refine⟨A',c,?_,hr⟩;rw[hsl];show(w4.cell? ⟨b,off+j,none⟩).getD undef=_;rw[hc];rfl
 have hSl:SlAt w4 w4.heap.size AW (zJ p.a K 0).length sl:=fun j hj=>by
  obtain⟨b,off,A',c,e,hb,hc,hr⟩:=HW4.out.at_ j hj;subst e;refine⟨b,off,rfl,hb,?_⟩;rw[hsl];show _=some ((w4.cell? ⟨b,off+j,none⟩).getD undef);rw[hc];rfl
 have hwl:(zJ p.a K 0).length<=60:=by rw[yF];exact hcnt
 have HIT:=zH (QV (p.vs A kc SV ks) p.t.cases.length HFX.out.1.1.1 A kc rfl AW (zJ p.a K 0).length cw (by omega) sl w4.heap.size W8.heap.size (W8.heap.size+1) W9 hp9 hq9 (hSl.same fun k hk=>hB49.block k hk) hB49.size);obtain⟨SC,hSC⟩:∃SC:Value->Array Value,SC=fun E=>#[.int .i64 p.t.n,.int .i64 p.t.ins,.int .i64 p.t.outs,.slice A4 p.t.cases.length kc4,.int .i64 p.a.n,.slice SV4 p.a.sts.length ks4,.int .i64 p.k,.int .i64 0,.slice none 0 0,E]:=⟨_,rfl⟩
 have H0:Hid (BlIn p W9.heap.size w4.heap.size (w4.heap.size+1+1) (w4.heap.size+1) w4.heap.size SC W9 [] (.slice none 0 0) (.slice none 0 0) W9):=
  ⟨Wrote.refl _ _,⟨y7,⟨0,ym⟩,OwnV.nil _ _,fun k e=>(by cases e),by omega,by omega,by omega⟩,by rw[hSC];exact y5,OwnX.nil _ _ _ _,fun k e=>(by cases e)⟩
 have HBB:Hid (BlB W9.heap.size w4.heap.size (w4.heap.size+1+1) (w4.heap.size+1) w4.heap.size W9):=⟨rfl,by omega,by omega,by omega,⟨by omega,by omega,by omega⟩,by omega,by omega⟩;have HSC:=zH hSC;have HB49:=zH hB49;have HQ9:=zH hq9;clear hex hW9 hB89 hB48 hB49 hp9 hq9 y5 y7 y8 ym hsl hSl hSC hm0 x5 x6 x7 x8 hB5 hB6 hB7 hB8;rw[h8e];rw[h8e] at HIT HP9 HQ9;go_wp2_with fail
 refine XT rfl (N0 Tryz.func137 (by kernel_rfl) rfl) HIT.out (by rintro k (h | rfl | rfl)<;>omega) (fun _=>rfl)
  (fun (pre:List { x:Nat×Nat // x∈zr (zJ p.a K 0).length 0 p.t.cases.length }) (X:Ba)=>∃V E,BlIn p W9.heap.size w4.heap.size (w4.heap.size+1+1) (w4.heap.size+1) w4.heap.size SC W9 (jZ (zJ p.a K 0) (pre.map (·.1))) V E X)
  (fun _ _ _=>False) ?hI (fun _ _ _ _ _ h _ _=>h) ⟨_,_,H0.out⟩ ?a1 ?assign ?body ?done ?stop
 case hI=>
  rintro s X X' row ⟨V,E,h⟩ hg hr;exact⟨V,E,h.turn HBB.out hg hr⟩
 case assign=>
  intro l x X K' hK;gi_wp2;exact hK
 case body=>
  rintro l pre x X ⟨V,E,hI⟩ hlt;obtain⟨hx0,hx1,hx2⟩:=qc _ _ _ x.2;have hb49:=HB49.out;have hbX:=hI.bel HBB.out;have hbw:Below w.heap.size w X:=B4.out.trans ((hb49.trans hbX).mono (by omega));have hM:x.1.1<p.t.cases.length:=by omega
  obtain⟨bc,oc,A0,c0,A1,c1,A2,c2,eA,hbc,i0,_,_,I0,_,_⟩:=(HA.out.keep hbw).row x.1.1 hM;subst eA;obtain⟨AL,cl_,esl,hRL⟩:=HSL.out x.1.2 hx2;have hwm:=Ld (l:=zJ p.a K 0) hx2;have hgd:(zJ p.a K 0).getD x.1.2 []=(zJ p.a K 0)[x.1.2]:=by rw[Lj,Lm hx2];rfl
  have hinp:yt p x.1.1=p.t.cases[x.1.1].inp:=by unfold yt;rw[Lj,Lm hM];rfl
  obtain⟨word,hword⟩:=Ki ((zJ p.a K 0)[x.1.2]);rw[hword] at esl hRL hwm hgd;have hwk:=xy p.a K 0 word hwm;have HWM:=zH (kV p.a K 0 word hwm);obtain⟨AV,kv,rfl⟩:=hI.bd.own.lit;obtain⟨AE,ke,rfl,_,_,_⟩:=hI.out.form zR;have HII:=zH hI;have hll:(jZ (zJ p.a K 0) (pre.map (·.1))).length=pre.length:=by simp[jZ]
  have hfew:=Zi p (by omega) (jZ (zJ p.a K 0) (pre.map (·.1))) (fun y hy=>by
   obtain⟨z,hz,rfl⟩:=LX.1 hy;obtain⟨z2,hz2,rfl⟩:=LX.1 hz;have h2:=(qc _ _ _ z2.2).2.2;have e2:(zJ p.a K 0).getD z2.1.2 []=(zJ p.a K 0)[z2.1.2]:=by rw[Lj,Lm h2];rfl
   show((zJ p.a K 0).getD z2.1.2 []).length<=6;rw[e2,xy p.a K 0 _ (Ld h2)]
   exact hK6)
  rw[hll] at hfew
  have hpl:pre.length<60:=by
   have h6:(zr (zJ p.a K 0).length 0 p.t.cases.length).length<=60:=by
    rw[js,yF,Po];have:=HEX.out;omega
   omega
  obtain⟨PL,hPL⟩:=Ki (jZ (zJ p.a K 0) (pre.map (·.1)));have HPL0:=zH hPL;rw[hPL] at hI HII hfew hll;have hD9:=hI.big HBB.out;have e7:X.cell? ⟨w4.heap.size,9,none⟩=some (.slice AE (zC p PL).2.length ke):=zh hI.sys 9 (by rw[HSC.out];rfl);have f7:=zi hI.sys 9;have e8:X.cell? ⟨w4.heap.size+1+1+1,0,none⟩=some (.pointer (some ⟨w4.heap.size+1+1,0,none⟩)):=zh ((hI.same HBB.out (by omega) (by omega) (by omega) (by omega)).trans HY8.out) 0 rfl;have e3:X.cell? ⟨w.heap.size,3,none⟩=some (.slice (some ⟨bc,oc,none⟩) p.t.cases.length kc):=zh (Lb hbX (by omega) (Lb hb49 (by omega) D04.out)) 3 rfl;have hI0:((x.1.1:Nat):Int)<(p.t.cases.length:Int):=by omega
  have hI1:(0:Int)<=((x.1.1:Nat):Int):=by omega
  have HKP:Hid (∀W,Below X.heap.size X W->W.cell? ⟨w4.heap.size,9,none⟩=some (.slice AE (zC p PL).2.length ke)/\W.cell? ⟨w4.heap.size+1+1+1,0,none⟩=some (.pointer (some ⟨w4.heap.size+1+1,0,none⟩))/\W.cell? ⟨w.heap.size,3,none⟩=some (.slice (some ⟨bc,oc,none⟩) p.t.cases.length kc)/\W.cell? ⟨bc,oc+x.1.1*3,none⟩=some (.slice A0 p.t.cases[x.1.1].inp.length c0)):=fun W hW=>
   ⟨(hW.cell (p:=⟨w4.heap.size,9,none⟩) (by show w4.heap.size<_;omega)).trans e7,(hW.cell (p:=⟨w4.heap.size+1+1+1,0,none⟩) (by show w4.heap.size+1+1+1<_;omega)).trans e8,(hW.cell (p:=⟨w.heap.size,3,none⟩) (by show w.heap.size<_;omega)).trans e3,(hW.cell (p:=⟨bc,_,none⟩) (by show bc<_;omega)).trans i0⟩
  have HFEW:=zH hfew;have HWK:=zH hwk;have HGD:=zH hgd;have HINP:=zH hinp;have HI0:=zH I0;have HRL:=zH hRL;have HBX:=zH hbX;clear hI hbX hbw hgd hinp hwk hfew hll hword hwm I0 hRL hPL
  try dsimp only
  rw[esl];gi_wp2_with fail
  refine xJ [(0,true),(1,true),(2,true),(3,true),(5,true),(6,true),(7,true),(8,true),(9,true),(10,true),(11,true),(12,true),(13,true),(4,false),(14,false),(15,false),(16,false),(17,false),(18,false),(19,false)]
   (fun W=>W.cell? ⟨w4.heap.size,9,none⟩=some (.slice AE (zC p PL).2.length ke)/\W.cell? ⟨w4.heap.size+1+1+1,0,none⟩=some (.pointer (some ⟨w4.heap.size+1+1,0,none⟩))/\W.cell? ⟨w.heap.size,3,none⟩=some (.slice (some ⟨bc,oc,none⟩) p.t.cases.length kc)/\W.cell? ⟨bc,oc+x.1.1*3,none⟩=some (.slice A0 p.t.cases[x.1.1].inp.length c0))
   (by kernel_rfl) (by kernel_rfl) (by kernel_rfl) (by rintro⟨_,_,h⟩;exact h) (HKP.out _ (Lo _ _).drew) ?_
  clear e7 e8 e3 i0
  repeat
   apply zG rfl
   . rintro K' hK' W ⟨y0,y1,y2,y3⟩
     go_simp;exact hK'
  have hRX:RAt X w4.heap.size AL word:=HRL.out.keep (HB49.out.trans HBX.out)
  -- the word's copy
  refine zE rfl ?_;intro K' hK';go_simp;refine(Y3 AL word.length cl_ (yO word) X.drew (xS word) (Zr (w:=X.drew) (hRX.more (by show w4.heap.size<=X.heap.size;omega))) (vx word) (by have:=HWK.out;omega)).mono ?_;rintro e w5 ⟨v5,rfl,ho5,hb5⟩;have hb5:Below X.heap.size X w5:=Q7 hb5;have ho5:OwnR kRd w5 X.heap.size v5 word.length (yO word):=ho5;obtain⟨A5,c5,rfl,hcap5,_,hl5⟩:=vu ho5;have HCP5:=zH hcap5;clear hcap5;refine hK' _ _ (HKP.out _ hb5) ?_;clear hK' K' ho5
  -- the views
  refine zE rfl ?_;intro K' hK';go_simp;have hbd5:=HII.out.bd.on hb5;rw[HNN.out] at hbd5;have hs5:=hb5.size;have hin:(p.t.cases[x.1.1].inp).length=N:=by have:=HTI.out _ (Ld hM);have:=HNN.out;omega
  have hIX:IAt w5 w4.heap.size A0 p.t.cases[x.1.1].inp:=(HI0.out.keep (hb5.mono (by omega:w.heap.size<=X.heap.size))).more (by omega)
  have HPL:=zH (play_any w4.heap.size (w4.heap.size+1+1) (w4.heap.size+1) N (by have:=HNN.out;omega) (by have:=HNN.out;omega) (.slice AV (zC p PL).1.length kv) (zC p PL).1 (by have:=HFEW.out;omega) p.t.cases[x.1.1].inp hin word (by have:=HWK.out;omega) (fun r hr=>by
   obtain⟨m,hm,rfl⟩:=HWM.out r hr;obtain⟨z1,z2,_⟩:=xT (yU HFX.out.1.2 HPA.out).1 m hm
   exact⟨z1,by rw[z2,<-HPN.out,HNN.out]⟩) A0 AL c0 cl_ w5 (by omega) hbd5 hIX (hRX.keep (hb5.mono (by omega))))
  refine HPL.out.mono ?_;rintro e w6 ⟨v6,V6,rfl,hd6,ho6,hx6,hn6⟩;obtain⟨AV6,kv6,rfl⟩:=hd6.own.lit;obtain⟨VV,hVV⟩:=Ki ((zA (zC p PL).1 N p.t.cases[x.1.1].inp word word.length).1);have HVV:=zH hVV
  have hVVl:VV.length<=4000:=by
   have h2:=kJ (zC p PL).1 N p.t.cases[x.1.1].inp word word.length;have h4:(word.length+1)*N<=7*5:=LO (by have:=HWK.out;omega) (by have:=HNN.out;omega);have h5:=HFEW.out;rw[hVV] at h2;omega
  rw[hVV] at hd6 ho6 hx6 hn6;clear hVV;clear HPL hbd5 hRX hIX hin;obtain⟨A6,c6,rfl,_,_,hl6⟩:=Y9 hx6;have hv6:=fun k hk=>(hx6.lt k hk).1
  have HB5:=zH hb5;have HL5:=zH hl5;have HD6:=zH hd6;have HO6:=zH ho6;have HL6:=zH hl6;have HN6:=zH hn6;have HV6:=zH hv6;have hs6b:=ho6.1.size
  have HK6:Hid (∀(k o:Nat) (u:Value),k≠w4.heap.size+1+1->k≠w4.heap.size+1->k<W9.heap.size->w5.cell? ⟨k,o,none⟩=some u->w6.cell? ⟨k,o,none⟩=some u):=fun k o u h1 h2 h3 hc=>
   (LA (ho6.1.block k (by omega) fun hr=>by
    rcases hr with e | e | e
    . exact h1 e
    . exact h2 e
    . have:=(HII.out.no k e).1;omega)).trans hc
  have k5:=HKP.out _ hb5
  have k6:w6.cell? ⟨w4.heap.size,9,none⟩=some (.slice AE (zC p PL).2.length ke)/\w6.cell? ⟨w4.heap.size+1+1+1,0,none⟩=some (.pointer (some ⟨w4.heap.size+1+1,0,none⟩))/\w6.cell? ⟨w.heap.size,3,none⟩=some (.slice (some ⟨bc,oc,none⟩) p.t.cases.length kc)/\w6.cell? ⟨bc,oc+x.1.1*3,none⟩=some (.slice A0 p.t.cases[x.1.1].inp.length c0):=
   ⟨HK6.out _ _ _ (by omega) (by omega) (by omega) k5.1,HK6.out _ _ _ (by omega) (by omega) (by omega) k5.2.1,HK6.out _ _ _ (by omega) (by omega) (by omega) k5.2.2.1,HK6.out _ _ _ (by omega) (by omega) (by omega) k5.2.2.2⟩
  refine hK' _ _ k6 ?_;clear hK' K' hb5 hl5 hd6 ho6 hx6 hl6 hn6 hv6 k5;have HK7:=zH k6;obtain⟨VS,hVS⟩:=Ki ((zA (zC p PL).1 N p.t.cases[x.1.1].inp word word.length).2);have HVS:=zH hVS;rw[hVS] at HL6 HV6 HN6 ⊢;clear hVS k6
  -- the execution
  refine zE rfl ?_;intro K' hK';go_simp;refine hK' _ _ HK7.out ?_;clear hK' K';refine zE rfl ?_;intro K' hK';go_simp;obtain⟨W7e,hW7e,d7,hs7e,hB7e⟩:=zn w6 #[.int .i64 x.1.1,.slice A5 word.length c5,.slice A6 VS.length c6] 56;rw[hW7e];clear hW7e
  have k7:W7e.cell? ⟨w4.heap.size,9,none⟩=some (.slice AE (zC p PL).2.length ke)/\W7e.cell? ⟨w4.heap.size+1+1+1,0,none⟩=some (.pointer (some ⟨w4.heap.size+1+1,0,none⟩))/\W7e.cell? ⟨w.heap.size,3,none⟩=some (.slice (some ⟨bc,oc,none⟩) p.t.cases.length kc)/\W7e.cell? ⟨bc,oc+x.1.1*3,none⟩=some (.slice A0 p.t.cases[x.1.1].inp.length c0):=
   ⟨(hB7e.cell (p:=⟨w4.heap.size,9,none⟩) (by show w4.heap.size<_;omega)).trans HK7.out.1,(hB7e.cell (p:=⟨w4.heap.size+1+1+1,0,none⟩) (by show w4.heap.size+1+1+1<_;omega)).trans HK7.out.2.1,(hB7e.cell (p:=⟨w.heap.size,3,none⟩) (by show w.heap.size<_;omega)).trans HK7.out.2.2.1,(hB7e.cell (p:=⟨bc,_,none⟩) (by show bc<_;omega)).trans HK7.out.2.2.2⟩
  refine hK' _ _ k7 ?_;clear hK' K';refine zE rfl ?_;intro K' hK';rw[Lh (by rfl)];have hou:=HII.out.outn HBB.out HB5.out HO6.out;have hrl:=qf p PL;have hll:PL.length=pre.length:=by rw[<-HPL0.out];simp[jZ]
  obtain⟨css,hcl,hcr,hcs⟩:=hou.1.below zR hB7e (Le _);refine kU kXn_ok (.tmp 50) (.tmp 65) (by rfl) W9.heap.size (.slice AE (zC p PL).2.length ke) (zC p PL).2.length css.flatten (by rfl) hcr w6.heap.size #[.int .i64 x.1.1,.slice A5 word.length c5,.slice A6 VS.length c6] (by rfl) d7 rfl (by simp[Value.oneCell']) (by omega) (by omega) _ rfl ?_;intro g' cap w8 hr hg hat hlt8;clear hrl hll;have hX:=HII.out.lies (i:=x.1.1) (c2:=c5) (c3:=c6) HBB.out HB5.out HO6.out hB7e HL5.out HL6.out HV6.out HN6.out HCP5.out
  have hPW:zA (zC p PL).1 p.t.n.toNat (yt p x.1.1) word word.length=zA (zC p PL).1 N p.t.cases[x.1.1].inp word word.length:=by
   rw[HINP.out,show p.t.n.toNat=N by have:=HNN.out;omega]
  have hd7:BdIn w4.heap.size (w4.heap.size+1+1) (w4.heap.size+1) p.t.n (.slice AV6 VV.length kv6) (zA (zC p PL).1 p.t.n.toNat (yt p x.1.1) word word.length).1 w6:=by
   rw[hPW,HVV.out,HNN.out];exact HD6.out
  have hX7:XN.lies (fun k=>(W9.heap.size<=k/\(Value.slice AV6 VV.length kv6).ownBlock≠some k)/\(Value.slice AE (zC p PL).2.length ke).ownBlock≠some k) W7e [.int .i64 x.1.1,.slice A5 word.length c5,.slice A6 VS.length c6] ⟨x.1.1,word,(zA (zC p PL).1 p.t.n.toNat (yt p x.1.1) word word.length).2⟩:=by rw[hPW,HVS.out];exact hX
  have HNX:=HII.out.next (x:=(x.1.1,word)) HBB.out HB5.out HO6.out hB7e hd7 (fun E'=>by rw[HSC.out];rfl) hcl hcs hX7 hr hg hat;have HNX:=zH HNX;have hEl:=HII.out.out.lt
  have k8:∀(k o:Nat) (u:Value),k<W9.heap.size->W7e.cell? ⟨k,o,none⟩=some u->w8.cell? ⟨k,o,none⟩=some u:=fun k o u h3 hc=>
   (LA (hg.block k (by omega) fun e=>by have:=(hEl k e.symm).1;omega)).trans hc
  have hs8:=hg.size;have HP8:=zH (⟨k8 _ _ _ (by omega) k7.1,k8 _ _ _ (by omega) k7.2.1,k8 _ _ _ (by omega) k7.2.2.1,k8 _ _ _ (by omega) k7.2.2.2⟩:w8.cell? ⟨w4.heap.size,9,none⟩=some (.slice AE (zC p PL).2.length ke)/\w8.cell? ⟨w4.heap.size+1+1+1,0,none⟩=some (.pointer (some ⟨w4.heap.size+1+1,0,none⟩))/\w8.cell? ⟨w.heap.size,3,none⟩=some (.slice (some ⟨bc,oc,none⟩) p.t.cases.length kc)/\w8.cell? ⟨bc,oc+x.1.1*3,none⟩=some (.slice A0 p.t.cases[x.1.1].inp.length c0))
  have f8:w8.frozen? ⟨w4.heap.size,9,none⟩=false:=by
   have z:=HNX.out.1.sys;have z2:=zi z 9;rwa[World.frozen?_setCell] at z2
  refine hK' _ _ HP8.out ?_;clear hK' K' hr hg hat hX hX7 hcl hcr hcs hou k7 k8 hd7 hPW;refine zE rfl ?_;intro K' hK';go_simp;refine hK' _ _ HP8.out ?_;clear hK' K';have e9:=HP8.out.1;refine xa rfl (by kernel_rfl) ?_;intro K' hK';go_simp;refine hK' (fun _=>True) _ _ trivial ?_;refine zQ ?_;clear hK' K' e9 f8
  try dsimp only
  obtain⟨WF,hWF⟩:=Ki (w8.setCell ⟨w4.heap.size,9,none⟩ (.slice (some ⟨g',0,none⟩) ((zC p PL).2.length+1) cap));rw[hWF] at HNX ⊢;clear hWF;have hNX:=HNX.out.1;have a8:WF.cell? ⟨w4.heap.size+1+1+1,0,none⟩=some (.pointer (some ⟨w4.heap.size+1+1,0,none⟩)):=zh ((hNX.same HBB.out (by omega) (by omega) (by omega) (by omega)).trans HY8.out) 0 rfl;have b8:WF.cell? ⟨w4.heap.size+1+1,1,none⟩=some (.slice AV6 VV.length kv6):=zh hNX.bd.hB 1 rfl;have hng:¬(8192:Int)<(VV.length:Int):=by omega
  clear hNX;gi_wp2_with fail;have hNX:=HNX.out;rw[hs9] at hNX;refine⟨hNX.2.1,hNX.2.2.keep fun k hk hs hr=>?_,⟨.slice AV6 VV.length kv6,.slice (some ⟨g',0,none⟩) ((zC p PL).2.length+1) cap,?_⟩⟩
  . have:=hb49.size
    rcases hs with hs | hs | hs<;>rcases hr with e | e | e | e<;>omega
  . rw[LI,List.map_singleton,prsW_snoc,HPL0.out,HGD.out]
    exact hNX.1
 case done=>
  rintro D ys X hD hys ⟨V,E,hI⟩ hDk;rw[hys,YI p K HKE.out] at hI;obtain⟨AV,kv,rfl⟩:=hI.bd.own.lit;obtain⟨AE,ke,rfl,hke1,hke2,_⟩:=hI.out.form zR;have HII:=zH hI;have hb49:=HB49.out;have hbX:=hI.bel HBB.out;have hD9:=hI.big HBB.out;have HDk:=zH hDk;have hDX:D<X.heap.size:=zj hDk;have e8:X.cell? ⟨w4.heap.size+1+1+1,0,none⟩=some (.pointer (some ⟨w4.heap.size+1+1,0,none⟩)):=zh ((hI.same HBB.out (by omega) (by omega) (by omega) (by omega)).trans HY8.out) 0 rfl;have hsy:=hI.sys;rw[HSC.out] at hsy;have t7:X.cell? ⟨w4.heap.size,7,none⟩=some (.int .i64 0):=zh hsy 7 rfl;have t8:X.cell? ⟨w4.heap.size,8,none⟩=some (.slice none 0 0):=zh hsy 8 rfl;have u7:=zi hsy 7;have u8:=zi hsy 8;have HSY:=zH hsy;have HBX:=zH hbX;have hbd:=hI.bd.hB;have N1X:=(hbX.block (w.heap.size+1) (by omega)).trans (Lb hb49 (by omega) D14.out);have N2X:=(hbX.block (w.heap.size+1+1) (by omega)).trans (Lb hb49 (by omega) D24.out);have HN1:=zH N1X;have HN2:=zH N2X;clear hI hbX hsy hDk hys H0 HIT N1X N2X;go_wp2_with fail
  refine zz [(0,true),(1,true),(2,true),(3,true),(4,true),(5,true),(6,true),(7,true),(8,false),(9,false),(10,false)]
   (fun W=>W.cell? ⟨w4.heap.size+1+1+1,0,none⟩=some (.pointer (some ⟨w4.heap.size+1+1,0,none⟩))/\W.heap[w4.heap.size+1+1]?=some (.cells #[.int .i64 p.t.n,.slice AV (zC p (zx p)).1.length kv,.map (some (w4.heap.size+1))] 172 (0,0)))
   (by kernel_rfl) (by kernel_rfl) ⟨e8,hbd⟩ ?_
  clear e8 hbd
  repeat
   apply zG rfl
   . rintro K' hK' W ⟨y0,y1⟩
     have z0:W.cell? ⟨w4.heap.size+1+1,0,none⟩=some (.int .i64 p.t.n):=zh y1 0 rfl;have z1:W.cell? ⟨w4.heap.size+1+1,1,none⟩=some (.slice AV (zC p (zx p)).1.length kv):=zh y1 1 rfl;clear y1;go_simp;exact hK'
  have e8:X.cell? ⟨w4.heap.size+1+1+1,0,none⟩=some (.pointer (some ⟨w4.heap.size+1+1,0,none⟩)):=zh ((HII.out.same HBB.out (by omega) (by omega) (by omega) (by omega)).trans HY8.out) 0 rfl;refine zE rfl ?_;intro K' hK';go_simp;refine hK' _ _ ⟨e8,HII.out.bd.hB⟩ ?_;clear hK' K';refine zE rfl ?_;intro K' hK';go_simp;refine hK' _ _ ⟨e8,HII.out.bd.hB⟩ ?_;clear hK' K';refine xa rfl (by kernel_rfl) ?_;intro K' hK';go_simp;refine hK' (fun _=>True) _ _ trivial ?_;refine zQ ?_;clear hK' K' e8 t7 t8 u7 u8;obtain⟨W7,hW7⟩:=Ki (((X.setCell ⟨w4.heap.size,7,none⟩ (.int .i64 p.t.n)).setCell ⟨w4.heap.size,8,none⟩ (.slice AV (zC p (zx p)).1.length kv)).drew)
  have hs7:W7.heap[w4.heap.size]?=some (.cells #[.int .i64 p.t.n,.int .i64 p.t.ins,.int .i64 p.t.outs,.slice A4 p.t.cases.length kc4,.int .i64 p.a.n,.slice SV4 p.a.sts.length ks4,.int .i64 p.k,.int .i64 p.t.n,.slice AV (zC p (zx p)).1.length kv,.slice AE (zC p (zx p)).2.length ke] 35 (0,0)):=by
   rw[<-hW7];have q1:(X.setCell ⟨w4.heap.size,7,none⟩ (.int .i64 p.t.n)).heap[w4.heap.size]?=some (.cells #[.int .i64 p.t.n,.int .i64 p.t.ins,.int .i64 p.t.outs,.slice A4 p.t.cases.length kc4,.int .i64 p.a.n,.slice SV4 p.a.sts.length ks4,.int .i64 p.k,.int .i64 p.t.n,.slice none 0 0,.slice AE (zC p (zx p)).2.length ke] 35 (0,0)):=Ll X w4.heap.size 7 _ _ _ HSY.out;exact Ll _ w4.heap.size 8 _ _ _ q1
  have ho7:∀k,k≠w4.heap.size->W7.heap[k]?=X.heap[k]?:=fun k hk=>by
   rw[<-hW7];exact(Lf _ ⟨w4.heap.size,8,none⟩ _ k hk).trans (Lf _ ⟨w4.heap.size,7,none⟩ _ k hk)
  have hb7:Below w.heap.size w W7:=by
   rw[<-hW7];exact(((B4.out.trans ((hb49.trans HBX.out).mono (by omega))).setCell (p:=⟨w4.heap.size,7,none⟩) (by show w.heap.size<=w4.heap.size;omega) _).setCell (p:=⟨w4.heap.size,8,none⟩) (by show w.heap.size<=w4.heap.size;omega) _).drew
  have hz7:W7.heap.size=X.heap.size:=by rw[<-hW7];show(World.setCell _ _ _).heap.size=_;simp
  have N17:=(ho7 (w.heap.size+1) (by omega)).trans HN1.out;have N27:=(ho7 (w.heap.size+1+1) (by omega)).trans HN2.out;have s0:W7.cell? ⟨w4.heap.size,0,none⟩=some (.int .i64 p.t.n):=zh hs7 0 rfl;have s1:W7.cell? ⟨w4.heap.size,1,none⟩=some (.int .i64 p.t.ins):=zh hs7 1 rfl;have s2:W7.cell? ⟨w4.heap.size,2,none⟩=some (.int .i64 p.t.outs):=zh hs7 2 rfl;have s3:W7.cell? ⟨w4.heap.size,3,none⟩=some (.slice A4 p.t.cases.length kc4):=zh hs7 3 rfl;have s4:W7.cell? ⟨w4.heap.size,4,none⟩=some (.int .i64 p.a.n):=zh hs7 4 rfl;have s5:W7.cell? ⟨w4.heap.size,5,none⟩=some (.slice SV4 p.a.sts.length ks4):=zh hs7 5 rfl;have s6:W7.cell? ⟨w4.heap.size,6,none⟩=some (.int .i64 p.k):=zh hs7 6 rfl;have s7:W7.cell? ⟨w4.heap.size,7,none⟩=some (.int .i64 p.t.n):=zh hs7 7 rfl;have s8:W7.cell? ⟨w4.heap.size,8,none⟩=some (.slice AV (zC p (zx p)).1.length kv):=zh hs7 8 rfl;have s9:W7.cell? ⟨w4.heap.size,9,none⟩=some (.slice AE (zC p (zx p)).2.length ke):=zh hs7 9 rfl;have n0:W7.cell? ⟨w.heap.size+1,0,none⟩=some (.int .i64 0):=zh N17 0 rfl;have m0:=zi N17 0;have n1:W7.cell? ⟨w.heap.size+1,1,none⟩=some (.int .i64 0):=zh N17 1 rfl;have m1:=zi N17 1;have n2:W7.cell? ⟨w.heap.size+1,2,none⟩=some (.int .i64 0):=zh N17 2 rfl;have m2:=zi N17 2;have n3:W7.cell? ⟨w.heap.size+1,3,none⟩=some (.slice none 0 0):=zh N17 3 rfl;have m3:=zi N17 3;have n4:W7.cell? ⟨w.heap.size+1,4,none⟩=some (.int .i64 0):=zh N17 4 rfl;have m4:=zi N17 4;have n5:W7.cell? ⟨w.heap.size+1,5,none⟩=some (.slice none 0 0):=zh N17 5 rfl
  have m5:=zi N17 5;have n6:W7.cell? ⟨w.heap.size+1,6,none⟩=some (.int .i64 0):=zh N17 6 rfl;have m6:=zi N17 6;have n7:W7.cell? ⟨w.heap.size+1,7,none⟩=some (.int .i64 0):=zh N17 7 rfl;have m7:=zi N17 7;have n8:W7.cell? ⟨w.heap.size+1,8,none⟩=some (.slice none 0 0):=zh N17 8 rfl;have m8:=zi N17 8;have n9:W7.cell? ⟨w.heap.size+1,9,none⟩=some (.slice none 0 0):=zh N17 9 rfl;have m9:=zi N17 9;have n10:W7.cell? ⟨w.heap.size+1+1,0,none⟩=some (.int .i64 0):=zh N27 0 rfl;have m10:=zi N27 0;have HO7:=zH ho7;have HB7:=zH hb7;have HN17:=zH N17;have HN27:=zH N27;rw[hW7];clear hW7 ho7 hb7 N17 N27 hs7;go_wp2_with fail;obtain⟨k1,k2,k3,k4,k5⟩:=jP (.int .i64 p.t.n) (.int .i64 p.t.ins) (.int .i64 p.t.outs) (.slice A4 p.t.cases.length kc4) (.int .i64 p.a.n) (.slice SV4 p.a.sts.length ks4) (.int .i64 p.k) (.int .i64 p.t.n) (.slice AV (zC p (zx p)).1.length kv) (.slice AE (zC p (zx p)).2.length ke) (.int .i64 0) HN17.out HN27.out (by omega) HB7.out (by omega:w.heap.size<=w.heap.size+1) (by omega:w.heap.size<=w.heap.size+1+1)
  obtain⟨WF,hWF⟩:=Ki ((((((((((((W7.setCell ⟨w.heap.size+1,0,none⟩ (.int .i64 p.t.n)).setCell ⟨w.heap.size+1,1,none⟩ (.int .i64 p.t.ins)).setCell ⟨w.heap.size+1,2,none⟩ (.int .i64 p.t.outs)).setCell ⟨w.heap.size+1,3,none⟩ (.slice A4 p.t.cases.length kc4)).setCell ⟨w.heap.size+1,4,none⟩ (.int .i64 p.a.n)).setCell ⟨w.heap.size+1,5,none⟩ (.slice SV4 p.a.sts.length ks4)).setCell ⟨w.heap.size+1,6,none⟩ (.int .i64 p.k)).setCell ⟨w.heap.size+1,7,none⟩ (.int .i64 p.t.n)).setCell ⟨w.heap.size+1,8,none⟩ (.slice AV (zC p (zx p)).1.length kv)).setCell ⟨w.heap.size+1,9,none⟩ (.slice AE (zC p (zx p)).2.length ke)).setCell ⟨w.heap.size+1+1,0,none⟩ (.int .i64 0)));rw[hWF] at k1 k2 k3 k4 k5 ⊢;clear hWF;have hall:∀k,k≠w4.heap.size->k≠w.heap.size+1->k≠w.heap.size+1+1->WF.heap[k]?=X.heap[k]?:=fun k a b c=>(k5 k b c).trans (HO7.out k a)
  have hsf:WF.heap.size=X.heap.size:=k4.trans hz7;have hDf:WF.heap[D]?=some (.deferred (some [])):=(hall D (by omega) (by omega) (by omega)).trans HDk.out
  have hlow:∀k,k<w4.heap.size->k≠w.heap.size+1->k≠w.heap.size+1+1->WF.heap[k]?=w4.heap[k]?:=fun k a b c=>
   (hall k (by omega) b c).trans ((HBX.out.block k a).trans (hb49.block k a))
  have hsz49:w4.heap.size<=WF.heap.size:=by omega
  have RA:RowX cCs (fun b=>((L0<=b/\b<B0)\/w3.heap.size<=b)/\b<w4.heap.size) WF g4 p.t.cases:=(HA4.out.mono xY fun b hb hs=>⟨hs,hb⟩).keep xY ⟨hsz49,fun k hk _=>hlow k hk.1.2 (by have:=hk.1.1;omega) (by have:=hk.1.1;omega)⟩ (hlow g4 HA4.out.lt (by omega) (by omega));have RS:RowX cMl (fun b=>((L0<=b/\b<B0)\/w3.heap.size<=b)/\b<w4.heap.size) WF gm4 p.a.sts:=(HS4.out.mono qZ fun b hb hs=>⟨hs,hb⟩).keep qZ ⟨hsz49,fun k hk _=>hlow k hk.1.2 (by have:=hk.1.1;omega) (by have:=hk.1.1;omega)⟩ (hlow gm4 HS4.out.lt (by omega) (by omega))
  have RV:OwnV WF w4.heap.size (.slice AV (zC p (zx p)).1.length kv) (zC p (zx p)).1:=HII.out.bd.own.of_same fun k hk=>by
   have:=(HII.out.no k hk).1;exact hall k (by omega) (by omega) (by omega)
  have RX:OwnX XN (fun k=>W9.heap.size<=k/\(Value.slice AV (zC p (zx p)).1.length kv).ownBlock≠some k) WF W9.heap.size (.slice AE (zC p (zx p)).2.length ke) (zC p (zx p)).2:=
   HII.out.out.keep zR ⟨by omega,fun k hk _=>hall k (by have:=hk.1;omega) (by have:=hk.1;omega) (by have:=hk.1;omega)⟩ fun k hk=>by
    have:=(HII.out.out.lt k hk).1;exact hall k (by omega) (by omega) (by omega)
  have hpl:(zx p).length<=60:=by
   have h1:=congrArg List.length (YI p K HKE.out);rw[jZ,LR,js,yF] at h1;have:=HEX.out;rw[<-h1,Po];omega
  have hfew:=Zi p (by have:=HNN.out;omega) (zx p) (fun y hy=>by
   unfold zx at hy;obtain⟨d,_,hy⟩:=NL.1 hy;obtain⟨w',hw',rfl⟩:=LX.1 hy;show w'.length<=6;rw[xy p.a _ 0 w' hw',HKE.out]
   exact hK6)
  refine xj (B:=W9.heap.size) (jx (by omega) hDf) ?_;intro W hX;have c0:W.cell? ⟨w.heap.size+1,0,none⟩=some (.int .i64 p.t.n):=hX.cell (zh k1 0 rfl);have c1:W.cell? ⟨w.heap.size+1,1,none⟩=some (.int .i64 p.t.ins):=hX.cell (zh k1 1 rfl);have c2:W.cell? ⟨w.heap.size+1,2,none⟩=some (.int .i64 p.t.outs):=hX.cell (zh k1 2 rfl);have c3:W.cell? ⟨w.heap.size+1,3,none⟩=some (.slice A4 p.t.cases.length kc4):=hX.cell (zh k1 3 rfl);have c4:W.cell? ⟨w.heap.size+1,4,none⟩=some (.int .i64 p.a.n):=hX.cell (zh k1 4 rfl);have c5:W.cell? ⟨w.heap.size+1,5,none⟩=some (.slice SV4 p.a.sts.length ks4):=hX.cell (zh k1 5 rfl);have c6:W.cell? ⟨w.heap.size+1,6,none⟩=some (.int .i64 p.k):=hX.cell (zh k1 6 rfl);have c7:W.cell? ⟨w.heap.size+1,7,none⟩=some (.int .i64 p.t.n):=hX.cell (zh k1 7 rfl);have c8:W.cell? ⟨w.heap.size+1,8,none⟩=some (.slice AV (zC p (zx p)).1.length kv):=hX.cell (zh k1 8 rfl);have c9:W.cell? ⟨w.heap.size+1,9,none⟩=some (.slice AE (zC p (zx p)).2.length ke):=hX.cell (zh k1 9 rfl);have c10:W.cell? ⟨w.heap.size+1+1,0,none⟩=some (.int .i64 0):=hX.cell (zh k2 0 rfl);have hXs:=hX.below.size;obtain⟨AV',kv',eV,hTV⟩:=(show OwnV W w4.heap.size _ _ from hX.own RV).form (by omega)
  cases eV
  obtain⟨AE',ke',eE,_,_,hXA,_⟩:=jX (RX.turn zR hXs hX.same)
  cases eE
  refine⟨.tuple #[.agg #[.int .i64 p.t.n,.int .i64 p.t.ins,.int .i64 p.t.outs,.slice A4 p.t.cases.length kc4,.int .i64 p.a.n,.slice SV4 p.a.sts.length ks4,.int .i64 p.k,.int .i64 p.t.n,.slice AV (zC p (zx p)).1.length kv,.slice AE (zC p (zx p)).2.length ke],.int .i64 0],by simp[results,Tryz.results60,go_sem,c0,c1,c2,c3,c4,c5,c6,c7,c8,c9,c10],?_⟩;rw[HB.out];refine⟨A4,kc4,SV4,ks4,AV,kv,AE,ke,rfl,fun W' hzW hsm=>⟨?_,?_,?_,?_⟩,hTV.lec,hTV.lem,k3.trans (hX.below.mono (by omega))⟩
  . rw[HA4e.out]
    have R:=RA.turnC xY hXs hX.same;have hg4:=HA4.out.lt;exact(R.keep xY ⟨hzW,fun k hk hl=>hsm k (by have:=hk.1.1;omega) hl⟩ (hsm g4 (by omega) (by omega))).cat
  . rw[HS4e.out]
    have R:=RS.turnC qZ hXs hX.same;have hg4:=HS4.out.lt;exact(R.keep qZ ⟨hzW,fun k hk hl=>hsm k (by have:=hk.1.1;omega) hl⟩ (hsm gm4 (by omega) (by omega))).sat
  . have RV2:=(show OwnV W w4.heap.size _ _ from hX.own RV)
    obtain⟨AV',kv',eV,hTV⟩:=(RV2.of_same (w':=W') fun k hk=>hsm k (.inr (by have:=(OwnV.lt RV2 k hk).1;omega)) (OwnV.lt RV2 k hk).2).form (by omega)
    cases eV
    exact hTV.rows
  . have RX2:=RX.turn zR hXs hX.same
    obtain⟨AE',ke',eE,_,_,hXA,_⟩:=jX (RX2.keep (w':=W') zR ⟨hzW,fun k hk hl=>hsm k (.inr (by have:=hk.1;omega)) hl⟩ fun k hk=>hsm k (.inr (by have:=(RX2.lt k hk).1;omega)) (RX2.lt k hk).2)
    cases eE
    exact hXA
 case stop=>
  intro D c pre W _ _ h;exact h.elim
theorem buildF_any(p:Pb)(hf:yR p)(A:Bb)(kc:Nat)(SV:Bb)(ks:Nat)(w:Ba)(B0:Nat)(hB0:B0<=w.heap.size)(hA0:CAt w B0 A p.t.cases)(hS0:SAt w B0 SV p.a.sts) :
  Calls Tryz.prog 60 #[.agg (p.vs A kc SV ks)] w (RetSysF 0 B0 (zY p) w):=
 buildL_any p hf A kc SV ks w 0 B0 hB0 hA0 hS0 (CAtL.of hA0 hB0) (SAtL.of hS0 hB0)
theorem build_any(p:Pb)(hf:yR p)(A:Bb)(kc:Nat)(SV:Bb)(ks:Nat)(w:Ba)(hA:CAt w w.heap.size A p.t.cases)(hS:SAt w w.heap.size SV p.a.sts) :
  Calls Tryz.prog 60 #[.agg (p.vs A kc SV ks)] w (RetSys (zY p) w):=
 (buildF_any p hf A kc SV ks w w.heap.size (Le _) hA hS).mono fun _ _ h=>h.sys
end
section
open Go.RowKit
attribute [local go_sem] Oper.semAt_some
def hq(f:Nat->Int)(k j:Nat):Int:=if j<k then f j else 0
def vq(p r i:Int)(f:Nat->Int)(k:Nat):Array Value:=#[.int .i64 p,.int .i64 r,.int .i64 i,.int .i64 (hq f k 0),.int .i64 (hq f k 1),.int .i64 (hq f k 2),.int .i64 (hq f k 3),.int .i64 (hq f k 4)]
theorem Jf(p r i:Int)(f:Nat->Int)(k:Nat)(hk:k<5):(vq p r i f k).setIfInBounds (3+k) (.int .i64 (f k))=vq p r i f (k+1):=by
 match k,hk with
 | 0,_=>rfl
 | 1,_=>rfl
 | 2,_=>rfl
 | 3,_=>rfl
 | 4,_=>rfl
theorem vq_set2(p r i:Int)(f:Nat->Int)(k:Nat)(hk:k<5)(u:Value):((vq p r i f k).setIfInBounds (3+k) u).setIfInBounds (3+k) (.int .i64 (f k))=vq p r i f (k+1):=by
 match k,hk with
 | 0,_=>rfl
 | 1,_=>rfl
 | 2,_=>rfl
 | 3,_=>rfl
 | 4,_=>rfl
theorem vq_at(p r i:Int)(f:Nat->Int)(k:Nat)(hk:k<5):(vq p r i f k)[3+k]?=some (.int .i64 0):=by
 match k,hk with
 | 0,_=>rfl
 | 1,_=>rfl
 | 2,_=>rfl
 | 3,_=>rfl
 | 4,_=>rfl
theorem first_any(p:Nat)(i:Int)(w:Ba):Calls Tryz.prog 85 #[.int .i64 (p:Int),.int .i64 i] w fun e w'=>e=.returned (.agg (yP p i).cells)/\Below w.heap.size w w':=by
 obtain⟨w1,hw1,d0,d1,hs1,hB⟩:=yB w (#[.int .i64 0,.int .i64 0,.int .i64 0,.int .i64 0,.int .i64 0,.int .i64 0,.int .i64 0,.int .i64 0]) (vq p 0 i (fun _=>-1) 0) 128 128;have HW1:=zH hw1;go_enter Tryz.func85,Tryz.ntmps85;go_wp2_with fail;rw[show((w.alloc (.cells #[.int .i64 0,.int .i64 0,.int .i64 0,.int .i64 0,.int .i64 0,.int .i64 0,.int .i64 0,.int .i64 0] 128)).alloc (.cells #[.int .i64 p,.int .i64 0,.int .i64 i,.int .i64 0,.int .i64 0,.int .i64 0,.int .i64 0,.int .i64 0] 128))=w1 from HW1.out];have H0:=zH d0;have H1:=zH d1;have HB:=zH hB;clear hw1 d0 d1 hB
 go_loopw [6] (fun j wr=>∃k:Nat,k<=5/\j=.int .i64 (k:Int)/\Hid (wr.heap[w.heap.size]?=some (.cells #[.int .i64 0,.int .i64 0,.int .i64 0,.int .i64 0,.int .i64 0,.int .i64 0,.int .i64 0,.int .i64 0] 128 (0,0)))/\Hid (wr.heap[w.heap.size+1]?=some (.cells (vq p 0 i (fun _=>-1) k) 128 (0,0)))/\Hid (Below w.heap.size w wr)) (fun j _=>5-(intOf j).toNat)
 case atStart=>exact⟨0,by omega,rfl,H0.out,H1.out,HB.out⟩
 case round=>
  clear H0 H1;obtain⟨k,hk,rfl,H0,H1,HBr⟩:=hrel
  by_cases hk5:k<5
  case neg=>
   obtain rfl:k=5:=by omega
   have x0:wr.cell? ⟨w.heap.size+1,0,none⟩=some (.int .i64 p):=zh H1.out 0 rfl;have x1:wr.cell? ⟨w.heap.size+1,1,none⟩=some (.int .i64 0):=zh H1.out 1 rfl;have x2:wr.cell? ⟨w.heap.size+1,2,none⟩=some (.int .i64 i):=zh H1.out 2 rfl;have x3:wr.cell? ⟨w.heap.size+1,3,none⟩=some (.int .i64 (-1)):=zh H1.out 3 rfl;have x4:wr.cell? ⟨w.heap.size+1,4,none⟩=some (.int .i64 (-1)):=zh H1.out 4 rfl;have x5:wr.cell? ⟨w.heap.size+1,5,none⟩=some (.int .i64 (-1)):=zh H1.out 5 rfl;have x6:wr.cell? ⟨w.heap.size+1,6,none⟩=some (.int .i64 (-1)):=zh H1.out 6 rfl;have x7:wr.cell? ⟨w.heap.size+1,7,none⟩=some (.int .i64 (-1)):=zh H1.out 7 rfl;have y0:wr.cell? ⟨w.heap.size,0,none⟩=some (.int .i64 0):=zh H0.out 0 rfl;have y1:wr.cell? ⟨w.heap.size,1,none⟩=some (.int .i64 0):=zh H0.out 1 rfl;have y2:wr.cell? ⟨w.heap.size,2,none⟩=some (.int .i64 0):=zh H0.out 2 rfl;have y3:wr.cell? ⟨w.heap.size,3,none⟩=some (.int .i64 0):=zh H0.out 3 rfl;have y4:wr.cell? ⟨w.heap.size,4,none⟩=some (.int .i64 0):=zh H0.out 4 rfl;have y5:wr.cell? ⟨w.heap.size,5,none⟩=some (.int .i64 0):=zh H0.out 5 rfl;have y6:wr.cell? ⟨w.heap.size,6,none⟩=some (.int .i64 0):=zh H0.out 6 rfl;have y7:wr.cell? ⟨w.heap.size,7,none⟩=some (.int .i64 0):=zh H0.out 7 rfl;have f0:=zi H0.out 0;have f1:=zi H0.out 1;have f2:=zi H0.out 2;have f3:=zi H0.out 3;have f4:=zi H0.out 4;have f5:=zi H0.out 5;have f6:=zi H0.out 6;have f7:=zi H0.out 7;go_wp2_with fail
   refine L1 (v:=.agg #[.int .i64 p,.int .i64 0,.int .i64 i,.int .i64 (-1),.int .i64 (-1),.int .i64 (-1),.int .i64 (-1),.int .i64 (-1)]) (by simp[results,Tryz.results85,go_sem,y0,y1,y2,y3,y4,y5,y6,y7]) rfl ⟨rfl,?_⟩;exact(((((((HBr.out.setCell (Le _) _).setCell (Le _) _).setCell (Le _) _).setCell (Le _) _).setCell (Le _) _).setCell (Le _) _).setCell (Le _) _).setCell (Le _) _
  case pos=>
   have x0:=zh H1.out (3+k) (vq_at _ _ _ _ k hk5);have f0:=zi H1.out (3+k);have hk0:(0:Int)<=(k:Int):=by omega
   have hk1:(k:Int)<5:=by omega
   go_wp2_with fail
   go_roundw
   case rel=>exact⟨k+1,by omega,by go_num,(Lf wr _ _ w.heap.size (by show w.heap.size≠w.heap.size+1;omega)).trans H0.out,by show _=_;rw[Ll wr _ (3+k) _ _ _ H1.out,Jf _ _ _ (fun _=>-1) k hk5],HBr.out.setCell (by show w.heap.size<=w.heap.size+1;omega) _⟩
   case measure=>simp[intOf];omega
theorem seen_any(r:Rd)(K p:Nat)(hp:p<5)(hs:0<=r.h p/\r.h p<32)(A:Bb)(ca:Nat)(row:List Int)(hn:r.n=(row.length:Int))(_h5:row.length<=5)(w:Ba)(hI:IAt w w.heap.size A row) :
  Calls Tryz.prog 86 #[.agg r.gcells,.int .i64 (K:Int),.int .i64 (p:Int),.slice A row.length ca] w fun e w'=>e=.returned (.agg (ql r K p row).cells)/\Below w.heap.size w w':=by
 obtain⟨s,hsr⟩:∃s:Nat,r.h p=(s:Int):=⟨(r.h p).toNat,by omega⟩;have hs32:s<32:=by omega
 have HH:=zH (fun q hq w=>uk s q hs32 hq w);have HSR:=zH hsr;have HN:=zH hn;clear hn hsr hs;obtain⟨w1,hw1,g0,d0,d1,hs1,hB⟩:=kX w r.gcells #[.int .i64 0,.int .i64 0,.int .i64 0,.int .i64 0,.int .i64 0,.int .i64 0,.int .i64 0,.int .i64 0] (vq p K 0 (yc r p row) 0) 90 128 128;have HW1:=zH hw1;go_enter Tryz.func86,Tryz.ntmps86;unfold Rd.gcells;go_wp2_with fail;rw[show(((w.alloc (.cells #[.int .i64 r.n,.int .i64 r.h0,.int .i64 r.h1,.int .i64 r.h2,.int .i64 r.h3,.int .i64 r.h4] 90)).alloc (.cells #[.int .i64 0,.int .i64 0,.int .i64 0,.int .i64 0,.int .i64 0,.int .i64 0,.int .i64 0,.int .i64 0] 128)).alloc (.cells #[.int .i64 p,.int .i64 K,.int .i64 0,.int .i64 0,.int .i64 0,.int .i64 0,.int .i64 0,.int .i64 0] 128))=w1 from HW1.out];have HG:=zH g0;have H0:=zH d0;have H1:=zH d1;have HB:=zH hB;have HI:=zH hI;clear hw1 d0 d1 hB g0 hI
 go_loopw [10] (fun j wr=>∃k:Nat,k<=5/\j=.int .i64 (k:Int)/\Hid (wr.heap[w.heap.size]?=some (.cells r.gcells 90 (0,0)))/\Hid (wr.heap[w.heap.size+1]?=some (.cells #[.int .i64 0,.int .i64 0,.int .i64 0,.int .i64 0,.int .i64 0,.int .i64 0,.int .i64 0,.int .i64 0] 128 (0,0)))/\Hid (wr.heap[w.heap.size+1+1]?=some (.cells (vq p K 0 (yc r p row) k) 128 (0,0)))/\Hid (Below w.heap.size w wr)) (fun j _=>5-(intOf j).toNat)
 case atStart=>exact⟨0,by omega,rfl,HG.out,H0.out,H1.out,HB.out⟩
 case round=>
  clear HG H0 H1;obtain⟨k,hk,rfl,HG,H0,H1,HBr⟩:=hrel
  by_cases hk5:k<5
  case neg=>
   obtain rfl:k=5:=by omega
   have x0:wr.cell? ⟨w.heap.size+1+1,0,none⟩=some (.int .i64 p):=zh H1.out 0 rfl;have x1:wr.cell? ⟨w.heap.size+1+1,1,none⟩=some (.int .i64 K):=zh H1.out 1 rfl;have x2:wr.cell? ⟨w.heap.size+1+1,2,none⟩=some (.int .i64 0):=zh H1.out 2 rfl;have x3:wr.cell? ⟨w.heap.size+1+1,3,none⟩=some (.int .i64 (yc r p row 0)):=zh H1.out 3 rfl;have x4:wr.cell? ⟨w.heap.size+1+1,4,none⟩=some (.int .i64 (yc r p row 1)):=zh H1.out 4 rfl;have x5:wr.cell? ⟨w.heap.size+1+1,5,none⟩=some (.int .i64 (yc r p row 2)):=zh H1.out 5 rfl;have x6:wr.cell? ⟨w.heap.size+1+1,6,none⟩=some (.int .i64 (yc r p row 3)):=zh H1.out 6 rfl;have x7:wr.cell? ⟨w.heap.size+1+1,7,none⟩=some (.int .i64 (yc r p row 4)):=zh H1.out 7 rfl;have y0:wr.cell? ⟨w.heap.size+1,0,none⟩=some (.int .i64 0):=zh H0.out 0 rfl;have y1:wr.cell? ⟨w.heap.size+1,1,none⟩=some (.int .i64 0):=zh H0.out 1 rfl;have y2:wr.cell? ⟨w.heap.size+1,2,none⟩=some (.int .i64 0):=zh H0.out 2 rfl;have y3:wr.cell? ⟨w.heap.size+1,3,none⟩=some (.int .i64 0):=zh H0.out 3 rfl;have y4:wr.cell? ⟨w.heap.size+1,4,none⟩=some (.int .i64 0):=zh H0.out 4 rfl;have y5:wr.cell? ⟨w.heap.size+1,5,none⟩=some (.int .i64 0):=zh H0.out 5 rfl;have y6:wr.cell? ⟨w.heap.size+1,6,none⟩=some (.int .i64 0):=zh H0.out 6 rfl;have y7:wr.cell? ⟨w.heap.size+1,7,none⟩=some (.int .i64 0):=zh H0.out 7 rfl;have f0:=zi H0.out 0;have f1:=zi H0.out 1;have f2:=zi H0.out 2;have f3:=zi H0.out 3;have f4:=zi H0.out 4;have f5:=zi H0.out 5;have f6:=zi H0.out 6;have f7:=zi H0.out 7;go_wp2_with fail
   refine L1 (v:=.agg (ql r K p row).cells) (by unfold ql Vw.cells;simp[results,Tryz.results86,go_sem,y0,y1,y2,y3,y4,y5,y6,y7]) rfl ⟨rfl,?_⟩;exact((((((((HBr.out.setCell (by show w.heap.size<=w.heap.size+1;omega) _).setCell (by show w.heap.size<=w.heap.size+1;omega) _).setCell (by show w.heap.size<=w.heap.size+1;omega) _).setCell (by show w.heap.size<=w.heap.size+1;omega) _).setCell (by show w.heap.size<=w.heap.size+1;omega) _).setCell (by show w.heap.size<=w.heap.size+1;omega) _).setCell (by show w.heap.size<=w.heap.size+1;omega) _).setCell (by show w.heap.size<=w.heap.size+1;omega) _)
  case pos=>
   have x0:=zh H1.out (3+k) (vq_at _ _ _ _ k hk5);have f0:=zi H1.out (3+k);have g0:wr.cell? ⟨w.heap.size,0,none⟩=some (.int .i64 (row.length:Int)):=by rw[<-HN.out];exact zh HG.out 0 rfl
   have gp:wr.cell? ⟨w.heap.size,1+p,none⟩=some (.int .i64 (s:Int)):=by
    rw[<-HSR.out]
    match p,hp with
    | 0,_=>exact zh HG.out 1 rfl
    | 1,_=>exact zh HG.out 2 rfl
    | 2,_=>exact zh HG.out 3 rfl
    | 3,_=>exact zh HG.out 4 rfl
    | 4,_=>exact zh HG.out 5 rfl
   have hk0:(0:Int)<=(k:Int):=by omega
   have hk1:(k:Int)<5:=by omega
   have hp0:(0:Int)<=(p:Int):=by omega
   have hp1:(p:Int)<5:=by omega
   have hlk:w.heap.size+1+1<wr.heap.size:=by
    by_cases h:w.heap.size+1+1<wr.heap.size
    . exact h
    . have:=H1.out;rw[Pp (by omega)] at this;cases this
   have HS:Hid ((wr.setCell ⟨w.heap.size+1+1,3+k,none⟩ (.int .i64 (-1))).heap[w.heap.size+1+1]?=some (.cells ((vq p K 0 (yc r p row) k).setIfInBounds (3+k) (.int .i64 (-1))) 128 (0,0))):=Ll wr _ (3+k) _ _ _ H1.out
   by_cases hq:k<row.length
   case neg=>
    have hE:Hid (yc r p row k=-1):=by unfold yc;exact Lg (fun h=>hq h.1)
    have hq1:¬((k:Int)<(row.length:Int)):=by omega
    go_wp2_with fail
    go_roundw
    case rel=>exact⟨k+1,by omega,by go_num,((Lf wr _ _ w.heap.size (by show w.heap.size≠w.heap.size+1+1;omega)).trans HG.out),((Lf wr _ _ (w.heap.size+1) (by show w.heap.size+1≠w.heap.size+1+1;omega)).trans H0.out),(HS.out.trans (by have e:=Jf p K 0 (yc r p row) k hk5;rw[hE.out] at e;rw[e])),(HBr.out.setCell (by show w.heap.size<=w.heap.size+1+1;omega) _)⟩
    case measure=>simp[intOf];omega
   case pos=>
    have hq1:((k:Int)<(row.length:Int)):=by omega
    by_cases hb:s.testBit k=true
    case neg=>
     have hE:Hid (yc r p row k=-1):=by unfold yc;exact Lg (fun h=>hb (by have h2:=h.2;rw[HSR.out] at h2;exact h2))
     have hbf:s.testBit k=false:=by simpa using hb
     go_wp2_with (go_at_call 47;refine(HH.out k hk5 _).mono ?_;rintro e w' ⟨rfl,hw'⟩;obtain rfl:=hw'.symm)
     go_roundw
     case rel=>exact⟨k+1,by omega,by go_num,((Lf wr _ _ w.heap.size (by show w.heap.size≠w.heap.size+1+1;omega)).trans HG.out),((Lf wr _ _ (w.heap.size+1) (by show w.heap.size+1≠w.heap.size+1+1;omega)).trans H0.out),(HS.out.trans (by have e:=Jf p K 0 (yc r p row) k hk5;rw[hE.out] at e;rw[e])),(HBr.out.setCell (by show w.heap.size<=w.heap.size+1+1;omega) _)⟩
     case measure=>simp[intOf];omega
    case pos=>
     have hE:Hid (yc r p row k=row[k]):=by
      unfold yc;rw[Lh ⟨hq,by rw[HSR.out];exact hb⟩,Lj,Lm hq];rfl
     have HX:=zH ((HI.out.keep HBr.out).at_ k hq);obtain⟨ba,off,rfl,hlt,hc⟩:=HX.out;have f1:=zi HS.out (3+k);have hnb:ba≠w.heap.size+1+1:=by omega
     go_wp2_with (go_at_call 47;refine(HH.out k hk5 _).mono ?_;rintro e w' ⟨rfl,hw'⟩;obtain rfl:=hw'.symm)
     go_roundw
     case rel=>exact⟨k+1,by omega,by go_num,((Lf _ _ _ w.heap.size (by show w.heap.size≠w.heap.size+1+1;omega)).trans ((Lf wr _ _ w.heap.size (by show w.heap.size≠w.heap.size+1+1;omega)).trans HG.out)),((Lf _ _ _ (w.heap.size+1) (by show w.heap.size+1≠w.heap.size+1+1;omega)).trans ((Lf wr _ _ (w.heap.size+1) (by show w.heap.size+1≠w.heap.size+1+1;omega)).trans H0.out)),(by show _=_;rw[Ll _ _ (3+k) _ _ _ HS.out,<-hE.out,vq_set2 _ _ _ (yc r p row) k hk5]),((HBr.out.setCell (by show w.heap.size<=w.heap.size+1+1;omega) _).setCell (by show w.heap.size<=w.heap.size+1+1;omega) _)⟩
     case measure=>simp[intOf];omega
end
section
open Go.RowKit Go.Shelf
structure Bt(D bs:Nat)(SC:Value->Value->Array Value)(WR:Ba)(vs:List Vw)(xs:List Exn)(V E:Value)(X:Ba):Prop where
 wr:Wrote (fun k=>k=bs) WR X
 wd:WR.heap.size<=D
 big:D<=X.heap.size
 bsl:bs<D
 sys:X.heap[bs]?=some (.cells (SC V E) 35 (0,0))
 tb:OwnV X D V vs
 out:OwnX XN (fun k=>bs<k) X D E xs
 no:∀k,V.ownBlock=some k->E.ownBlock≠some k
structure Bq(D bs bx:Nat)(SC:Value->Value->Array Value)(WR:Ba)(c:Int)(wv:Value)(vs:List Vw)(xs:List Exn)(views:List (List Int))(row:List Int)(V E Y L:Value)(X:Ba):Prop where
 wr:Wrote (fun k=>k=bs) WR X
 wd:WR.heap.size<=D
 big:D<=X.heap.size
 bsl:bs<D
 sys:X.heap[bs]?=some (.cells (SC V E) 35 (0,0))
 x:X.heap[bx]?=some (.cells #[.int .i64 c,wv,Y] 56 (0,0))
 hx:D<=bx
 tb:OwnV X D V vs
 out:OwnX XN (fun k=>bs<k/\k≠bx/\Y.ownBlock≠some k/\L.ownBlock≠some k) X D E xs
 vw:OwnX cIs (fun k=>D<=k/\k≠bx/\E.ownBlock≠some k/\L.ownBlock≠some k) X D Y views
 row:OwnR kIn X D L row.length (row.map (Value.int .i64))
 nV:∀k,V.ownBlock=some k->k≠bx/\E.ownBlock≠some k/\Y.ownBlock≠some k/\L.ownBlock≠some k
 nE:∀k,E.ownBlock=some k->k≠bx/\Y.ownBlock≠some k/\L.ownBlock≠some k
 nY:∀k,Y.ownBlock=some k->k≠bx/\L.ownBlock≠some k
 nL:∀k,L.ownBlock=some k->k≠bx
section
variable {D bs bx:Nat} {SC:Value->Value->Array Value} {WR X:Ba} {c:Int} {wv:Value} {vs:List Vw} {xs:List Exn} {views:List (List Int)} {row:List Int} {V E Y L:Value}
theorem OwnV.lt'{w:Ba}{base:Nat}{v:Value}{vs:List Vw}(h:OwnV w base v vs):∀k,v.ownBlock=some k->base<=k/\k<w.heap.size:=Rh h
theorem Bq.bxl(h:Bq D bs bx SC WR c wv vs xs views row V E Y L X):bx<X.heap.size:=(Ln.1 h.x).1
theorem Bt.on(h:Bt D bs SC WR vs xs V E X){X':Ba}(hb:Below X.heap.size X X'):Bt D bs SC WR vs xs V E X':=
 ⟨h.wr.trans (Wrote.of_below (R:=fun _=>False) hb) (fun _ _ h=>h.elim),h.wd,by have:=hb.size;have:=h.big;omega,h.bsl,Lb hb (by have:=h.bsl;have:=h.big;omega) h.sys,
  h.tb.of_same fun k hk=>hb.block k (h.tb.lt' k hk).2,h.out.below zR hb (Le _),h.no⟩
theorem Bq.on(h:Bq D bs bx SC WR c wv vs xs views row V E Y L X){X':Ba}(hb:Below X.heap.size X X'):Bq D bs bx SC WR c wv vs xs views row V E Y L X':=
 ⟨h.wr.trans (Wrote.of_below (R:=fun _=>False) hb) (fun _ _ h=>h.elim),h.wd,by have:=hb.size;have:=h.big;omega,h.bsl,Lb hb (by have:=h.bsl;have:=h.big;omega) h.sys,
  Lb hb h.bxl h.x,h.hx,h.tb.of_same fun k hk=>hb.block k (h.tb.lt' k hk).2,h.out.below zR hb (Le _),h.vw.below yQ hb (Le _),h.row.below hb (Le _),h.nV,h.nE,h.nY,h.nL⟩
theorem Bt.start(h:Bt D bs SC WR vs xs V E X){X':Ba}(hb:Below X.heap.size X X')(hx:X'.heap[X.heap.size]?=some (.cells #[.int .i64 c,wv,.slice none 0 0] 56 (0,0))) :
  Bq D bs X.heap.size SC WR c wv vs xs [] [] V E (.slice none 0 0) (.slice none 0 0) X':=by
 have h':=h.on hb;refine⟨h'.wr,h'.wd,h'.big,h'.bsl,h'.sys,hx,h.big,h'.tb,?_,OwnX.nil _ _ _ _,OwnR.nil _ _ _,fun k hk=>?_,fun k hk=>?_,fun k hk=>?_,fun k hk=>?_⟩
 . refine OwnX.below zR (OwnX.mono zR h.out fun k hk hs=>⟨hs,by omega,?_,?_⟩) hb (Le _)
   . simp[Value.ownBlock]
   . simp[Value.ownBlock]
 . have:=(h.tb.lt' k hk).2
   exact⟨by omega,h.no k hk,by simp[Value.ownBlock],by simp[Value.ownBlock]⟩
 . have:=(h.out.lt k hk).2
   exact⟨by omega,by simp[Value.ownBlock],by simp[Value.ownBlock]⟩
 . simp[Value.ownBlock] at hk
 . simp[Value.ownBlock] at hk
theorem Bq.put(h:Bq D bs bx SC WR c wv vs xs views row V E Y L X){W:Ba}(hb:Below X.heap.size X W){V' u:Value}{vs':List Vw}(hT:OwnV W D V' vs')(hV:∀k,V'.ownBlock=some k->V.ownBlock=some k\/X.heap.size<=k)
  (h7:(SC V E).setIfInBounds 7 u=SC V E) (h8:(SC V E).setIfInBounds 8 V'=SC V' E) :
  Bq D bs bx SC WR c wv vs' xs views row V' E Y L ((W.setCell ⟨bs,7,none⟩ u).setCell ⟨bs,8,none⟩ V'):=by
 have h1:=h.on hb;have hbs:=h.bsl;have hbx:=h.hx;obtain⟨W',hW'⟩:=Ki ((W.setCell ⟨bs,7,none⟩ u).setCell ⟨bs,8,none⟩ V')
 have hk:∀k,k≠bs->W'.heap[k]?=W.heap[k]?:=fun k hk=>by
  rw[<-hW'];exact(Lf _ ⟨bs,8,none⟩ _ k hk).trans (Lf _ ⟨bs,7,none⟩ _ k hk)
 have hz:W'.heap.size=W.heap.size:=by rw[<-hW'];simp
 have hs:W'.heap[bs]?=some (.cells (SC V' E) 35 (0,0)):=by
  rw[<-hW'];have q:=Ll W bs 7 _ _ u h1.sys;rw[h7] at q;have q2:=Ll _ bs 8 _ _ V' q;rwa[h8] at q2
 have hw:Wrote (fun k=>k=bs) W W':=by
  rw[<-hW'];exact⟨rfl,rfl,rfl,by simp,fun k _ hk=>(Lf _ ⟨bs,8,none⟩ _ k hk).trans (Lf _ ⟨bs,7,none⟩ _ k hk)⟩
 rw[hW'];refine⟨h1.wr.trans hw (fun k _ e=>e),h.wd,by have:=h1.big;omega,h.bsl,hs,(hk _ (by omega)).trans h1.x,h.hx,hT.of_same fun k e=>hk k (by have:=(hT.lt' k e).1;omega),?_,?_,?_,fun k e=>?_,h.nE,h.nY,h.nL⟩
 . exact h1.out.keep zR ⟨by omega,fun k hs _=>hk k (by have:=hs.1;omega)⟩ fun k e=>hk k (by have:=(h1.out.lt k e).1;omega)
 . exact h1.vw.keep yQ ⟨by omega,fun k hs _=>hk k (by have:=hs.1;omega)⟩ fun k e=>hk k (by have:=(h1.vw.lt k e).1;omega)
 . refine h1.row.kept (row:=some bs) ⟨hw.os,hw.tape,hw.output,hw.size,fun k _ hn=>hk k (fun e=>hn (by rw[e]))⟩ (Or.inr (h1.row.ne (by omega)))
 . rcases hV k e with e | e
   . exact h.nV k e
   . have hbl:=h.bxl
     exact⟨by omega,fun e2=>by have:=(h.out.lt k e2).2;omega,fun e2=>by have:=(h.vw.lt k e2).2;omega,fun e2=>by have:=(h.row.lt k e2).2;omega⟩
theorem Ys(W:Ba)(b o:Nat)(u:Value):Wrote (fun k=>k=b) W (W.setCell ⟨b,o,none⟩ u):=⟨rfl,rfl,rfl,by simp,fun k _ hn=>Lf W ⟨b,o,none⟩ u k hn⟩
theorem OwnX.aside{α:Type}{C:Ct α}(ok:CtOk C){S:Nat->Prop}{W w5:Ba}{v L:Value}{xs:List α}{g' n cap:Nat}(h:OwnX C S W D v xs)(hS:∀k,S k->L.ownBlock≠some k)(hg:W.grownBy w5 L.ownBlock)(hne:∀k,v.ownBlock=some k->L.ownBlock≠some k)
  (hat:L.ownBlock=some g'\/g'=W.heap.size):OwnX C (fun k=>S k/\(Value.slice (some ⟨g',0,none⟩) n cap).ownBlock≠some k) w5 D v xs:=by
 have h1:OwnX C (fun k=>S k/\(Value.slice (some ⟨g',0,none⟩) n cap).ownBlock≠some k) W D v xs:=OwnX.mono ok h fun k hk hs=>⟨hs,fun e=>by
  have e2:g'=k:=by simpa[Value.ownBlock] using e
  rcases hat with e3 | e3
  . exact hS k hs (by rw[e3,e2])
  . omega⟩
 refine h1.kept ok hg ?_ fun k hk=>.inl fun hs=>hS k hs.1 hk
 cases hv:v.ownBlock with
 | none=>exact .inl rfl
 | some k=>exact .inr fun e=>hne k hv e.symm
theorem OwnV.aside{W w5:Ba}{v L:Value}{vs:List Vw}(h:OwnV W D v vs)(hg:W.grownBy w5 L.ownBlock)(hne:∀k,v.ownBlock=some k->L.ownBlock≠some k):OwnV w5 D v vs:=
 h.of_same fun k hk=>hg.block k (h.lt' k hk).2 fun e=>hne k hk e.symm
theorem qy{L:Value}{W:Ba}{g' n cap:Nat}{P:Nat->Prop}(hat:L.ownBlock=some g'\/g'=W.heap.size)(h1:∀k,L.ownBlock=some k->P k)(h2:P W.heap.size):∀k,(Value.slice (some ⟨g',0,none⟩) n cap).ownBlock=some k->P k:=fun k e=>by
 have e2:g'=k:=by simpa[Value.ownBlock] using e
 subst e2;rcases hat with e3 | e3
 . exact h1 g' e3
 . rw[e3];exact h2
theorem Bq.push(h:Bq D bs bx SC WR c wv vs xs views row V E Y L X){W w5:Ba}(hb:Below X.heap.size X W){i:Int}{g' cap:Nat}
  (hr:OwnR kIn w5 D (.slice (some ⟨g',0,none⟩) (row.length+1) cap) (row.length+1) (row.map (Value.int .i64)++[.int .i64 i])) (hg:W.grownBy w5 L.ownBlock) (hat:L.ownBlock=some g'\/g'=W.heap.size) :
  Bq D bs bx SC WR c wv vs xs views (row++[i]) V E Y (.slice (some ⟨g',0,none⟩) (row.length+1) cap) w5:=by
 have h1:=h.on hb;have hll:=h1.row.lt;have hbs:=h.bsl;have hbx:=h.hx;have hbig:=h1.big;have hVl:=h1.tb.lt';have hEl:=h1.out.lt;have hYl:=h1.vw.lt;have hbl:=h1.bxl;have hgz:=hg.size;refine⟨h1.wr.trans (Wrote.of_grown (R:=fun k=>D<=k) hg (fun k e _=>(hll k e).1)) (fun k hk e=>by have:=h.wd;omega),h.wd,by omega,h.bsl,?_,?_,h.hx,h1.tb.aside hg fun k e=>(h.nV k e).2.2.2,?_,?_,by simpa using hr,fun k e=>?_,fun k e=>?_,fun k e=>?_,?_⟩
 . exact(hg.block bs (by omega) fun e=>by have:=(hll bs e.symm).1;omega).trans h1.sys
 . exact(hg.block bx hbl fun e=>h.nL bx e.symm rfl).trans h1.x
 . exact OwnX.mono zR (h1.out.aside zR (n:=row.length+1) (cap:=cap) (fun k hs=>hs.2.2.2) hg (fun k e=>(h.nE k e).2.2) hat) fun k _ hs=>⟨hs.1.1,hs.1.2.1,hs.1.2.2.1,hs.2⟩
 . exact OwnX.mono yQ (h1.vw.aside yQ (n:=row.length+1) (cap:=cap) (fun k hs=>hs.2.2.2) hg (fun k e=>(h.nY k e).2) hat) fun k _ hs=>⟨hs.1.1,hs.1.2.1,hs.1.2.2.1,hs.2⟩
 . exact⟨(h.nV k e).1,(h.nV k e).2.1,(h.nV k e).2.2.1,fun e2=>qy (P:=fun j=>V.ownBlock≠some j) hat (fun j ej ev=>(h.nV j ev).2.2.2 ej) (fun ev=>by have:=(hVl _ ev).2;omega) k e2 e⟩
 . exact⟨(h.nE k e).1,(h.nE k e).2.1,fun e2=>qy (P:=fun j=>E.ownBlock≠some j) hat (fun j ej ev=>(h.nE j ev).2.2 ej) (fun ev=>by have:=(hEl _ ev).2;omega) k e2 e⟩
 . exact⟨(h.nY k e).1,fun e2=>qy (P:=fun j=>Y.ownBlock≠some j) hat (fun j ej ev=>(h.nY j ev).2 ej) (fun ev=>by have:=(hYl _ ev).2;omega) k e2 e⟩
 . exact qy hat h.nL (by omega)
theorem Bq.close(h:Bq D bs bx SC WR c wv vs xs views row V E Y L X){W w5:Ba}(hb:Below X.heap.size X W){g' cap:Nat}{css:List (List Value)}(hcl:css.length=views.length)
  (hcs:∀(i:Nat) (h1:i<css.length) (h2:i<views.length),cIs.lies (fun k=>(D<=k/\k≠bx/\E.ownBlock≠some k/\L.ownBlock≠some k)/\Y.ownBlock≠some k) W css[i] views[i])
  (hr:OwnR kIs w5 D (.slice (some ⟨g',0,none⟩) (views.length+1) cap) (views.length+1) (css.flatten++[L])) (hg:W.grownBy w5 Y.ownBlock) (hat:Y.ownBlock=some g'\/g'=W.heap.size) :
  Bq D bs bx SC WR c wv vs xs (views++[row]) [] V E (.slice (some ⟨g',0,none⟩) (views.length+1) cap) (.slice none 0 0) (w5.setCell ⟨bx,2,none⟩ (.slice (some ⟨g',0,none⟩) (views.length+1) cap)):=by
 have h1:=h.on hb;have hll:=h1.vw.lt;have hbs:=h.bsl;have hbx:=h.hx;have hbig:=h1.big;have hVl:=h1.tb.lt';have hEl:=h1.out.lt;have hRl:=h1.row.lt;have hbl:=h1.bxl;have hgz:=hg.size;obtain⟨A,cL,eL,_,_,hLc⟩:=h1.row.form
 have hX:cIs.lies (fun k=>(D<=k/\k≠bx/\E.ownBlock≠some k)/\Y.ownBlock≠some k) W [L] row:=by
  refine⟨A,cL,by rw[eL],fun h0=>?_⟩;obtain⟨g,hA,hgo,hgl,hc⟩:=hLc h0;refine⟨g,0,hA,⟨⟨(hRl g hgo).1,h.nL g hgo,fun e=>(h.nE g e).2.2 hgo⟩,fun e=>(h.nY g e).2 hgo⟩,hgl,fun i hi=>?_⟩;rw[LH];exact hc i _ (by simp[hi])
 have hv:=OwnX.app yQ (S:=fun k=>D<=k/\k≠bx/\E.ownBlock≠some k) hcl (fun i i1 i2=>yQ.mono (hcs i i1 i2) fun k _ hs=>⟨⟨hs.1.1,hs.1.2.1,hs.1.2.2.1⟩,hs.2⟩) hX hr hg hat;have hout:=h1.out.aside zR (n:=views.length+1) (cap:=cap) (fun k hs=>hs.2.2.1) hg (fun k e=>(h.nE k e).2.1) hat;have hgx:w5.heap[bx]?=some (.cells #[.int .i64 c,wv,Y] 56 (0,0)):=(hg.block bx hbl fun e=>(h.nY bx e.symm).1 rfl).trans h1.x;have hgs:w5.heap[bs]?=some (.cells (SC V E) 35 (0,0)):=(hg.block bs (by omega) fun e=>by have:=(hll bs e.symm).1;omega).trans h1.sys;have hk:∀k,k≠bx->(w5.setCell ⟨bx,2,none⟩ (.slice (some ⟨g',0,none⟩) (views.length+1) cap)).heap[k]?=w5.heap[k]?:=fun k hk=>Lf w5 ⟨bx,2,none⟩ _ k hk
 have hw:Wrote (fun k=>D<=k) W (w5.setCell ⟨bx,2,none⟩ (.slice (some ⟨g',0,none⟩) (views.length+1) cap)):=
  (Wrote.of_grown (R:=fun k=>D<=k) hg (fun k e _=>(hll k e).1)).trans (Ys w5 bx 2 _) (fun k _ e=>by omega)
 refine⟨h1.wr.trans hw (fun k hk e=>by have:=h.wd;omega),h.wd,by simp;omega,h.bsl,(hk bs (by omega)).trans hgs,?_,h.hx,?_,?_,?_,OwnR.nil _ _ _,fun k e=>?_,fun k e=>?_,fun k e=>?_,fun k e=>?_⟩
 . rw[Ll w5 bx 2 _ _ _ hgx];rfl
 . exact(h1.tb.aside hg fun k e=>(h.nV k e).2.2.1).of_same fun k e=>hk k (h.nV k e).1
 . exact OwnX.mono zR (hout.keep zR ⟨by simp,fun k hs _=>hk k hs.1.2.1⟩ fun k e=>hk k (h.nE k e).1) fun k _ hs=>⟨hs.1.1,hs.1.2.1,hs.2,by simp[Value.ownBlock]⟩
 . refine OwnX.mono yQ (hv.keep yQ ⟨by simp,fun k hs _=>hk k hs.2.1⟩ fun k e=>hk k ?_) fun k _ hs=>⟨hs.1,hs.2.1,hs.2.2,by simp[Value.ownBlock]⟩
   exact qy (P:=fun j=>j≠bx) hat (fun j e=>(h.nY j e).1) (by omega) k e
 . exact⟨(h.nV k e).1,(h.nV k e).2.1,fun e2=>qy (P:=fun j=>V.ownBlock≠some j) hat (fun j ej ev=>(h.nV j ev).2.2.1 ej) (fun ev=>by have:=(hVl _ ev).2;omega) k e2 e,by simp[Value.ownBlock]⟩
 . exact⟨(h.nE k e).1,fun e2=>qy (P:=fun j=>E.ownBlock≠some j) hat (fun j ej ev=>(h.nE j ev).2.1 ej) (fun ev=>by have:=(hEl _ ev).2;omega) k e2 e,by simp[Value.ownBlock]⟩
 . exact⟨qy (P:=fun j=>j≠bx) hat (fun j e=>(h.nY j e).1) (by omega) k e,by simp[Value.ownBlock]⟩
 . simp[Value.ownBlock] at e
theorem Bq.done(h:Bq D bs bx SC WR c wv vs xs views [] V E Y (.slice none 0 0) X){W w5:Ba}(hb:Below X.heap.size X W){g' cap A2 c2 A3 c3:_}{css:List (List Value)}{word:List Rd}(hcl:css.length=xs.length)
  (hcs:∀(i:Nat) (h1:i<css.length) (h2:i<xs.length),XN.lies (fun k=>(bs<k/\k≠bx/\Y.ownBlock≠some k/\(Value.slice none 0 0).ownBlock≠some k)/\E.ownBlock≠some k) W css[i] xs[i])
  (hwv:wv=.slice A2 word.length c2) (hYv:Y=.slice A3 views.length c3) (hw:RAtS (fun k=>bs<k/\k<D) WR A2 word) (hwc:word.length<=c2)
  (hr:OwnR kXn w5 D (.slice (some ⟨g',0,none⟩) (xs.length+1) cap) (xs.length+1) (css.flatten++[.int .i64 c,wv,Y])) (hg:W.grownBy w5 E.ownBlock) (hat:E.ownBlock=some g'\/g'=W.heap.size)
  (h9:(SC V E).setIfInBounds 9 (.slice (some ⟨g',0,none⟩) (xs.length+1) cap)=SC V (.slice (some ⟨g',0,none⟩) (xs.length+1) cap)) :
  Bt D bs SC WR vs (xs++[⟨c,word,views⟩]) V (.slice (some ⟨g',0,none⟩) (xs.length+1) cap) (w5.setCell ⟨bs,9,none⟩ (.slice (some ⟨g',0,none⟩) (xs.length+1) cap)):=by
 have h1:=h.on hb;have hll:=h1.out.lt;have hbs:=h.bsl;have hbx:=h.hx;have hbig:=h1.big;have hVl:=h1.tb.lt';have hYl:=h1.vw.lt;have hgz:=hg.size;obtain⟨A3',c3',e3,_,_,hL⟩:=Y9 h1.vw;rw[hYv] at e3
 cases e3
 have hX:XN.lies (fun k=>bs<k/\E.ownBlock≠some k) W [.int .i64 c,wv,Y] ⟨c,word,views⟩:=by
  refine⟨A2,c2,A3,c3,by rw[hwv,hYv],?_,?_,hwc⟩
  . exact(hw.keep ⟨h1.wr.size,fun k hk hl=>h1.wr.block k hl (fun e=>by have:=hk.1;omega)⟩).mono fun k _ hs=>⟨hs.1,fun e=>by have:=(hll k e).1;have:=hs.2;omega⟩
  . refine hL.mono fun k _ hs=>?_
    rcases hs with hs | hs
    . exact⟨by have:=hs.1;omega,hs.2.2.1⟩
    . exact⟨by have:=(hYl k hs).1;omega,fun e=>(h.nE k e).2.1 hs⟩
 have hv:=OwnX.app zR (S:=fun k=>bs<k) hcl (fun i i1 i2=>zR.mono (hcs i i1 i2) fun k _ hs=>⟨hs.1.1,hs.2⟩) hX hr hg hat;have hgs:w5.heap[bs]?=some (.cells (SC V E) 35 (0,0)):=(hg.block bs (by omega) fun e=>by have:=(hll bs e.symm).1;omega).trans h1.sys;have hk:∀k,k≠bs->(w5.setCell ⟨bs,9,none⟩ (.slice (some ⟨g',0,none⟩) (xs.length+1) cap)).heap[k]?=w5.heap[k]?:=fun k hk=>Lf w5 ⟨bs,9,none⟩ _ k hk
 have hwr:Wrote (fun k=>k=bs\/D<=k) W (w5.setCell ⟨bs,9,none⟩ (.slice (some ⟨g',0,none⟩) (xs.length+1) cap)):=
  (Wrote.of_grown (R:=fun k=>k=bs\/D<=k) hg (fun k e _=>.inr (hll k e).1)).trans (Ys w5 bs 9 _) (fun k _ e=>.inl e)
 refine⟨h1.wr.trans hwr (fun k hk e=>by have:=h.wd;omega),h.wd,by simp;omega,h.bsl,?_,?_,?_,fun k e=>?_⟩
 . rw[Ll w5 bs 9 _ _ _ hgs,h9]
 . exact(h1.tb.aside hg fun k e=>(h.nV k e).2.1).of_same fun k e=>hk k (by have:=(hVl k e).1;omega)
 . refine hv.keep zR ⟨by simp,fun k hs _=>hk k (by omega)⟩ fun k e=>hk k ?_
   exact qy (P:=fun j=>j≠bs) hat (fun j e=>by have:=(hll j e).1;omega) (by omega) k e
 . exact fun e2=>qy (P:=fun j=>V.ownBlock≠some j) hat (fun j ej ev=>(h.nV j ev).2.1 ej) (fun ev=>by have:=(hVl _ ev).2;omega) k e2 e
end
end
section
open Go.RowKit Go.Shelf
def stQ(vs:List Vw)(N:Nat)(inp:List Int)(word:List Rd):Nat->List Vw×List (List Int)
 | 0=>(vs,[])
 | k+1=>zA vs N inp word k
def fQ(inp:List Int)(word:List Rd)(views:List (List Int)):Nat->Nat->Vw
 | 0=>f0 inp
 | k+1=>fk word k (views.getD k [])
theorem stQ_succ(vs:List Vw)(N:Nat)(inp:List Int)(word:List Rd)(k:Nat) :
  stQ vs N inp word (k+1)=((yl (fQ inp word (stQ vs N inp word k).2 k) (stQ vs N inp word k).1 N).1,(stQ vs N inp word k).2++[(yl (fQ inp word (stQ vs N inp word k).2 k) (stQ vs N inp word k).1 N).2]):=by
 cases k<;>rfl
theorem stQ_len(vs:List Vw)(N:Nat)(inp:List Int)(word:List Rd)(k:Nat):(stQ vs N inp word k).2.length=k:=by
 cases k
 . rfl
 . exact yy _ _ _ _ _
theorem stQ_few(vs:List Vw)(N:Nat)(inp:List Int)(word:List Rd)(k:Nat):(stQ vs N inp word k).1.length<=vs.length+k*N:=by
 cases k
 . simp[stQ]
 . exact kJ _ _ _ _ _
theorem stQ_row(vs:List Vw)(N:Nat)(inp:List Int)(word:List Rd)(k j:Nat)(hj:j<(stQ vs N inp word k).2.length):((stQ vs N inp word k).2[j]).length=N:=by
 cases k with
 | zero=>exact absurd hj (by simp[stQ])
 | succ k=>exact qS _ _ _ _ k _ (Ld hj)
def pcs(words:List (List Rd))(c:Nat):List (Nat×List Rd):=(List.range c).flatMap fun i=>words.map fun w=>(i,w)
theorem Qq(words:List (List Rd))(c:Nat):pcs words (c+1)=pcs words c++words.map fun w=>(c,w):=by
 unfold pcs;rw[R8,Rv];simp
theorem Xp(p:Pb):zx p=pcs (zJ p.a p.k.toNat 0) p.t.cases.length:=rfl
def pcw(words:List (List Rd))(c j:Nat):List (Nat×List Rd):=pcs words c++(words.take j).map fun w=>(c,w)
theorem Qp(words:List (List Rd))(c:Nat):pcw words c 0=pcs words c:=by simp[pcw]
theorem pcw_succ(words:List (List Rd))(c j:Nat)(hj:j<words.length):pcw words c (j+1)=pcw words c j++[(c,words[j])]:=by
 unfold pcw;rw[Lu hj,LI,List.map_singleton,Na]
theorem pcw_end(words:List (List Rd))(c:Nat):pcw words c words.length=pcs words (c+1):=by
 unfold pcw;rw[LG,Qq]
theorem gL(words:List (List Rd)):∀c,(pcs words c).length=c*words.length
 | 0=>by simp[pcs]
 | c+1=>by rw[Qq,Lv,gL words c,LR,Rb];omega
theorem pcw_len(words:List (List Rd))(c j:Nat)(hj:j<=words.length):(pcw words c j).length=c*words.length+j:=by
 unfold pcw;rw[Lv,gL,LR,Rk,R6 hj]
theorem pcw_mem(words:List (List Rd))(c j:Nat):∀x∈pcw words c j,x.2∈words:=fun x hx=>by
 unfold pcw at hx;rcases Nd.1 hx with hx | hx
 . unfold pcs at hx
   obtain⟨_,_,hx⟩:=NL.1 hx;obtain⟨_,h,rfl⟩:=LX.1 hx;exact h
 . obtain⟨_,h,rfl⟩:=LX.1 hx
   exact List.mem_of_mem_take h
theorem YD(p:Pb)(words:List (List Rd))(hn:p.t.n.toNat<=5)(hw:∀w∈words,w.length<=6)(c j:Nat)(hj:j<=words.length)(h60:c*words.length+j<=60):(zC p (pcw words c j)).1.length<=2100/\(zC p (pcw words c j)).2.length=c*words.length+j:=by
 have h1:=Zi p hn (pcw words c j) fun x hx=>hw _ (pcw_mem words c j x hx)
 rw[pcw_len words c j hj] at h1;refine⟨by omega,?_⟩;rw[qf,pcw_len words c j hj]
theorem Zh(p:Pb)(words:List (List Rd))(hn:p.t.n.toNat<=5)(hw:∀w∈words,w.length<=6)(c:Nat)(h60:c*words.length<=60):(zC p (pcs words c)).1.length<=2100:=by
 have:=(YD p words hn hw c 0 (NC _) (by omega)).1;rwa[Qp] at this
theorem put_out{n:Int}{AV:Bb}{kv:Nat}{vs:List Vw}{v:Vw}{W w':Ba}{e:Ending}{D:Nat}(h:RetPut n AV kv vs v W e w')(hO:OwnV W D (.slice AV vs.length kv) vs)(hD:D<=W.heap.size) :
  ∃A3 k3,e=.returned (.tuple #[.agg #[.int .i64 n,.slice A3 (qg vs v).1.length k3],.int .i64 (qg vs v).2])/\OwnV w' D (.slice A3 (qg vs v).1.length k3) (qg vs v).1 /\
   (∀k,(Value.slice A3 (qg vs v).1.length k3).ownBlock=some k->(Value.slice AV vs.length kv).ownBlock=some k\/W.heap.size<=k)/\Below W.heap.size W w':=by
 obtain⟨hb,h1,h2⟩:=h
 by_cases hm:v∈vs
 . rw[Qi hm]
   exact⟨AV,kv,h1 hm,hO.of_same fun k hk=>hb.block k (hO.lt' k hk).2,fun k hk=>.inl hk,hb⟩
 . rw[putW_no hm]
   obtain⟨A3,k3,e3,ho⟩:=h2 hm;have hl:(vs++[v]).length=vs.length+1:=by simp
   dsimp only;rw[hl];exact⟨A3,k3,e3,ho.low hD,fun k hk=>.inr (ho.lt' k hk).1,hb⟩
theorem xz{w X:Ba}{g B:Nat}{a0 a1 a2 a3 a4 a5 a6 a7 a8 a9:Value}(v0 v1 v2 v3 v4 v5 v6 v7 v8 v9:Value)(hg:X.heap[g]?=some (.cells #[a0,a1,a2,a3,a4,a5,a6,a7,a8,a9] 35 (0,0)))(hB:Below B w X)(h1:B<=g) :
  ((((((((((X.setCell ⟨g,0,none⟩ v0).setCell ⟨g,1,none⟩ v1).setCell ⟨g,2,none⟩ v2).setCell ⟨g,3,none⟩ v3).setCell ⟨g,4,none⟩ v4).setCell ⟨g,5,none⟩ v5).setCell ⟨g,6,none⟩ v6).setCell ⟨g,7,none⟩ v7).setCell ⟨g,8,none⟩ v8).setCell ⟨g,9,none⟩ v9).heap[g]?=some (.cells #[v0,v1,v2,v3,v4,v5,v6,v7,v8,v9] 35 (0,0))/\Below B w ((((((((((X.setCell ⟨g,0,none⟩ v0).setCell ⟨g,1,none⟩ v1).setCell ⟨g,2,none⟩ v2).setCell ⟨g,3,none⟩ v3).setCell ⟨g,4,none⟩ v4).setCell ⟨g,5,none⟩ v5).setCell ⟨g,6,none⟩ v6).setCell ⟨g,7,none⟩ v7).setCell ⟨g,8,none⟩ v8).setCell ⟨g,9,none⟩ v9)/\Below g X ((((((((((X.setCell ⟨g,0,none⟩ v0).setCell ⟨g,1,none⟩ v1).setCell ⟨g,2,none⟩ v2).setCell ⟨g,3,none⟩ v3).setCell ⟨g,4,none⟩ v4).setCell ⟨g,5,none⟩ v5).setCell ⟨g,6,none⟩ v6).setCell ⟨g,7,none⟩ v7).setCell ⟨g,8,none⟩ v8).setCell ⟨g,9,none⟩ v9)/\(∀k,k≠g->((((((((((X.setCell ⟨g,0,none⟩ v0).setCell ⟨g,1,none⟩ v1).setCell ⟨g,2,none⟩ v2).setCell ⟨g,3,none⟩ v3).setCell ⟨g,4,none⟩ v4).setCell ⟨g,5,none⟩ v5).setCell ⟨g,6,none⟩ v6).setCell ⟨g,7,none⟩ v7).setCell ⟨g,8,none⟩ v8).setCell ⟨g,9,none⟩ v9).heap[k]?=X.heap[k]?)/\((((((((((X.setCell ⟨g,0,none⟩ v0).setCell ⟨g,1,none⟩ v1).setCell ⟨g,2,none⟩ v2).setCell ⟨g,3,none⟩ v3).setCell ⟨g,4,none⟩ v4).setCell ⟨g,5,none⟩ v5).setCell ⟨g,6,none⟩ v6).setCell ⟨g,7,none⟩ v7).setCell ⟨g,8,none⟩ v8).setCell ⟨g,9,none⟩ v9).heap.size=X.heap.size:=by
 have k0:(X.setCell ⟨g,0,none⟩ v0).heap[g]?=some (.cells #[v0,a1,a2,a3,a4,a5,a6,a7,a8,a9] 35 (0,0)):=Ll _ g 0 _ _ v0 hg;have k1:((X.setCell ⟨g,0,none⟩ v0).setCell ⟨g,1,none⟩ v1).heap[g]?=some (.cells #[v0,v1,a2,a3,a4,a5,a6,a7,a8,a9] 35 (0,0)):=Ll _ g 1 _ _ v1 k0;have k2:(((X.setCell ⟨g,0,none⟩ v0).setCell ⟨g,1,none⟩ v1).setCell ⟨g,2,none⟩ v2).heap[g]?=some (.cells #[v0,v1,v2,a3,a4,a5,a6,a7,a8,a9] 35 (0,0)):=Ll _ g 2 _ _ v2 k1;have k3:((((X.setCell ⟨g,0,none⟩ v0).setCell ⟨g,1,none⟩ v1).setCell ⟨g,2,none⟩ v2).setCell ⟨g,3,none⟩ v3).heap[g]?=some (.cells #[v0,v1,v2,v3,a4,a5,a6,a7,a8,a9] 35 (0,0)):=Ll _ g 3 _ _ v3 k2;have k4:(((((X.setCell ⟨g,0,none⟩ v0).setCell ⟨g,1,none⟩ v1).setCell ⟨g,2,none⟩ v2).setCell ⟨g,3,none⟩ v3).setCell ⟨g,4,none⟩ v4).heap[g]?=some (.cells #[v0,v1,v2,v3,v4,a5,a6,a7,a8,a9] 35 (0,0)):=Ll _ g 4 _ _ v4 k3;have k5:((((((X.setCell ⟨g,0,none⟩ v0).setCell ⟨g,1,none⟩ v1).setCell ⟨g,2,none⟩ v2).setCell ⟨g,3,none⟩ v3).setCell ⟨g,4,none⟩ v4).setCell ⟨g,5,none⟩ v5).heap[g]?=some (.cells #[v0,v1,v2,v3,v4,v5,a6,a7,a8,a9] 35 (0,0)):=Ll _ g 5 _ _ v5 k4;have k6:(((((((X.setCell ⟨g,0,none⟩ v0).setCell ⟨g,1,none⟩ v1).setCell ⟨g,2,none⟩ v2).setCell ⟨g,3,none⟩ v3).setCell ⟨g,4,none⟩ v4).setCell ⟨g,5,none⟩ v5).setCell ⟨g,6,none⟩ v6).heap[g]?=some (.cells #[v0,v1,v2,v3,v4,v5,v6,a7,a8,a9] 35 (0,0)):=Ll _ g 6 _ _ v6 k5
 have k7:((((((((X.setCell ⟨g,0,none⟩ v0).setCell ⟨g,1,none⟩ v1).setCell ⟨g,2,none⟩ v2).setCell ⟨g,3,none⟩ v3).setCell ⟨g,4,none⟩ v4).setCell ⟨g,5,none⟩ v5).setCell ⟨g,6,none⟩ v6).setCell ⟨g,7,none⟩ v7).heap[g]?=some (.cells #[v0,v1,v2,v3,v4,v5,v6,v7,a8,a9] 35 (0,0)):=Ll _ g 7 _ _ v7 k6;have k8:(((((((((X.setCell ⟨g,0,none⟩ v0).setCell ⟨g,1,none⟩ v1).setCell ⟨g,2,none⟩ v2).setCell ⟨g,3,none⟩ v3).setCell ⟨g,4,none⟩ v4).setCell ⟨g,5,none⟩ v5).setCell ⟨g,6,none⟩ v6).setCell ⟨g,7,none⟩ v7).setCell ⟨g,8,none⟩ v8).heap[g]?=some (.cells #[v0,v1,v2,v3,v4,v5,v6,v7,v8,a9] 35 (0,0)):=Ll _ g 8 _ _ v8 k7;have k9:((((((((((X.setCell ⟨g,0,none⟩ v0).setCell ⟨g,1,none⟩ v1).setCell ⟨g,2,none⟩ v2).setCell ⟨g,3,none⟩ v3).setCell ⟨g,4,none⟩ v4).setCell ⟨g,5,none⟩ v5).setCell ⟨g,6,none⟩ v6).setCell ⟨g,7,none⟩ v7).setCell ⟨g,8,none⟩ v8).setCell ⟨g,9,none⟩ v9).heap[g]?=some (.cells #[v0,v1,v2,v3,v4,v5,v6,v7,v8,v9] 35 (0,0)):=Ll _ g 9 _ _ v9 k8;refine⟨k9,?_,?_,fun k hk=>?_,by simp⟩
 . refine Lw (p:=⟨g,9,none⟩) ?_ h1 _
   refine Lw (p:=⟨g,8,none⟩) ?_ h1 _;refine Lw (p:=⟨g,7,none⟩) ?_ h1 _;refine Lw (p:=⟨g,6,none⟩) ?_ h1 _;refine Lw (p:=⟨g,5,none⟩) ?_ h1 _;refine Lw (p:=⟨g,4,none⟩) ?_ h1 _;refine Lw (p:=⟨g,3,none⟩) ?_ h1 _;refine Lw (p:=⟨g,2,none⟩) ?_ h1 _;refine Lw (p:=⟨g,1,none⟩) ?_ h1 _;refine Lw (p:=⟨g,0,none⟩) ?_ h1 _;exact hB
 . refine Lw (p:=⟨g,9,none⟩) ?_ (Le _) _
   refine Lw (p:=⟨g,8,none⟩) ?_ (Le _) _;refine Lw (p:=⟨g,7,none⟩) ?_ (Le _) _;refine Lw (p:=⟨g,6,none⟩) ?_ (Le _) _;refine Lw (p:=⟨g,5,none⟩) ?_ (Le _) _;refine Lw (p:=⟨g,4,none⟩) ?_ (Le _) _;refine Lw (p:=⟨g,3,none⟩) ?_ (Le _) _;refine Lw (p:=⟨g,2,none⟩) ?_ (Le _) _;refine Lw (p:=⟨g,1,none⟩) ?_ (Le _) _;refine Lw (p:=⟨g,0,none⟩) ?_ (Le _) _;exact Lo _ _
 . exact((Lf _ ⟨g,9,none⟩ v9 k hk).trans ((Lf _ ⟨g,8,none⟩ v8 k hk).trans ((Lf _ ⟨g,7,none⟩ v7 k hk).trans ((Lf _ ⟨g,6,none⟩ v6 k hk).trans ((Lf _ ⟨g,5,none⟩ v5 k hk).trans ((Lf _ ⟨g,4,none⟩ v4 k hk).trans ((Lf _ ⟨g,3,none⟩ v3 k hk).trans ((Lf _ ⟨g,2,none⟩ v2 k hk).trans ((Lf _ ⟨g,1,none⟩ v1 k hk).trans (Lf _ ⟨g,0,none⟩ v0 k hk))))))))))
theorem vw_store8{w X:Ba}{g B:Nat}{a0 a1 a2 a3 a4 a5 a6 a7:Value}(v:Vw)(hg:X.heap[g]?=some (.cells #[a0,a1,a2,a3,a4,a5,a6,a7] 128 (0,0)))(hB:Below B w X)(h1:B<=g) :
  ((((((((X.setCell ⟨g,0,none⟩ (.int .i64 v.p)).setCell ⟨g,1,none⟩ (.int .i64 v.r)).setCell ⟨g,2,none⟩ (.int .i64 v.i)).setCell ⟨g,3,none⟩ (.int .i64 v.h0)).setCell ⟨g,4,none⟩ (.int .i64 v.h1)).setCell ⟨g,5,none⟩ (.int .i64 v.h2)).setCell ⟨g,6,none⟩ (.int .i64 v.h3)).setCell ⟨g,7,none⟩ (.int .i64 v.h4)).heap[g]?=some (.cells v.cells 128 (0,0))/\Below B w ((((((((X.setCell ⟨g,0,none⟩ (.int .i64 v.p)).setCell ⟨g,1,none⟩ (.int .i64 v.r)).setCell ⟨g,2,none⟩ (.int .i64 v.i)).setCell ⟨g,3,none⟩ (.int .i64 v.h0)).setCell ⟨g,4,none⟩ (.int .i64 v.h1)).setCell ⟨g,5,none⟩ (.int .i64 v.h2)).setCell ⟨g,6,none⟩ (.int .i64 v.h3)).setCell ⟨g,7,none⟩ (.int .i64 v.h4)):=by
 have k0:(X.setCell ⟨g,0,none⟩ (.int .i64 v.p)).heap[g]?=some (.cells #[.int .i64 v.p,a1,a2,a3,a4,a5,a6,a7] 128 (0,0)):=Ll _ g 0 _ _ _ hg;have k1:((X.setCell ⟨g,0,none⟩ (.int .i64 v.p)).setCell ⟨g,1,none⟩ (.int .i64 v.r)).heap[g]?=some (.cells #[.int .i64 v.p,.int .i64 v.r,a2,a3,a4,a5,a6,a7] 128 (0,0)):=Ll _ g 1 _ _ _ k0;have k2:(((X.setCell ⟨g,0,none⟩ (.int .i64 v.p)).setCell ⟨g,1,none⟩ (.int .i64 v.r)).setCell ⟨g,2,none⟩ (.int .i64 v.i)).heap[g]?=some (.cells #[.int .i64 v.p,.int .i64 v.r,.int .i64 v.i,a3,a4,a5,a6,a7] 128 (0,0)):=Ll _ g 2 _ _ _ k1;have k3:((((X.setCell ⟨g,0,none⟩ (.int .i64 v.p)).setCell ⟨g,1,none⟩ (.int .i64 v.r)).setCell ⟨g,2,none⟩ (.int .i64 v.i)).setCell ⟨g,3,none⟩ (.int .i64 v.h0)).heap[g]?=some (.cells #[.int .i64 v.p,.int .i64 v.r,.int .i64 v.i,.int .i64 v.h0,a4,a5,a6,a7] 128 (0,0)):=Ll _ g 3 _ _ _ k2;have k4:(((((X.setCell ⟨g,0,none⟩ (.int .i64 v.p)).setCell ⟨g,1,none⟩ (.int .i64 v.r)).setCell ⟨g,2,none⟩ (.int .i64 v.i)).setCell ⟨g,3,none⟩ (.int .i64 v.h0)).setCell ⟨g,4,none⟩ (.int .i64 v.h1)).heap[g]?=some (.cells #[.int .i64 v.p,.int .i64 v.r,.int .i64 v.i,.int .i64 v.h0,.int .i64 v.h1,a5,a6,a7] 128 (0,0)):=Ll _ g 4 _ _ _ k3
 have k5:((((((X.setCell ⟨g,0,none⟩ (.int .i64 v.p)).setCell ⟨g,1,none⟩ (.int .i64 v.r)).setCell ⟨g,2,none⟩ (.int .i64 v.i)).setCell ⟨g,3,none⟩ (.int .i64 v.h0)).setCell ⟨g,4,none⟩ (.int .i64 v.h1)).setCell ⟨g,5,none⟩ (.int .i64 v.h2)).heap[g]?=some (.cells #[.int .i64 v.p,.int .i64 v.r,.int .i64 v.i,.int .i64 v.h0,.int .i64 v.h1,.int .i64 v.h2,a6,a7] 128 (0,0)):=Ll _ g 5 _ _ _ k4;have k6:(((((((X.setCell ⟨g,0,none⟩ (.int .i64 v.p)).setCell ⟨g,1,none⟩ (.int .i64 v.r)).setCell ⟨g,2,none⟩ (.int .i64 v.i)).setCell ⟨g,3,none⟩ (.int .i64 v.h0)).setCell ⟨g,4,none⟩ (.int .i64 v.h1)).setCell ⟨g,5,none⟩ (.int .i64 v.h2)).setCell ⟨g,6,none⟩ (.int .i64 v.h3)).heap[g]?=some (.cells #[.int .i64 v.p,.int .i64 v.r,.int .i64 v.i,.int .i64 v.h0,.int .i64 v.h1,.int .i64 v.h2,.int .i64 v.h3,a7] 128 (0,0)):=Ll _ g 6 _ _ _ k5;have k7:((((((((X.setCell ⟨g,0,none⟩ (.int .i64 v.p)).setCell ⟨g,1,none⟩ (.int .i64 v.r)).setCell ⟨g,2,none⟩ (.int .i64 v.i)).setCell ⟨g,3,none⟩ (.int .i64 v.h0)).setCell ⟨g,4,none⟩ (.int .i64 v.h1)).setCell ⟨g,5,none⟩ (.int .i64 v.h2)).setCell ⟨g,6,none⟩ (.int .i64 v.h3)).setCell ⟨g,7,none⟩ (.int .i64 v.h4)).heap[g]?=some (.cells #[.int .i64 v.p,.int .i64 v.r,.int .i64 v.i,.int .i64 v.h0,.int .i64 v.h1,.int .i64 v.h2,.int .i64 v.h3,.int .i64 v.h4] 128 (0,0)):=Ll _ g 7 _ _ _ k6;refine⟨k7,?_⟩;refine Lw (p:=⟨g,7,none⟩) ?_ h1 _;refine Lw (p:=⟨g,6,none⟩) ?_ h1 _;refine Lw (p:=⟨g,5,none⟩) ?_ h1 _
 refine Lw (p:=⟨g,4,none⟩) ?_ h1 _;refine Lw (p:=⟨g,3,none⟩) ?_ h1 _;refine Lw (p:=⟨g,2,none⟩) ?_ h1 _;refine Lw (p:=⟨g,1,none⟩) ?_ h1 _;refine Lw (p:=⟨g,0,none⟩) ?_ h1 _;exact hB
def WdsAt(bs D:Nat)(WR:Ba)(AW:Bb)(words:List (List Rd)):Prop:=∀(i:Nat) (h:i<words.length),∃g A c,AW=some ⟨g,0,none⟩/\bs<g/\g<D/\WR.cell? ⟨g,i,none⟩=some (.slice A words[i].length c)/\RAtS (fun k=>bs<k/\k<D) WR A words[i]/\words[i].length<=c
theorem WdsAt.of{bs D:Nat}{w w':Ba}{v:Value}{words:List (List Rd)}(h:OwnX cWd (fun b=>w.heap.size<=b) w' w.heap.size v words)(hb:bs<w.heap.size)(hD:w'.heap.size=D) :
  ∃AW cw,v=.slice AW words.length cw/\WdsAt bs D w' AW words:=by
 obtain⟨A,cap,e,_,_,h3⟩:=h.form qu;refine⟨A,cap,e,fun i hi=>?_⟩;obtain⟨g,hA,hg,hl,hc⟩:=h3 (by omega);obtain⟨cs,⟨A2,c2,e2,hR,hRc⟩,hu⟩:=hc i hi;subst e2;refine⟨g,A2,c2,hA,by omega,by omega,?_,hR.mono fun k hk hs=>⟨by have:=hs.1;omega,by omega⟩,hRc⟩;have:=hu 0 _ rfl;simpa[cWd,kWd] using this
end
section
open Go.RowKit
attribute [local go_sem] Oper.semAt_some
theorem XK(A A':Bb)(cap cap':Nat)(xs ys:List Int)(w:Ba)(B:Nat)(hA:IAt w B A xs)(hA':IAt w B A' ys)(hl:xs.length<=17592186044416)(hl':ys.length<=17592186044416) :
  Calls Tryz.prog 11 #[.slice A xs.length cap,.slice A' ys.length cap'] w fun e w'=>e=.returned (.bool (decide (xs=ys)))/\∃n,w'=w.drewN n:=by
 by_cases hll:xs.length=ys.length
 . by_cases h0:xs.length=0
   . have e1:xs=[]:=LJ h0
     have e2:ys=[]:=LJ (by omega);subst e1;subst e2;exact(Tryz.slices_Equal_int_empty A A' cap 0 cap' w (by omega)).mono fun e w' h=>⟨by simpa using h.1,0,h.2⟩
   . obtain⟨b,o,rfl,hb,hc⟩:=hA (by omega)
     obtain⟨b',o',rfl,hb',hc'⟩:=hA' (by omega);refine(Tryz.slices_Equal_int b o xs.length cap b' o' ys.length cap' xs ys w (Le _) (Le _) (by omega) (by omega) (fun j hj=>?_) (fun j hj=>?_)).mono fun e w' h=>⟨?_,h.2⟩
     . rw[Lj,Lm hj];exact hc j hj
     . rw[Lj,Lm hj];exact hc' j hj
     . rw[h.1,LG,LG]
       exact zm (by rw[Pd];simp)
 . exact(Tryz.slices_Equal_int_lens A A' xs.length cap ys.length cap' w hll).mono fun e w' h=>⟨by rw[h.1,Li (by rintro rfl;exact hll rfl)],0,h.2⟩
theorem eqV_any(A A':Bb)(cap cap':Nat)(vs us:List Vw)(w:Ba)(B:Nat)(hB:B<=w.heap.size)(hA:VAt w B A vs)(hA':VAt w B A' us)(hl:vs.length<=2199023255552)(hl':us.length<=2199023255552) :
  Calls Tryz.prog 61 #[.slice A vs.length cap,.slice A' us.length cap'] w fun e w'=>e=.returned (.bool (decide (vs=us)))/\∃n,w'=w.drewN n:=by
 have HE:Hid (∀k (hk:k<vs.length) (hk':k<us.length) (X:Ba),(binOp .neq 128 (.agg vs[k].cells) (.agg us[k].cells)).run Tryz.prog X=.ok (.bool (decide (vs[k]≠us[k]))) X):=fun k hk hk' X=>Qv vs[k] us[k] X
 unfold Vw.cells at HE
 by_cases hll:vs.length=us.length
 . have HL:=zH hll
   have hl1:((vs.length:Int) != (us.length:Int))=false:=by simp[hll]
   clear hll;go_enter Tryz.func61,Tryz.ntmps61;go_wp2
   go_loopw [13] (fun i wr=>∃k m:Nat,k<=vs.length/\i=.int .i64 k/\wr=w.drewN m/\Hid (vs.take k=us.take k)) (fun i _=>vs.length-(intOf i).toNat)
   case atStart=>exact⟨0,0,by omega,rfl,rfl,by show vs.take 0=us.take 0;simp⟩
   case round=>
    obtain⟨k,m,hk,rfl,rfl,hall⟩:=hrel;have hle:k<=us.length:=by have:=HL.out;omega
    by_cases hlt:k<vs.length
    . have hlt':k<us.length:=by have:=HL.out;omega
      obtain⟨b,off,rfl,hb1,c0,c1,c2,c3,c4,c5,c6,c7⟩:=hA.row k hlt;have hb2:b<w.heap.size:=by omega
      obtain⟨b',off',rfl,hb1',d0,d1,d2,d3,d4,d5,d6,d7⟩:=hA'.row k hlt';have hb2':b'<w.heap.size:=by omega
      have heq:=HE.out k hlt hlt';clear HE hA hA'
      by_cases hv:vs[k]=us[k]
      . have heq':∀X:Ba,_:=fun X=>(heq X).trans (by rw[Li (by simpa using hv)])
        have hz:Hid (vs.take (k+1)=us.take (k+1)):=jO hlt hlt' hall.out hv;clear heq hv;go_wp2;go_quiet (fail);go_wp2
        go_roundw
        case rel=>exact⟨k+1,_,by omega,by go_num,rfl,hz⟩
        case measure=>simp[intOf];omega
      . have heq':∀X:Ba,_:=fun X=>(heq X).trans (by rw[Lk hv])
        have hz:Hid (decide (vs=us)=false):=Li (qs hlt hlt' hv);clear heq hv;go_wp2;go_quiet (fail);go_wp2;go_ret;exact⟨zm hz.out.symm,_,qY _ _ _⟩
    . obtain rfl:k=vs.length:=by omega
      have hz:Hid (decide (vs=us)=true):=Lk (qt HL.out hall.out);go_wp2;go_ret;exact⟨zm hz.out.symm,_,rfl⟩
 . have hz:Hid (decide (vs=us)=false):=Li (by rintro rfl;exact hll rfl)
   have hl1:((vs.length:Int) != (us.length:Int))=true:=by simp;omega
   clear hll;go_enter Tryz.func61,Tryz.ntmps61;go_wp2;go_ret;exact⟨zm hz.out.symm,0,rfl⟩
theorem eqR_any(A A':Bb)(cap cap':Nat)(vs us:List Rd)(w:Ba)(B:Nat)(hB:B<=w.heap.size)(hA:RAt w B A vs)(hA':RAt w B A' us)(hl:vs.length<=17592186044416)(hl':us.length<=17592186044416) :
  Calls Tryz.prog 100 #[.slice A vs.length cap,.slice A' us.length cap'] w fun e w'=>e=.returned (.bool (decide (vs=us)))/\∃n,w'=w.drewN n:=by
 have HE:Hid (∀k (hk:k<vs.length) (hk':k<us.length) (X:Ba),(binOp .neq 92 (.agg vs[k].cells) (.agg us[k].cells)).run Tryz.prog X=.ok (.bool (decide (vs[k]≠us[k]))) X):=fun k hk hk' X=>YN vs[k] us[k] X
 unfold Rd.cells at HE
 by_cases hll:vs.length=us.length
 . have HL:=zH hll
   have hl1:((vs.length:Int) != (us.length:Int))=false:=by simp[hll]
   clear hll;go_enter Tryz.func100,Tryz.ntmps100;go_wp2
   go_loopw [13] (fun i wr=>∃k m:Nat,k<=vs.length/\i=.int .i64 k/\wr=w.drewN m/\Hid (vs.take k=us.take k)) (fun i _=>vs.length-(intOf i).toNat)
   case atStart=>exact⟨0,0,by omega,rfl,rfl,by show vs.take 0=us.take 0;simp⟩
   case round=>
    obtain⟨k,m,hk,rfl,rfl,hall⟩:=hrel;have hle:k<=us.length:=by have:=HL.out;omega
    by_cases hlt:k<vs.length
    . have hlt':k<us.length:=by have:=HL.out;omega
      obtain⟨b,off,rfl,hb1,c0,c1,c2,c3,c4,c5,c6⟩:=hA.row k hlt;have hb2:b<w.heap.size:=by omega
      obtain⟨b',off',rfl,hb1',d0,d1,d2,d3,d4,d5,d6⟩:=hA'.row k hlt';have hb2':b'<w.heap.size:=by omega
      have heq:=HE.out k hlt hlt';clear HE hA hA'
      by_cases hv:vs[k]=us[k]
      . have heq':∀X:Ba,_:=fun X=>(heq X).trans (by rw[Li (by simpa using hv)])
        have hz:Hid (vs.take (k+1)=us.take (k+1)):=jO hlt hlt' hall.out hv;clear heq hv;go_wp2;go_quiet (fail);go_wp2
        go_roundw
        case rel=>exact⟨k+1,_,by omega,by go_num,rfl,hz⟩
        case measure=>simp[intOf];omega
      . have heq':∀X:Ba,_:=fun X=>(heq X).trans (by rw[Lk hv])
        have hz:Hid (decide (vs=us)=false):=Li (qs hlt hlt' hv);clear heq hv;go_wp2;go_quiet (fail);go_wp2;go_ret;exact⟨zm hz.out.symm,_,qY _ _ _⟩
    . obtain rfl:k=vs.length:=by omega
      have hz:Hid (decide (vs=us)=true):=Lk (qt HL.out hall.out);go_wp2;go_ret;exact⟨zm hz.out.symm,_,rfl⟩
 . have hz:Hid (decide (vs=us)=false):=Li (by rintro rfl;exact hll rfl)
   have hl1:((vs.length:Int) != (us.length:Int))=true:=by simp;omega
   clear hll;go_enter Tryz.func100,Tryz.ntmps100;go_wp2;go_ret;exact⟨zm hz.out.symm,0,rfl⟩
theorem eqLL_any(A A':Bb)(cap cap':Nat)(vs us:List (List Int))(w:Ba)(B:Nat)(_hB:B<=w.heap.size)(hA:LAt w B A vs)(hA':LAt w B A' us)(hl:vs.length<=17592186044416)(hl':us.length<=17592186044416)
  (hv:∀v∈vs,v.length<=17592186044416) (hu:∀v∈us,v.length<=17592186044416) :
  Calls Tryz.prog 101 #[.slice A vs.length cap,.slice A' us.length cap',.func (.func 11) #[] #[]] w fun e w'=>e=.returned (.bool (decide (vs=us)))/\∃n,w'=w.drewN n:=by
 have HV:=zH hv;have HU:=zH hu;clear hv hu
 by_cases hll:vs.length=us.length
 . have HL:=zH hll
   have hl1:((vs.length:Int) != (us.length:Int))=false:=by simp[hll]
   clear hll;go_enter Tryz.func101,Tryz.ntmps101;go_wp2_with fail
   go_loopw [17] (fun i wr=>∃k m:Nat,k<=vs.length/\i=.int .i64 k/\wr=w.drewN m/\Hid (vs.take k=us.take k)) (fun i _=>vs.length-(intOf i).toNat)
   case atStart=>exact⟨0,0,by omega,rfl,rfl,by show vs.take 0=us.take 0;simp⟩
   case round=>
    obtain⟨k,m,hk,rfl,rfl,hall⟩:=hrel;have hle:k<=us.length:=by have:=HL.out;omega
    by_cases hlt:k<vs.length
    . have hlt':k<us.length:=by have:=HL.out;omega
      obtain⟨b,off,A1,c1,rfl,hb1,x0,hI⟩:=hA.at_ k hlt;obtain⟨b',off',A2,c2,rfl,hb1',y0,hI'⟩:=hA'.at_ k hlt';have HC:=zH (XK A1 A2 c1 c2 vs[k] us[k] (w.drewN m) B hI hI' (HV.out _ (Ld hlt)) (HU.out _ (Ld hlt')));have x1:(w.drewN m).cell? ⟨b,off+k,none⟩=some (.slice A1 vs[k].length c1):=x0;have y1:(w.drewN m).cell? ⟨b',off'+k,none⟩=some (.slice A2 us[k].length c2):=y0;clear hA hA' x0 y0 hI hI';have hk0:(0:Int)<=(k:Int):=by omega
      have hk1:(k:Int)<(vs.length:Int):=by omega
      have hk2:(k:Int)<(us.length:Int):=by omega
      go_wp2_with fail;refine HC.out.mono ?_;rintro e w' ⟨rfl,n,rfl⟩
      by_cases hv:vs[k]=us[k]
      . have hz:Hid (vs.take (k+1)=us.take (k+1)):=xt hall.out hlt hlt' hv
        rw[Lk hv];clear hv HC x1 y1;go_wp2_with fail
        go_roundw
        case rel=>exact⟨k+1,_,by omega,by go_num,rfl,hz⟩
        case measure=>simp[intOf];omega
      . have hz:Hid (decide (vs=us)=false):=Li (qs hlt hlt' hv)
        rw[Li hv];clear hv HC x1 y1;go_wp2_with fail;go_ret;exact⟨zm hz.out.symm,_,rfl⟩
    . obtain rfl:k=vs.length:=by omega
      have hz:Hid (decide (vs=us)=true):=Lk (qt HL.out hall.out);go_wp2_with fail;go_ret;exact⟨zm hz.out.symm,_,rfl⟩
 . have hz:Hid (decide (vs=us)=false):=Li (by rintro rfl;exact hll rfl)
   have hl1:((vs.length:Int) != (us.length:Int))=true:=by simp;omega
   clear hll;go_enter Tryz.func101,Tryz.ntmps101;go_wp2_with fail;go_ret;exact⟨zm hz.out.symm,0,rfl⟩
theorem xsame_any(x y:Exn)(hx:Z7 x)(hy:Z7 y)(A1 A2 B1 B2:Bb)(a1 a2 b1 b2:Nat)(w:Ba)(hA1:RAt w w.heap.size A1 x.word)(hA2:LAt w w.heap.size A2 x.views)(hB1:RAt w w.heap.size B1 y.word)(hB2:LAt w w.heap.size B2 y.views) :
  Calls Tryz.prog 63 #[.agg #[.int .i64 x.c,.slice A1 x.word.length a1,.slice A2 x.views.length a2],.agg #[.int .i64 y.c,.slice B1 y.word.length b1,.slice B2 y.views.length b2]] w fun e w'=>e=.returned (.bool (decide (x=y)))/\Below w.heap.size w w':=by
 obtain⟨w1,hw1,d0,d1,hs1,hB⟩:=yB w #[.int .i64 x.c,.slice A1 x.word.length a1,.slice A2 x.views.length a2] #[.int .i64 y.c,.slice B1 y.word.length b1,.slice B2 y.views.length b2] 56 56;have HR:=zH (eqR_any A1 B1 a1 b1 x.word y.word w1 w.heap.size (by omega) (hA1.keep hB) (hB1.keep hB) hx.1 hy.1);have HL:=zH (fun n=>eqLL_any A2 B2 a2 b2 x.views y.views (w1.drewN n) w.heap.size (by show w.heap.size<=w1.heap.size;omega) (hA2.keep (zT hB n)) (hB2.keep (zT hB n)) hx.2.1 hy.2.1 hx.2.2 hy.2.2);have HW1:=zH hw1;have HB:=zH hB;have HD0:=zH d0;have HD1:=zH d1;obtain⟨p0,p1,p2,_⟩:=Kc d0;obtain⟨q0,q1,q2,_⟩:=Kc d1;have HE:=zH (@exn_eq x y);have HNE:Hid (x≠y->decide (x=y)=false):=fun h=>Li h
 have HYE:Hid (x=y->decide (x=y)=true):=fun h=>Lk h
 obtain⟨r,hr⟩:∃r,decide (x=y)=r:=⟨_,rfl⟩;rw[hr] at HNE HYE ⊢;clear hr hw1 d0 d1 hB hA1 hA2 hB1 hB2 hx hy;go_enter Tryz.func63,Tryz.ntmps63
 by_cases h1:x.c=y.c
 case neg=>
  have hR:=zH (HNE.out (fun h=>h1 (congrArg Exn.c h)));have e0:(x.c==y.c)=false:=by simpa using h1
  clear HNE HYE HE h1 HR HL;go_wp2_with fail;rw[HW1.out];go_wp2_with fail
  all_goals
   go_ret;exact⟨zm hR.out.symm,HB.out⟩
 case pos=>
 have e0:(x.c==y.c)=true:=by simpa using h1
 have HC:=zH h1;clear h1;go_wp2_with fail;rw[HW1.out];go_wp2_with fail;refine HR.out.mono ?_;rintro e w2 ⟨rfl,n,rfl⟩;have p2:(w1.drewN n).cell? ⟨w.heap.size,2,none⟩=some (.slice A2 x.views.length a2):=zh HD0.out 2 rfl;have q2:(w1.drewN n).cell? ⟨w.heap.size+1,2,none⟩=some (.slice B2 y.views.length b2):=zh HD1.out 2 rfl
 by_cases h2:x.word=y.word
 case neg=>
  have hR:=zH (HNE.out (fun h=>h2 (congrArg Exn.word h)));rw[Li h2];clear HNE HYE HE h2 HR HL;go_wp2_with fail
  all_goals
   go_ret;exact⟨zm hR.out.symm,zT HB.out n⟩
 case pos=>
 rw[Lk h2];have HW:=zH h2;clear h2;go_wp2_with fail;refine(HL.out n).mono ?_;rintro e w3 ⟨rfl,m,rfl⟩
 have hR:Hid (decide (x.views=y.views)=r):=by
  by_cases h3:x.views=y.views
  . exact(Lk h3).trans (HYE.out (HE.out HC.out HW.out h3)).symm
  . exact(Li h3).trans (HNE.out (fun h=>h3 (congrArg Exn.views h))).symm
 rw[hR.out];clear HNE HYE HE HR HL;go_wp2_with fail
 all_goals
  go_ret;exact⟨rfl,zT HB.out _⟩
theorem eqX_any(A A':Bb)(cap cap':Nat)(vs us:List Exn)(w:Ba)(hA:XAt w w.heap.size A vs)(hA':XAt w w.heap.size A' us)(hl:vs.length<=17592186044416)(hl':us.length<=17592186044416)
  (hv:∀v∈vs,Z7 v) (hu:∀v∈us,Z7 v) :
  Calls Tryz.prog 62 #[.slice A vs.length cap,.slice A' us.length cap',.func (.func 63) #[] #[]] w fun e w'=>e=.returned (.bool (decide (vs=us)))/\Below w.heap.size w w':=by
 have HV:=zH hv;have HU:=zH hu;have HA:=zH hA;have HA':=zH hA';clear hv hu hA hA'
 by_cases hll:vs.length=us.length
 . have HL:=zH hll
   have hl1:((vs.length:Int) != (us.length:Int))=false:=by simp[hll]
   clear hll;go_enter Tryz.func62,Tryz.ntmps62;go_wp2_with fail
   go_loopw [17] (fun i wr=>∃k:Nat,k<=vs.length/\i=.int .i64 k/\Hid (Below w.heap.size w wr)/\Hid (vs.take k=us.take k)) (fun i _=>vs.length-(intOf i).toNat)
   case atStart=>exact⟨0,by omega,rfl,Lo _ _,by show vs.take 0=us.take 0;simp⟩
   case round=>
    obtain⟨k,hk,rfl,hb,hall⟩:=hrel;have hle:k<=us.length:=by have:=HL.out;omega
    by_cases hlt:k<vs.length
    . have hlt':k<us.length:=by have:=HL.out;omega
      obtain⟨b,off,A1,c1,A2,c2,eA,hb1,x0,x1,x2,hW,hI⟩:=(HA.out.keep hb.out).row k hlt;obtain⟨b',off',B1,d1,B2,d2,eB,hb1',y0,y1,y2,hW',hI'⟩:=(HA'.out.keep hb.out).row k hlt';subst eA;subst eB;obtain⟨x,hx⟩:=Ki (vs[k]);obtain⟨y,hy⟩:=Ki (us[k]);have hxl:=HV.out _ (Ld hlt);have hyl:=HU.out _ (Ld hlt');have hne:=zH (fun (h:x≠y)=>(Li (qs hlt hlt' (by rw[hx,hy];exact h)):decide (vs=us)=false));have hok:=zH (fun (h:x=y)=>xt hall.out hlt hlt' (by rw[hx,hy];exact h));rw[hx] at x0 x1 x2 hW hI hxl;rw[hy] at y0 y1 y2 hW' hI' hyl;have hsz:=hb.out.size;have hbw:b<wr.heap.size:=by omega
      have hbw':b'<wr.heap.size:=by omega
      obtain⟨W2,hW2,d0,d1',hs2,hB2⟩:=yB wr #[.int .i64 x.c,.slice A1 x.word.length c1,.slice A2 x.views.length c2] #[.int .i64 y.c,.slice B1 y.word.length d1,.slice B2 y.views.length d2] 56 56;have HC:=zH (xsame_any x y hxl hyl A1 A2 B1 B2 c1 c2 d1 d2 W2 (((hW.more hsz).keep hB2).more hB2.size) (((hI.more hsz).keep hB2).more hB2.size) (((hW'.more hsz).keep hB2).more hB2.size) (((hI'.more hsz).keep hB2).more hB2.size));have HB2:=zH (hb.out.trans (hB2.mono hsz));have HW2:=zH hW2;obtain⟨p0,p1,p2,_⟩:=Kc d0;obtain⟨q0,q1,q2,_⟩:=Kc d1';clear hW hI hW' hI' hxl hyl hW2 d0 d1' hB2 hx hy hall;have hk0:(0:Int)<=(k:Int):=by omega
      have hk1:(k:Int)<(vs.length:Int):=by omega
      have hk2:(k:Int)<(us.length:Int):=by omega
      go_wp2_with fail;rw[HW2.out];go_wp2_with fail;refine HC.out.mono ?_;rintro e w3 ⟨rfl,hb3⟩;have HB3:=zH (Lc HB2.out hb3);clear hb3 HC p0 p1 p2 q0 q1 q2 x0 x1 x2 y0 y1 y2
      by_cases hv:x=y
      . have hz:=zH (hok.out hv)
        rw[Lk hv];clear hv hok hne;go_wp2_with fail
        go_roundw
        case rel=>exact⟨k+1,by omega,by go_num,HB3,hz⟩
        case measure=>simp[intOf];omega
      . have hz:=zH (hne.out hv)
        rw[Li hv];clear hv hok hne;go_wp2_with fail;go_ret;exact⟨zm hz.out.symm,HB3.out⟩
    . obtain rfl:k=vs.length:=by omega
      have hz:Hid (decide (vs=us)=true):=Lk (qt HL.out hall.out);go_wp2_with fail;go_ret;exact⟨zm hz.out.symm,hb.out⟩
 . have hz:Hid (decide (vs=us)=false):=Li (by rintro rfl;exact hll rfl)
   have hl1:((vs.length:Int) != (us.length:Int))=true:=by simp;omega
   clear hll;go_enter Tryz.func62,Tryz.ntmps62;go_wp2_with fail;go_ret;exact⟨zm hz.out.symm,Lo _ _⟩
theorem X7(a:Ad)(hf:FewA a)(hz:zI a a.sts=0)(h1:1<=a.sts.length)(K L:Nat)(hK:K<=6)(hL:L<=1048576)(SV:Bb)(ks:Nat)(w:Ba)(hS:SAt w w.heap.size SV a.sts) :
  Calls Tryz.prog 54 #[.agg #[.int .i64 a.n,.slice SV a.sts.length ks],.int .i64 K,.int .i64 L] w fun e w'=>e=.returned (.int .i64 ((yW L (yd a K 0):Nat):Int))/\Below w.heap.size w w':=by
 have hf1:=hf.1;have HFE:=zH (fun l hl=>hf.each (l:=l) hl);have HZ:=zH (@xT a hz);clear hf hz;go_enter Tryz.func54,Tryz.ntmps54;go_wp2_with fail;obtain⟨w1,hw1⟩:=Ki (w.alloc (.cells #[.int .i64 a.n,.slice SV a.sts.length ks] 27));have hbb:=zw w (.cells #[.int .i64 a.n,.slice SV a.sts.length ks] 27);have hb01:Below w.heap.size w w1:=by rw[<-hw1];exact zW w _
 have hsz1:w1.heap.size=w.heap.size+1:=by rw[<-hw1];simp
 rw[hw1] at hbb ⊢;have HBB:=zH hbb;have HB01:=zH hb01;have HS:=zH ((hS.keep hb01).more (by omega:w.heap.size<=w1.heap.size));clear hS hw1 hbb hb01
 go_loopw [7,8] (fun v i wr=>∃s:Nat,s<=a.sts.length/\i=.int .i64 (s:Int)/\Hid (Own wr w1.heap.size v (cl a L 0 s))/\Hid (Below w1.heap.size w1 wr)) (fun _ i _=>a.sts.length-(intOf i).toNat)
 case atStart=>exact⟨0,by omega,rfl,Own.nil _ _,Lo _ _⟩
 case round=>
  obtain⟨s,hs,rfl,HO,hbs⟩:=hrel;have hbk:=La hbs.out HBB.out;obtain⟨q0,q1,_⟩:=Ka hbk;clear hbk
  by_cases hlt:s<a.sts.length
  case pos=>
   have hln:=jg a L 0 s;have HR:Hid (cl a L 0 (s+1)=cl a L 0 s++[1]):=by rw[Hid,cl_succ,show yd a 0 (s:Int)=1 from rfl,sat_one];rfl
   go_wp2_with (at_builtin;go_must (refine xZ rfl _ _ rfl w1.heap.size u7 _ (1:Int) rfl HO.out rfl (by omega) hbs.out.size ?_);intro v' w2 hown1 hg1 hb1)
   go_roundw
   case rel=>exact⟨s+1,by omega,by go_num,by rw[HR.out];exact hown1,hbs.out.trans hb1⟩
   case measure=>simp[intOf];omega
  case neg=>
  obtain rfl:s=a.sts.length:=by omega
  go_wp2_with fail;clear q0 q1
  go_loopw [7,9] (fun v i wr=>∃k:Nat,k<=K/\i=.int .i64 (k:Int)/\Hid (Own wr w1.heap.size v (cl a L k a.sts.length))/\Hid (Below w1.heap.size w1 wr)) (fun _ i _=>K-(intOf i).toNat)
  case atStart=>exact⟨0,by omega,rfl,HO,hbs⟩
  case round=>
   clear HO hbs;obtain⟨k,hk,rfl,HO,hbs⟩:=hrel
   by_cases hkK:k<K
   case neg=>
    obtain rfl:k=K:=by omega
    obtain⟨A,cap,hv,hle,hcm,hI⟩:=HO.out.form;subst hv;have hln:=jg a L k a.sts.length;obtain⟨b,o,rfl,hbB,hc⟩:=hI (by omega);have c0:=hc 0 (by omega);rw[ZZ] at c0;rw[hln] at hle;rw[show((0:Nat):Int)=0 from rfl,Pg] at c0;obtain⟨r,hr⟩:=Ki (yW L (yd a k 0));rw[hr] at c0;have HRr:=zH hr;clear hc hI hr HO;go_wp2_with fail;go_ret;exact⟨zk (by rw[HRr.out]),HB01.out.trans (hbs.out.mono (by omega))⟩
   case pos=>
   obtain⟨A,cap,hv,hle,hcm,hI⟩:=HO.out.form;subst hv;have hln:=jg a L k a.sts.length;obtain⟨b0,o0,e0,hbB0,hc⟩:=hI (by omega);subst e0;rw[hln] at hle;obtain⟨W2,hW2⟩:=Ki wr
   have HCS:Hid (∀X,Below W2.heap.size W2 X->∀j:Nat,j<a.sts.length->X.cell? ⟨b0,o0+j,none⟩=some (.int .i64 ((yW L (yd a k (j:Int)):Nat):Int))):=fun X hX j hj=>by
    rw[<-hW2] at hX;have:=hc j (by omega);rw[ZZ] at this;exact(hX.cell (p:=⟨b0,_,none⟩) hbB0).trans this
   rw[hW2] at HO hbs hbB0 ⊢;have hsW:=hbs.out.size;clear hW2 hc hI;go_wp2_with fail;simp only[hln]
   go_loopw [10,11] (fun v i wx=>∃s:Nat,s<=a.sts.length/\i=.int .i64 (s:Int)/\Hid (Own wx W2.heap.size v (cl a L (k+1) s))/\Hid (Below W2.heap.size W2 wx)) (fun _ i _=>a.sts.length-(intOf i).toNat)
   case atStart=>exact⟨0,by omega,rfl,Own.nil _ _,Lo _ _⟩
   case round=>
    obtain⟨s,hs,rfl,HP,hbx⟩:=hrel;have hbw:=zH (hbs.out.trans (hbx.out.mono hsW));have hbk:=La hbw.out HBB.out;obtain⟨q0,q1,_⟩:=Ka hbk
    by_cases hsl:s<a.sts.length
    case neg=>
     obtain rfl:s=a.sts.length:=by omega
     clear hbk HCS;go_wp2_with fail
     go_roundw
     case rel=>exact⟨k+1,by omega,by go_num,HP.out.low hsW,hbw⟩
     case measure=>simp[intOf];omega
    case pos=>
    obtain⟨b,o,A',k',e',hbB,c1,hM⟩:=(HS.out.keep hbw.out).at_ s hsl;subst e';have hl40:=HFE.out _ (Ld hsl);have hse:=sumTo_end a k hsl;have HLm:Hid (∀m∈a.sts[s],m∈a.mvs):=fun m hm=>NA.2 ⟨_,Ld hsl,hm⟩
    have HMM:=zH hM;obtain⟨M,hM0⟩:=Ki (a.sts[s]);rw[hM0] at c1 hl40 HLm hse HMM;have HSE:=zH hse;clear hM0 hM hse hbk;have hpl:=jg a L (k+1) s;go_wp2_with fail
    go_loop [12,13] (fun n i=>∃j:Nat,j<=M.length/\i=.int .i64 (j:Int)/\n=.int .i64 ((yW L (kG a k M j):Nat):Int)) (fun _ i=>M.length-(intOf i).toNat)
    case atStart=>exact⟨0,by omega,rfl,by rw[Jk,X0];rfl⟩
    case round=>
     obtain⟨j,hj,rfl,rfl⟩:=hrel
     by_cases hjl:j<M.length
     case neg=>
      obtain rfl:j=M.length:=by omega
      have HR:Hid (cl a L (k+1) (s+1)=cl a L (k+1) s++[((yW L (kG a k M M.length):Nat):Int)]):=by rw[Hid,cl_succ,HSE.out]
      obtain⟨r,hr⟩:=Ki (yW L (kG a k M M.length));rw[hr] at HR ⊢;clear hr HSE HLm HMM;go_wp2_with (at_builtin;go_must (refine xZ rfl _ _ rfl W2.heap.size u10 _ (r:Int) rfl HP.out rfl (by omega) hbx.out.size ?_);intro v' w3 hown1 hg1 hb1)
      go_roundw
      case rel=>exact⟨s+1,by omega,by go_num,by rw[HR.out];exact hown1,hbx.out.trans hb1⟩
      case measure=>simp[intOf];omega
     case pos=>
     obtain⟨b2,o2,e2,hB2,_,_,_,_,_,_,_,d7⟩:=HMM.out.row j hjl;subst e2;obtain⟨_,_,z3,z4⟩:=HZ.out _ (HLm.out _ (Ld hjl));have hss:=Jl a k M hjl;obtain⟨t,et⟩:=Lr z3;rw[et] at d7 hss z4;have htl:t<a.sts.length:=by omega
     have u0:=HCS.out _ hbx.out t htl;have y1:=uz L (kG a k M j);have y2:=uz L (yd a k (t:Int));have y3:=sat_add L (kG a k M j) (yd a k (t:Int));rw[<-hss] at y3;obtain⟨n1,hn1⟩:=Ki (yW L (kG a k M j));obtain⟨n2,hn2⟩:=Ki (yW L (yd a k (t:Int)));rw[hn1] at y1 y3 ⊢;rw[hn2] at y2 y3 u0;have HY3:=zH y3;clear hss et hn1 hn2 y3 z3 z4;go_wp2_with fail
     go_round
     case rel => 
      refine⟨j+1,by omega,by go_num,?_⟩;rw[<-HY3.out];exact congrArg (Value.int .i64) (by first | (split<;>omega) | omega)
     case measure=>simp[intOf];omega
theorem uB(p:Pb)(hf:XQ p)(hz:zI p.a p.a.sts=0)(h1:1<=p.a.sts.length)(K L:Nat)(hk:p.k=(K:Int))(hK:K<=6)(hL:L<=1048576)(A:Bb)(kc:Nat)(SV:Bb)(ks:Nat)(w:Ba)(hS:SAt w w.heap.size SV p.a.sts) :
  Calls Tryz.prog 32 #[.agg (p.vs A kc SV ks),.int .i64 L] w fun e w'=>e=.returned (.int .i64 ((p.t.cases.length*yW L (yd p.a K 0):Nat):Int))/\Below w.heap.size w w':=by
 have hc30:=hf.1.1;have HN:=zH (fun (w':Ba) (h:SAt w' w'.heap.size SV p.a.sts)=>X7 p.a hf.2 hz h1 K L hK hL SV ks w' h);have hsat:=uz L (yd p.a K 0);obtain⟨r,hr⟩:=Ki (yW L (yd p.a K 0));rw[hr] at HN hsat ⊢;unfold Pb.vs;rw[hk];obtain⟨w1,hw1⟩:=Ki (w.alloc (.cells (p.vs A kc SV ks) 29));have hbb:=zw w (.cells (p.vs A kc SV ks) 29);have hb01:Below w.heap.size w w1:=by rw[<-hw1];exact zW w _
 rw[hw1] at hbb;unfold Pb.vs at hw1 hbb;rw[hk] at hw1 hbb;have hsz1:w1.heap.size=w.heap.size+1:=by rw[<-hw1];simp
 have HB01:=zH hb01;have HS:=zH ((hS.keep hb01).more (by omega:w.heap.size<=w1.heap.size));have HW1:=zH hw1;have q3:=zh hbb 3 rfl;have q4:=zh hbb 4 rfl;have q5:=zh hbb 5 rfl;have q6:=zh hbb 6 rfl;clear hS hw1 hb01 hbb hr hf hz hk;obtain⟨cn,hcn⟩:=Ki p.t.cases.length;rw[hcn] at HW1 q3 hc30 ⊢;have hm:cn*r<=30*1048577:=LO hc30 (by omega);have hw:IntKind.i64.wrap ((cn:Int)*(r:Int))=((cn*r:Nat):Int):=by rw[Lp,<-Int.natCast_mul];omega
 clear hcn;go_enter Tryz.func32,Tryz.ntmps32;go_wp2_with fail;rw[HW1.out];have hwb:w.heap.size<w1.heap.size:=by omega
 have HKP:Hid (∀X,Below w1.heap.size w1 X->X.cell? ⟨w.heap.size,3,none⟩=some (.slice A cn kc)/\X.cell? ⟨w.heap.size,4,none⟩=some (.int .i64 p.a.n)/\X.cell? ⟨w.heap.size,5,none⟩=some (.slice SV p.a.sts.length ks)/\X.cell? ⟨w.heap.size,6,none⟩=some (.int .i64 K)):=fun X hX=>
  ⟨(hX.cell (p:=⟨_,_,none⟩) hwb).trans q3,(hX.cell (p:=⟨_,_,none⟩) hwb).trans q4,(hX.cell (p:=⟨_,_,none⟩) hwb).trans q5,(hX.cell (p:=⟨_,_,none⟩) hwb).trans q6⟩
 have HSX:Hid (∀X,Below w1.heap.size w1 X->SAt X X.heap.size SV p.a.sts):=fun X hX=>(HS.out.keep hX).more hX.size
 clear HS HW1
 go_region_held3 (fun w'=>w'.cell? ⟨w.heap.size,3,none⟩=some (.slice A cn kc)/\w'.cell? ⟨w.heap.size,4,none⟩=some (.int .i64 p.a.n)/\w'.cell? ⟨w.heap.size,5,none⟩=some (.slice SV p.a.sts.length ks)/\w'.cell? ⟨w.heap.size,6,none⟩=some (.int .i64 K))
  (first | exact⟨q3,q4,q5,q6⟩ | exact HKP.out _ (Q7 hb3) | exact HKP.out _ hb3)
  ((go_at_call 54;refine(HN.out _ (HSX.out _ (by repeat (first | exact Lo _ _ | refine Below.drew ?_ | refine zT ?_ _)))).mono ?_;rintro e w3 ⟨rfl,hb3⟩))
 have BL3:=zH (HB01.out.trans ((Q7 hb3).mono (by have:w1.drew.heap.size=w1.heap.size:=rfl;omega)));go_wp2_with fail;go_ret;exact⟨zk (by first | rfl | rw[hw]),BL3.out⟩
def Zz(p:Pb):Nat:=p.t.cases.length*yW 4096 (yd p.a p.k.toNat 0)
def ZT(a:Ad):Bool:=decide (a.sts.length<=8)&&decide (a.mvs.length<=40)
def qm(p:Pb):Bool:=jG p.t&&ZT p.a&&!(decide (3<p.t.n)&&decide (p.t.n<=5))&&(decide (zU p≠0)||(decide (Zz p<=60)||decide (4096<Zz p)))
theorem fewPB_t{p:Pb}(h:jG p.t=false):qm p=false:=by unfold qm;rw[h];rfl
theorem fewPB_a{p:Pb}(h:ZT p.a=false):qm p=false:=by unfold qm;rw[h];simp
theorem fewPB_n{p:Pb}(h:3<p.t.n)(h2:p.t.n<=5):qm p=false:=by unfold qm;rw[Lk h,Lk h2];simp
theorem fewPB_e{p:Pb}(h:jG p.t=true)(h1:ZT p.a=true)(h2:¬(3<p.t.n/\p.t.n<=5))(h3:zU p≠0):qm p=true:=by
 unfold qm;have e:(decide (3<p.t.n)&&decide (p.t.n<=5))=false:=by simpa[Bool.and_eq_false_imp] using fun x=>by omega
 rw[h,h1,e,Lk h3];rfl
theorem fewPB_m{p:Pb}(h:jG p.t=true)(h1:ZT p.a=true)(h2:¬(3<p.t.n/\p.t.n<=5))(h3:zU p=0):qm p=(decide (Zz p<=60)||decide (4096<Zz p)):=by
 unfold qm;have e:(decide (3<p.t.n)&&decide (p.t.n<=5))=false:=by simpa[Bool.and_eq_false_imp] using fun x=>by omega
 rw[h,h1,e,h3];simp
theorem Y0{a:Ad}:ZT a=true↔FewA a:=by unfold ZT FewA;simp
theorem num_exec{p:Pb}(h:zU p=0):(Zz p<=60\/4096<Zz p)->(ye p<=60\/4096<ye p):=by
 obtain⟨hpt,_⟩:=zX h;obtain⟨h1,_⟩:=xg hpt;intro hn;have e:ye p=p.t.cases.length*yd p.a p.k.toNat 0:=by unfold ye;rw[Po]
 have hm:=sat_mul 4096 p.t.cases.length (yd p.a p.k.toNat 0) h1;rw[e];rcases hn with hn | hn
 . left
   unfold Zz at hn;have hle:yW 4096 (yd p.a p.k.toNat 0)<=60:=Lz (Nat.le_mul_of_pos_left _ h1) hn;have hx:yd p.a p.k.toNat 0<=4096:=by unfold yW at hle;omega
   rwa[sat_eq hx] at hn
 . right
   exact hm.1 hn
theorem few_x{p:Pb}(h:qm p=true):yR p/\¬(3<p.t.n/\p.t.n<=5):=by
 unfold qm at h;simp only[Bool.and_eq_true,Bool.not_eq_true',Bool.or_eq_true,decide_eq_true_eq] at h;obtain⟨⟨⟨h1,h2⟩,h3⟩,h4⟩:=h;refine⟨⟨⟨QT.1 h1,Y0.1 h2⟩,fun h0=>?_⟩,fun hn=>?_⟩
 . rcases h4 with h4 | h4
   . exact absurd h0 h4
   . exact num_exec h0 h4
 . rw[Lk hn.1,Lk hn.2] at h3
   cases h3
theorem few_any(p:Pb)(hl:Je p)(A:Bb)(kc:Nat)(SV:Bb)(ks:Nat)(w:Ba)(hA:CAt w w.heap.size A p.t.cases)(hS:SAt w w.heap.size SV p.a.sts) :
  Calls Tryz.prog 12 #[.agg (p.vs A kc SV ks)] w fun e w'=>e=.returned (.bool (qm p))/\Below w.heap.size w w':=by
 have HT:=zH (fun (w':Ba) (h:CAt w' w'.heap.size A p.t.cases)=>rfewT_any p.t A kc hl.1.1 hl.1.2 w' h);have HD:=zH (fun (w':Ba) (h:SAt w' w'.heap.size SV p.a.sts)=>rfewA_any p.a SV ks hl.2.1 hl.2.2 w' h);have HC:=zH (fun (hf:XQ p) (w':Ba) (h1:CAt w' w'.heap.size A p.t.cases) (h2:SAt w' w'.heap.size SV p.a.sts)=>jo p hf A kc SV ks w' h1 h2);have HE1:=zH (@fewPB_t p);have HE2:=zH (@fewPB_a p);have HE3:=zH (@fewPB_n p);have HE4:=zH (@fewPB_e p);have HE5:=zH (@fewPB_m p);obtain⟨R,hR0⟩:=Ki (qm p);rw[hR0] at HE1 HE2 HE3 HE4 HE5 ⊢;obtain⟨w1,hw1⟩:=Ki (w.alloc (.cells (p.vs A kc SV ks) 29));have hbb:=zw w (.cells (p.vs A kc SV ks) 29);have hb01:Below w.heap.size w w1:=by rw[<-hw1];exact zW w _
 have hsz1:w1.heap.size=w.heap.size+1:=by rw[<-hw1];simp
 rw[hw1] at hbb
 have HN:=zH (fun (w':Ba) (hf:XQ p) (h0:zU p=0) (h:SAt w' w'.heap.size SV p.a.sts)=>
  uB p hf (yU hf.2 (zX h0).2.1).1 (yU hf.2 (zX h0).2.1).2.1 p.k.toNat 4096 (by have:=(zX h0).2.2.2.1;omega) (by have:=(zX h0).2.2.2.2;omega) (by decide) A kc SV ks w' h)
 unfold Pb.vs at hw1 hbb ⊢;have HBB:=zH hbb;have HB01:=zH hb01;have HA:=zH ((hA.keep hb01).more (by omega:w.heap.size<=w1.heap.size));have HS:=zH ((hS.keep hb01).more (by omega:w.heap.size<=w1.heap.size));have HW1:=zH hw1;obtain⟨q0,q1,q2,q3,_⟩:=Kb hbb;clear hA hS hw1 hb01 hbb hl hR0;obtain⟨bT,hbT⟩:=Ki (jG p.t);obtain⟨bA,hbA⟩:=Ki (ZT p.a);have HBA:Hid ((decide (p.a.sts.length<=8)&&decide (p.a.mvs.length<=40))=bA):=hbA;rw[hbT] at HT HE1 HE4 HE5;rw[hbA] at HE2 HE4 HE5;have HPT:=zH hbT;have HPA:=zH hbA;clear hbT hbA;go_enter Tryz.func12,Tryz.ntmps12;go_wp2_with fail;rw[HW1.out];go_wp2_with fail;refine(HT.out w1 HA.out).mono ?_;rintro e w2 ⟨rfl,hb2⟩;have B2:=zH (HB01.out.trans (hb2.mono (by omega)));have HS2:=zH ((HS.out.keep hb2).more hb2.size);have HA2:=zH ((HA.out.keep hb2).more hb2.size);have hbk:=La hb2 HBB.out;have HB2:=zH hbk;have hs2:=hb2.size;have q4:=zh hbk 4 rfl;have q5:=zh hbk 5 rfl;clear hb2 hbk HT HW1 q0 q1 q2 q3
 cases bT with
 | false=>
  have hR:=zH (HE1.out rfl);clear HE1 HE2 HE3 HE4 HE5 HD;go_wp2_with fail;go_ret;exact⟨zm hR.out.symm,B2.out⟩
 | true=>
 clear HE1;go_wp2_with fail;refine(HD.out w2 HS2.out).mono ?_;rw[HBA.out];rintro e w3 ⟨rfl,hb3⟩;have B3:=zH (B2.out.trans (hb3.mono (by omega)));have HS3:=zH ((HS2.out.keep hb3).more hb3.size);have HA3:=zH ((HA2.out.keep hb3).more hb3.size);have hbk:=La hb3 HB2.out;have HB3:=zH hbk;have hs3:=hb3.size;obtain⟨q0,q1,q2,q3,q4,q5,q6,_⟩:=Kf hbk;clear hb3 hbk HD
 cases bA with
 | false=>
  have hR:=zH (HE2.out rfl);clear HE2 HE3 HE4 HE5;go_wp2_with fail;go_ret;exact⟨zm hR.out.symm,B3.out⟩
 | true=>
 clear HE2;have HFP:Hid (XQ p):=⟨QT.1 HPT.out,Y0.1 HPA.out⟩;have F4:=zH (HE4.out (by simp) (by simp));have F5:=zH (HE5.out (by simp) (by simp));clear HE4 HE5 HPT HPA HBA
 by_cases h3:3<p.t.n/\p.t.n<=5
 case pos=>
  have hR:=zH (HE3.out h3.1 h3.2);obtain⟨h31,h32⟩:=h3;clear HE3 F4 F5;go_wp2_with fail
  all_goals first | (exfalso;omega) | skip
  all_goals
   go_ret;exact⟨zm hR.out.symm,B3.out⟩
 case neg=>
 have G4:=zH (F4.out h3);have G5:=zH (F5.out h3);clear HE3 F4 F5;obtain⟨E,hE⟩:=Ki (zU p);rw[hE] at HC G4 G5;have HPE:=zH hE;clear hE;obtain⟨M,hM⟩:=Ki (p.t.cases.length*yW 4096 (yd p.a p.k.toNat 0));have HMM:Hid (Zz p=M):=hM;rw[hM] at HN;clear hM;have h35:¬(3<p.t.n)\/(3<p.t.n/\¬p.t.n<=5):=by omega
 clear h3;rcases h35 with h31 | ⟨h31,h32⟩
 all_goals
  go_wp2_with fail
  all_goals first | (exfalso;omega) | skip
  refine(HC.out HFP.out w3 HA3.out HS3.out).mono ?_;rintro e w4 ⟨rfl,hb4⟩;have B4:=zH (B3.out.trans (hb4.mono (by omega)));have HS4:=zH ((HS3.out.keep hb4).more hb4.size);have hbk:=La hb4 HB3.out;have hs4:=hb4.size;obtain⟨q0,q1,q2,q3,q4,q5,q6,_⟩:=Kf hbk;clear hb4 hbk HC
  by_cases h0:E=0
  case neg=>
   have hR:=zH (G4.out h0);have e0:(E != 0)=true:=by simpa using h0
   clear G4 G5 h0 HN;go_wp2_with fail;go_ret;exact⟨zm hR.out.symm,B4.out⟩
  case pos=>
   subst h0;have hR:=zH (G5.out rfl);rw[HMM.out] at hR;clear G4 G5;go_wp2_with fail;refine(HN.out w4 HFP.out HPE.out HS4.out).mono ?_;rintro e w5 ⟨rfl,hb5⟩;have B5:=zH (B4.out.trans (hb5.mono (by omega)));clear hb5 HN HMM q0 q1 q2 q3 q4 q5 q6
   by_cases hm:M<=60
   . have hR2:Hid (R=true):=hR.out.trans (by rw[Lk hm];rfl)
     clear hR;go_wp2_with fail
     all_goals first | (exfalso;omega) | skip
     go_ret;exact⟨zm hR2.out.symm,B5.out⟩
   . have hR2:Hid (R=decide (4096<M)):=hR.out.trans (by rw[Li hm];rfl)
     clear hR;go_wp2_with fail
     all_goals first | (exfalso;omega) | skip
     go_ret;exact⟨zm (by rw[hR2.out,Li (show ¬((M:Int)<=60) by omega),Bool.false_or];exact dec_eq (by omega)),B5.out⟩
def zV(s:Sy):Int:=if (zY s.p).2≠0 then (zY s.p).2 else if s=(zY s.p).1 then 0 else 3
theorem gJ(p:Pb)(h:zU p=0)(h60:ye p<=60):(zC p (zx p)).1.length<=2100/\(zC p (zx p)).2.length<=60:=by
 obtain⟨hpt,_,_,hk0,hk6⟩:=zX h;obtain⟨h1,hn1,hn5⟩:=xg hpt
 have hl:p.t.cases.length*(zJ p.a p.k.toNat 0).length<=60:=by
  rw[yF];unfold ye at h60;rw[Po];exact h60
 rw[Xp p];refine⟨Zh p _ (by omega) (fun w hw=>?_) _ hl,?_⟩
 . rw[xy p.a _ 0 w hw];omega
 . rw[qf,gL];exact hl
theorem runW_mem(p:Pb)(l:List (Nat×List Rd)):∀x∈(zC p l).2,∃y∈l,∃vs,x=⟨y.1,y.2,(zA vs p.t.n.toNat (yt p y.1) y.2 y.2.length).2⟩:=by
 have key:∀n,n<=l.length->∀x∈(zC p (l.take n)).2,∃y∈l,∃vs,x=⟨y.1,y.2,(zA vs p.t.n.toNat (yt p y.1) y.2 y.2.length).2⟩:=by
  intro n
  induction n with
  | zero=>intro _ x hx;simp[jn] at hx
  | succ n ih=>
   intro hl x hx;rw[Lu (by omega),qr] at hx;rcases Nd.1 hx with hx | hx
   . exact ih (by omega) x hx
   . rw[L8] at hx
     exact⟨l[n],Ld _,_,hx⟩
 have:=key l.length (Le _);rwa[LG] at this
theorem XR:LowS qH:=⟨⟨⟨by decide,fun c h=>by simp[qH] at h⟩,by decide,fun c h=>by simp[qH] at h⟩,by decide,by decide,fun c h=>by simp[qH] at h⟩
theorem wh{p:Pb}(hp:Je p)(hf:yR p):LowS (zY p).1:=by
 by_cases h0:zU p=0
 case neg=>rw[xm h0];exact XR
 case pos=>
 rcases hf.2 h0 with h60 | h60
 case inr=>rw[xF h0 h60];exact XR
 case inl=>
 rw[qv h0 (by omega)];obtain⟨r1,r2⟩:=gJ p h0 h60;obtain⟨hpt,_,_,hk0,hk6⟩:=zX h0;obtain⟨h1,hn1,hn5⟩:=xg hpt;refine⟨hp,by show(zC p (zx p)).1.length<=_;omega,by show(zC p (zx p)).2.length<=_;omega,fun x hx=>?_⟩;obtain⟨y,hy,vs,rfl⟩:=runW_mem p (zx p) x hx
 have hyl:y.2.length<=6:=by
  unfold zx at hy;obtain⟨d,_,hy⟩:=NL.1 hy;obtain⟨w',hw',rfl⟩:=LX.1 hy;show w'.length<=6;rw[xy p.a _ 0 w' hw'];omega
 refine⟨by show y.2.length<=_;omega,?_,fun v hv=>?_⟩
 . show(zA vs p.t.n.toNat (yt p y.1) y.2 y.2.length).2.length<=_
   rw[yy];omega
 . rw[qS _ _ _ _ _ v hv];omega
theorem vO(s:Sy)(hs:LowS s)(hf:yR s.p)(A SV AV AX:Bb)(kc ks kv kx:Nat)(w:Ba)(hS:SyAt w w.heap.size A SV AV AX s) :
  Calls Tryz.prog 37 #[.agg (s.vs_ A kc SV ks AV kv AX kx)] w fun e w'=>e=.returned (.int .i64 (zV s))/\Below w.heap.size w w':=by
 obtain⟨w1,hw1⟩:=Ki (w.alloc (.cells (s.vs_ A kc SV ks AV kv AX kx) 35));have hbb:=zw w (.cells (s.vs_ A kc SV ks AV kv AX kx) 35);have hb01:Below w.heap.size w w1:=by rw[<-hw1];exact zW w _
 have hsz1:w1.heap.size=w.heap.size+1:=by rw[<-hw1];simp
 rw[hw1] at hbb;have HS1:=zH (hS.up hb01);have HB:=zH (build_any s.p hf A kc SV ks w1 (hS.up hb01).fc (hS.up hb01).fs);have HLB:=zH (wh hs.fp hf);have HLS:=zH hs;have HVE:Hid (zV s=if (zY s.p).2≠0 then (zY s.p).2 else if s=(zY s.p).1 then 0 else 3):=rfl
 have HBO:=zH (fun (h:(zY s.p).2=0)=>(by
  by_cases h0:zU s.p=0
  case neg=>rw[xm h0] at h;exact absurd h h0
  case pos=>
   by_cases h1:4096<ye s.p
   . rw[xF h0 h1] at h;cases h
   . rw[qv h0 (by omega)];exact⟨rfl,rfl⟩:(zY s.p).1.p=s.p/\(zY s.p).1.n=s.p.t.n))
 unfold Sy.vs_ at hw1 hbb ⊢;unfold Pb.vs at HB;have HW1:=zH hw1;have HBB:=zH hbb;have HB01:=zH hb01;obtain⟨p0,p1,p2,p3,p4,p5,p6,_⟩:=Kf hbb;obtain⟨R,hR⟩:=Ki (zY s.p);rw[hR] at HB HLB HVE HBO;obtain⟨r,hr⟩:=Ki (zV s);rw[hr] at HVE ⊢;clear hw1 hbb hb01 hS hs hf hR hr;go_enter Tryz.func37,Tryz.ntmps37;go_wp2_with fail;rw[HW1.out];go_wp2_with fail;refine HB.out.mono ?_;rintro e w2 ⟨A2,kc2,SV2,ks2,AV2,kv2,AX2,kx2,rfl,hS2,hv1,hv2,hb2⟩;obtain⟨T,E⟩:=R;obtain⟨W3,hW3,b3,hs3,hB3⟩:=zn w2 (T.vs_ A2 kc2 SV2 ks2 AV2 kv2 AX2 kx2) 35;have HS3:=zH (hS2.up hB3);have HB3:=zH (HB01.out.trans ((Lc hb2 hB3).mono (by omega)));have hs2:=hb2.size;have d0:=Lb hB3 (by omega:w.heap.size<w2.heap.size) (Lb hb2 (by omega:w.heap.size<w1.heap.size) HBB.out);have HS13:=zH ((HS1.out.up hb2).up hB3);unfold Sy.vs_ at hW3 b3 ⊢;have HW3:=zH hW3;have HD0:=zH d0;have HD3:=zH b3;clear hb2 hS2 hv1 hv2 hB3 hW3 HB HW1 p0 p1 p2 p3 p4 p5 p6 HS1 HBB;dsimp only at HVE HBO HLB HS3;go_simp;rename_i hKK;refine hKK _ _ ?_;clear hKK;refine LW rfl fun K5 hK5=>?_
 go_simp;refine hK5 _ _ ?_;clear hK5 K5;refine LW rfl fun K5 hK5=>?_
 go_simp;refine hK5 _ _ ?_;clear hK5 K5;refine LW rfl fun K5 hK5=>?_
 go_simp;refine hK5 _ _ ?_;clear hK5 K5;refine LW rfl fun K5 hK5=>?_
 go_simp;refine hK5 _ _ ?_;clear hK5 K5;refine LW rfl fun K5 hK5=>?_
 go_simp;rw[HW3.out];refine hK5 _ _ ?_;clear hK5 K5
 by_cases h0:E=0
 case neg=>
  have e0:(E != 0)=true:=by simpa using h0
  have hR:Hid (r=E):=HVE.out.trans (Lh h0);clear HVE HBO h0 d0 b3;go_wp2_with fail;go_ret;exact⟨zk hR.out.symm,HB3.out⟩
 case pos=>
 subst h0;obtain⟨hTp,hTn⟩:=HBO.out rfl;have hVE:r=if s=T then 0 else 3:=HVE.out.trans (Lg (by simp));have H3:Hid (s≠T->r=3):=fun h=>hVE.trans (Lg h)
 have H0:Hid (s=T->r=0):=fun h=>hVE.trans (Lh h)
 have HTP:=zH hTp;have HEQ:=zH (@sy_eq s T);have x7:W3.cell? ⟨w.heap.size,7,none⟩=some (.int .i64 s.n):=zh d0 7 rfl;have x8:W3.cell? ⟨w.heap.size,8,none⟩=some (.slice AV s.vs.length kv):=zh d0 8 rfl;have y7:W3.cell? ⟨w2.heap.size,7,none⟩=some (.int .i64 T.n):=zh b3 7 rfl;have y8:W3.cell? ⟨w2.heap.size,8,none⟩=some (.slice AV2 T.vs.length kv2):=zh b3 8 rfl;have HVV:=zH (eqV_any AV AV2 kv kv2 s.vs T.vs W3 W3.heap.size (Le _) HS13.out.fv HS3.out.fv HLS.out.fv HLB.out.fv);have HXX:=zH (fun n=>eqX_any AX AX2 kx kx2 s.xs T.xs (W3.drewN n) HS13.out.fx HS3.out.fx (Lz HLS.out.fx (by decide)) (Lz HLB.out.fx (by decide)) HLS.out.fe HLB.out.fe);clear hTp hTn hVE HVE HBO d0 b3 HLB HLS
 by_cases h1:s.n=T.n
 case neg=>
  have hR:=zH (H3.out (fun h=>h1 (congrArg Sy.n h)));have e0:(s.n != T.n)=true:=by simpa using h1
  clear H3 H0 h1 HVV HXX HEQ;go_wp2_with fail
  all_goals
   go_ret;exact⟨zk hR.out.symm,HB3.out⟩
 case pos=>
 have e0:(s.n != T.n)=false:=by simpa using h1
 have HN1:=zH h1;clear h1;go_wp2_with fail;refine HVV.out.mono ?_;rintro e w4 ⟨rfl,n,rfl⟩;have x9:(W3.drewN n).cell? ⟨w.heap.size,9,none⟩=some (.slice AX s.xs.length kx):=zh HD0.out 9 rfl;have y9:(W3.drewN n).cell? ⟨w2.heap.size,9,none⟩=some (.slice AX2 T.xs.length kx2):=zh HD3.out 9 rfl
 by_cases h2:s.vs=T.vs
 case neg=>
  have hR:=zH (H3.out (fun h=>h2 (congrArg Sy.vs h)));rw[Li h2];clear H3 H0 h2 HVV HXX HEQ;go_wp2_with fail
  all_goals
   go_ret;exact⟨zk hR.out.symm,zT HB3.out n⟩
 case pos=>
 rw[Lk h2];have HV2:=zH h2;clear h2 HVV;go_wp2_with fail;refine(HXX.out n).mono ?_;rintro e w5 ⟨rfl,hb5⟩;have B5:=zH (HB3.out.trans ((zT (Lo W3.heap.size W3) n).trans hb5 |>.mono (by omega)));clear hb5 HXX
 by_cases h3:s.xs=T.xs
 case neg=>
  have hR:=zH (H3.out (fun h=>h3 (congrArg Sy.xs h)));rw[Li h3];clear H3 H0 h3 HEQ;go_wp2_with fail
  all_goals
   go_ret;exact⟨zk hR.out.symm,B5.out⟩
 case pos=>
  have hR:=zH (H0.out (HEQ.out HTP.out.symm ⟨HN1.out,HV2.out⟩ h3));rw[Lk h3];clear H3 H0 h3 HEQ;go_wp2_with fail
  all_goals
   go_ret;exact⟨zk hR.out.symm,B5.out⟩
end
section
def At(vs:List Vw)(i:Int)(v:Vw):Prop:=0<=i/\vs[i.toNat]?=some v
theorem At.mono{vs us:List Vw}{i:Int}{v:Vw}(h:At vs i v):At (vs++us) i v:=
 ⟨h.1,by rw[LP (Lq.1 h.2).1];exact h.2⟩
theorem At.lt{vs:List Vw}{i:Int}{v:Vw}(h:At vs i v):0<=i/\i<vs.length:=⟨h.1,by have:=(Lq.1 h.2).1;have:=h.1;omega⟩
theorem Qj(vs:List Vw)(v:Vw):∃us,(qg vs v).1=vs++us:=by
 unfold qg
 split
 . exact⟨[],by simp⟩
 . exact⟨[v],rfl⟩
theorem putW_at(vs:List Vw)(v:Vw):At (qg vs v).1 (qg vs v).2 v:=by
 unfold qg
 split
 . rename_i h
   unfold kg;rw[Lh h];refine⟨by omega,?_⟩;have h1:=Sa h;show vs[((vs.idxOf v:Nat):Int).toNat]?=_;rw[Ls,Lm h1,List.getElem_idxOf]
 . refine⟨by omega,?_⟩
   show(vs++[v])[((vs.length:Nat):Int).toNat]?=_;rw[Ls];simp
theorem putW_mem(vs:List Vw)(v:Vw):∀u∈(qg vs v).1,u∈vs\/u=v:=by
 unfold qg
 split
 . exact fun u h=>.inl h
 . intro u h
   rcases Nd.1 h with h | h
   . exact .inl h
   . exact .inr (L8.1 h)
theorem JG{vs:List Vw}(v:Vw)(h:vs.Nodup):(qg vs v).1.Nodup:=by
 unfold qg
 split
 . exact h
 . rename_i hn
   exact List.nodup_append.2 ⟨h,by simp,fun a ha b hb=>by rw[L8] at hb;subst hb;exact fun e=>hn (e▸ha)⟩
theorem vV(f:Nat->Vw)(vs:List Vw):∀p,∃us,(yl f vs p).1=vs++us
 | 0=>⟨[],by simp[yl]⟩
 | p+1=>by
  obtain⟨u1,h1⟩:=vV f vs p;obtain⟨u2,h2⟩:=Qj (yl f vs p).1 (f p);exact⟨u1++u2,by rw[yl];dsimp only;rw[h2,h1,Na]⟩
theorem rowW_at(f:Nat->Vw)(vs:List Vw):∀n p,p<n->At (yl f vs n).1 ((yl f vs n).2.getD p 0) (f p)
 | n+1,p,h=>by
  rw[yl];dsimp only;have hl:=xR f vs n
  by_cases hp:p<n
  . rw[Lj,LP (by omega),<-Lj]
    obtain⟨u2,h2⟩:=Qj (yl f vs n).1 (f n);rw[h2];exact(rowW_at f vs n p hp).mono
  . obtain rfl:p=n:=by omega
    rw[Lj,LM (by omega),hl,NN];exact putW_at _ _
theorem Zk(f:Nat->Vw)(vs:List Vw):∀n,∀u∈(yl f vs n).1,u∈vs\/∃p,p<n/\u=f p
 | 0,u,h=>.inl h
 | n+1,u,h=>by
  rw[yl] at h;rcases putW_mem _ _ u h with h | h
  . rcases Zk f vs n u h with h | ⟨p,hp,e⟩
    . exact .inl h
    . exact .inr ⟨p,by omega,e⟩
  . exact .inr ⟨n,by omega,h⟩
theorem vr(f:Nat->Vw){vs:List Vw}(h:vs.Nodup):∀n,(yl f vs n).1.Nodup
 | 0=>h
 | n+1=>by rw[yl];exact JG _ (vr f h n)
def Zm(vs:List Vw)(n:Nat)(inp:List Int)(word:List Rd)(k:Nat):List Int:=(zA vs n inp word k).2.getD k []
def fV(vs:List Vw)(n:Nat)(inp:List Int)(word:List Rd):Nat->Nat->Vw
 | 0,p=>yP p (inp.getD p 0)
 | k+1,p=>ql (word.getD k default) (k+1) p (Zm vs n inp word k)
section
variable (vs:List Vw) (n:Nat) (inp:List Int) (word:List Rd)
theorem uH:∀j,(∃us,(zA vs n inp word j).1=vs++us)/\∀k,k<=j->∃us,(zA vs n inp word j).1=(zA vs n inp word k).1++us
 | 0=>⟨by rw[zA];exact vV _ vs n,fun k hk=>⟨[],by obtain rfl:k=0:=(by omega);simp⟩⟩
 | j+1=>by
  obtain⟨⟨u1,h1⟩,h2⟩:=uH j;obtain⟨u3,h3⟩:=vV (fun p=>ql (word.getD j default) (j+1) p ((zA vs n inp word j).2.getD j [])) (zA vs n inp word j).1 n;have e:(zA vs n inp word (j+1)).1=(zA vs n inp word j).1++u3:=by rw[zA];exact h3
  refine⟨⟨u1++u3,by rw[e,h1,Na]⟩,fun k hk=>?_⟩
  by_cases hkj:k<=j
  . obtain⟨u4,h4⟩:=h2 k hkj
    exact⟨u4++u3,by rw[e,h4,Na]⟩
  . obtain rfl:k=j+1:=by omega
    exact⟨[],by simp⟩
theorem ja:∀j k,k<=j->(zA vs n inp word j).2.getD k []=Zm vs n inp word k
 | 0,k,h=>by obtain rfl:k=0:=(by omega);rfl
 | j+1,k,h=>by
  by_cases hkj:k<=j
  . rw[<-ja j k hkj,zA,Lj,LP (by rw[yy];omega),<-Lj]
  . obtain rfl:k=j+1:=by omega
    rfl
theorem jp(k:Nat):(Zm vs n inp word k).length=n:=by
 have h:k<(zA vs n inp word k).2.length:=by rw[yy];omega
 unfold Zm;rw[Lj,Lm h];exact qS vs n inp word k _ (Ld h)
theorem rowK_eq:∀k,∃us,(zA vs n inp word k).1=(yl (fV vs n inp word k) us n).1/\Zm vs n inp word k=(yl (fV vs n inp word k) us n).2
 | 0=>⟨vs,rfl,rfl⟩
 | k+1=>⟨(zA vs n inp word k).1,rfl,by
   unfold Zm;rw[zA,Lj,LM (by rw[yy];omega),yy,NN]
   rfl⟩
theorem gK(j k p:Nat)(hk:k<=j)(hp:p<n):At (zA vs n inp word j).1 ((Zm vs n inp word k).getD p 0) (fV vs n inp word k p):=by
 obtain⟨us,e1,e2⟩:=rowK_eq vs n inp word k;obtain⟨u4,h4⟩:=(uH vs n inp word j).2 k hk;rw[h4,e2,e1];exact(rowW_at _ us n p hp).mono
theorem Qm:∀j,∀u∈(zA vs n inp word j).1,u∈vs\/∃k p,k<=j/\p<n/\u=fV vs n inp word k p
 | 0,u,h=>by
  rw[zA] at h;rcases Zk _ vs n u h with h | ⟨p,hp,e⟩
  . exact .inl h
  . exact .inr ⟨0,p,Le _,hp,e⟩
 | j+1,u,h=>by
  rw[zA] at h;rcases Zk _ _ n u h with h | ⟨p,hp,e⟩
  . rcases Qm j u h with h | ⟨k,p,hk,hp,e⟩
    . exact .inl h
    . exact .inr ⟨k,p,by omega,hp,e⟩
  . exact .inr ⟨j+1,p,Le _,hp,e⟩
theorem Zv(h:vs.Nodup):∀j,(zA vs n inp word j).1.Nodup
 | 0=>by rw[zA];exact vr _ h n
 | j+1=>by rw[zA];exact vr _ (Zv h j) n
end
structure XFin(p:Pb)(tab:List Vw)(c:Nat)(word:List Rd)(x:Exn)(vs:List Vw):Prop where
 hc:x.c=(c:Int)
 hw:x.word=word
 hv:x.views=(zA vs p.t.n.toNat (yt p c) word word.length).2
 ht:∃us,tab=(zA vs p.t.n.toNat (yt p c) word word.length).1++us
theorem X3(p:Pb)(l:List (Nat×List Rd)) :
  (∀i (h:i<l.length),∃x vs,(zC p l).2[i]?=some x/\XFin p (zC p l).1 l[i].1 l[i].2 x vs)/\(∀u∈(zC p l).1,∃y∈l,∃vs k q,k<=y.2.length/\q<p.t.n.toNat/\u=fV vs p.t.n.toNat (yt p y.1) y.2 k q/\∃us,(zC p l).1=(zA vs p.t.n.toNat (yt p y.1) y.2 y.2.length).1++us)/\(zC p l).1.Nodup:=by
 have key:∀n,n<=l.length ->
   (∀i (h:i<n) (hl:i<l.length),∃x vs,(zC p (l.take n)).2[i]?=some x/\XFin p (zC p (l.take n)).1 l[i].1 l[i].2 x vs)/\(∀u∈(zC p (l.take n)).1,∃y∈l,∃vs k q,k<=y.2.length/\q<p.t.n.toNat/\u=fV vs p.t.n.toNat (yt p y.1) y.2 k q/\∃us,(zC p (l.take n)).1=(zA vs p.t.n.toNat (yt p y.1) y.2 y.2.length).1++us)/\(zC p (l.take n)).1.Nodup:=by
  intro n
  induction n with
  | zero=>intro _;exact⟨fun i h=>absurd h (by omega),fun u h=>by simp[jn] at h,by simp[jn]⟩
  | succ n ih=>
   intro hn;obtain⟨h1,h2,h3⟩:=ih (by omega);have hnl:n<l.length:=by omega
   have e:zC p (l.take (n+1))=((zA (zC p (l.take n)).1 p.t.n.toNat (yt p l[n].1) l[n].2 l[n].2.length).1,(zC p (l.take n)).2++[⟨l[n].1,l[n].2,(zA (zC p (l.take n)).1 p.t.n.toNat (yt p l[n].1) l[n].2 l[n].2.length).2⟩]):=by
    rw[Lu hnl,qr]
   obtain⟨⟨u0,hu0⟩,_⟩:=uH (zC p (l.take n)).1 p.t.n.toNat (yt p l[n].1) l[n].2 l[n].2.length;have hlen:(zC p (l.take n)).2.length=n:=by rw[qf,Rk];omega
   rw[e];dsimp only;refine⟨fun i hi hl=>?_,fun u hu=>?_,Zv _ _ _ _ h3 _⟩
   . by_cases hin:i<n
     . obtain⟨x,vs,hx,⟨a,b,c,⟨us,hus⟩⟩⟩:=h1 i hin hl
       refine⟨x,vs,by rw[LP (by omega)];exact hx,a,b,c,us++u0,?_⟩;rw[hu0,hus,Na]
     . obtain rfl:i=n:=by omega
       refine⟨_,(zC p (l.take i)).1,by rw[LM (by omega),hlen,NN];rfl,rfl,rfl,rfl,[],by simp⟩
   . rcases Qm _ _ _ _ _ u hu with h | ⟨k,q,hk,hq,eu⟩
     . obtain⟨y,hy,vs,k,q,a,b,c,us,hus⟩:=h2 u h
       exact⟨y,hy,vs,k,q,a,b,c,us++u0,by rw[hu0,hus,Na]⟩
     . exact⟨l[n],Ld _,(zC p (l.take n)).1,k,q,hk,hq,eu,[],by simp⟩
 have h:=key l.length (Le _);rw[LG] at h;exact⟨fun i hi=>h.1 i hi hi,h.2⟩
theorem own_bit{r:Rd}(h:yJ r=0)(p:Nat)(hp:(p:Int)<r.n):(r.h p).toNat.testBit p=true:=by
 unfold yJ at h
 split at h
 . cases h
 . rename_i hn
   have hn1:1<=r.n/\r.n<=5:=by omega
   have key:∀k,k<=5->yC r (5-k) k=0->∀q,k<=q->q<5->xN r.n q (r.h q)=0:=by
    intro k hk
    induction hm:5-k generalizing k with
    | zero=>intro _ q h1 h2;omega
    | succ m ih=>
     intro hz q h1 h2;unfold yC at hz
     split at hz
     . rename_i hne;exact absurd hz hne
     . rename_i hne
       by_cases e:q=k
       . subst e;simpa using hne
       . exact ih (k+1) (by omega) (by omega) hz q (by omega) h2
   have h1:=key 0 (by omega) h p (by omega) (by omega);unfold xN at h1;rw[Lg (by omega)] at h1
   split at h1
   . cases h1
   . split at h1
     . assumption
     . cases h1
theorem vT(r:Rd)(k p:Nat)(now:List Int)(q:Nat)(hq:q<5):(ql r k p now).h q=yc r p now q:=by
 match q,hq with
 | 0,_=>rfl
 | 1,_=>rfl
 | 2,_=>rfl
 | 3,_=>rfl
 | 4,_=>rfl
structure Fine(s:Sy)(K N:Nat):Prop where
 n:s.n=(N:Int)
 pn:s.p.t.n=(N:Int)
 k:s.p.k=(K:Int)
 n1:1<=N
 n5:N<=5
 k6:K<=6
 lv:s.vs.length<=2100
 lx:s.xs.length<=60
 word:∀x∈s.xs,x.word.length=K/\∀r∈x.word,yi r=0/\r.n=(N:Int)
 views:∀x∈s.xs,x.views.length=K+1/\∀l∈x.views,l.length=N/\∀i∈l,0<=i/\i<s.vs.length
 vs:∀v∈s.vs,(∃q:Nat,v.p=(q:Int)/\q<N)/\(∃r:Nat,v.r=(r:Int)/\r<=K)/\(0<v.r->∃u,At s.vs (v.h v.p.toNat) u/\u.p=v.p/\u.r=v.r-1)
theorem built_fine{p:Pb}(hf:yR p)(h0:zU p=0)(h60:ye p<=60):∃K N,Fine (kD p) K N:=by
 obtain⟨hpt,hpa,hpn,hk0,hk6⟩:=zX h0;obtain⟨h1,hn1,hn5⟩:=xg hpt;obtain⟨r1,r2⟩:=gJ p h0 h60;obtain⟨K,hK⟩:=Lr hk0;obtain⟨N,hN⟩:=Lr (show 0<=p.t.n by omega);have hNN:p.t.n.toNat=N:=by omega
 obtain⟨f1,f2,f3⟩:=X3 p (zx p)
 have hpr:∀y∈zx p,y.2.length=K/\∀r∈y.2,yi r=0/\r.n=(N:Int):=fun y hy=>by
  unfold zx at hy;obtain⟨d,_,hy⟩:=NL.1 hy;obtain⟨w',hw',rfl⟩:=LX.1 hy;refine⟨by show w'.length=K;rw[xy p.a _ 0 w' hw'];omega,fun r hr=>?_⟩;obtain⟨m,hm,rfl⟩:=kV p.a _ 0 w' hw' r hr;obtain⟨z1,z2,_⟩:=xT (yU hf.1.2 hpa).1 m hm;exact⟨z1,by rw[z2,<-hpn,hN]⟩
 have hx:∀x∈(zC p (zx p)).2,∃y∈zx p,∃vs,XFin p (zC p (zx p)).1 y.1 y.2 x vs:=fun x hx=>by
  obtain⟨i,hi,e⟩:=LQ hx;rw[qf] at hi;obtain⟨x',vs,hx',hh⟩:=f1 i hi
  have:x=x':=by
   rw[Lm (by rw[qf];exact hi),e] at hx';exact NI hx'
  subst this;exact⟨_,Ld hi,vs,hh⟩
 refine⟨K,N,hN,hN,hK,by omega,by omega,by omega,r1,r2,fun x hm=>?_,fun x hm=>?_,fun v hv=>?_⟩
 . obtain⟨y,hy,vs,hh⟩:=hx x hm
   rw[hh.hw];exact hpr y hy
 . obtain⟨y,hy,vs,hh⟩:=hx x hm
   obtain⟨hyl,_⟩:=hpr y hy;rw[hh.hv];refine⟨by rw[yy,hyl],fun l hl=>?_⟩;obtain⟨k,hk,rfl⟩:=LQ hl;rw[yy] at hk
   have e:(zA vs p.t.n.toNat (yt p y.1) y.2 y.2.length).2[k]'(by rw[yy];exact hk)=Zm vs p.t.n.toNat (yt p y.1) y.2 k:=by
    rw[<-ja vs p.t.n.toNat (yt p y.1) y.2 y.2.length k (by omega),Lj,Lm (by rw[yy];exact hk)];rfl
   rw[e];refine⟨by rw[jp,hNN],fun i hi=>?_⟩;obtain⟨q,hq,rfl⟩:=LQ hi;rw[jp] at hq;have ha:=gK vs p.t.n.toNat (yt p y.1) y.2 y.2.length k q (by omega) hq;obtain⟨us,hus⟩:=hh.ht;have hb:=(ha.mono (us:=us));rw[<-hus,Lj,Lm (by rw[jp];exact hq)] at hb;exact hb.lt
 . obtain⟨y,hy,vs,k,q,hk,hq,rfl,us,hus⟩:=f2 v hv
   obtain⟨hyl,hyr⟩:=hpr y hy
   cases k with
   | zero=>exact⟨⟨q,rfl,by omega⟩,⟨0,rfl,by omega⟩,fun h=>absurd h (by show ¬((0:Int)<0);omega)⟩
   | succ k=>
    refine⟨⟨q,rfl,by omega⟩,⟨k+1,rfl,by omega⟩,fun _=>⟨fV vs p.t.n.toNat (yt p y.1) y.2 k q,?_,?_,?_⟩⟩
    . have hkl:k<y.2.length:=by omega
      have hg:y.2.getD k default=y.2[k]:=by rw[Lj,Lm hkl];rfl
      have hrd:=hyr _ (Ld hkl);have hb:=own_bit (qR hrd.1).2.2.1 q (by rw[hrd.2];omega)
      have e:(fV vs p.t.n.toNat (yt p y.1) y.2 (k+1) q).h ((fV vs p.t.n.toNat (yt p y.1) y.2 (k+1) q).p.toNat)=(Zm vs p.t.n.toNat (yt p y.1) y.2 k).getD q 0:=by
       show(ql (y.2.getD k default) (k+1) q (Zm vs p.t.n.toNat (yt p y.1) y.2 k)).h ((q:Int).toNat)=_;rw[Ls,vT _ _ _ _ _ (by omega),hg];unfold yc;rw[Lh ⟨by rw[jp];exact hq,hb⟩]
      rw[e];show At (zC p (zx p)).1 _ _;rw[hus];exact(gK vs p.t.n.toNat (yt p y.1) y.2 y.2.length k q (by omega) hq).mono
    . cases k<;>rfl
    . cases k with
      | zero=>show(0:Int)=((0+1:Nat):Int)-1;rfl
      | succ k=>show((k+1:Nat):Int)=((k+1+1:Nat):Int)-1;omega
end
end Go.Proofs.YtohjmddnennajaaGreatDoor
