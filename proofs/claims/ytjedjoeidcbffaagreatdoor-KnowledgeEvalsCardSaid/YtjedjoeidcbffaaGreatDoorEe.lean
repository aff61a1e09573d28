/- Merged. -/
import Derived.Test.YtjedjoeidcbffaaGreatDoorEd
open Go.Proofs.Tryz
open Go.Value renaming int->O,slice->I,bool->Aj,agg->Ak,pointer->Al
open Go.IntKind renaming i64->U
open Option renaming none->Z,some->J
open Go.Obj renaming cells->Ai
open Go.Ending renaming returned->Am
open Go.Proofs.Tryz renaming prog->Aq
open Go.RowKit renaming Below->Ar,intOf->Au,Hid->Aw
open Go renaming Calls->As,Value->Ax
open Bool renaming true->AA,false->AC
open Go.World.ownsRow renaming lt->RH
open Go.RowKit.Below renaming setCell->Ly
namespace Go.Proofs.YtjedjoeidcbffaaGreatDoor
abbrev Pv:=@Nat.mul_comm
abbrev Pm:=@List.idxOf_lt_length_of_mem
abbrev Sc:=@List.getElem_idxOf
set_option maxRecDepth 100000
set_option maxHeartbeats 8000000
section
open Go.RowKit Go.Shelf
attribute [local go_sem] Oper.semAt_some
theorem vU{w X:Ba}{g h B:Nat}{a0 a1 a2 a3 a4 a5 a6 a7 a8 a9 u0:Ax}(v0 v1 v2 v3 v4 v5 v6 v7 v8 v9 u:Ax)(hg:X.heap[g]?=J (Ai #[a0,a1,a2,a3,a4,a5,a6,a7,a8,a9] 35 (0,0)))(hh:X.heap[h]?=J (Ai #[u0] 47 (0,0)))
  (bj:g≠h) (hB:Ar B w X) (h1:B<=g) (h2:B<=h) :
  (((((((((((X.setCell ⟨g,0,Z⟩ v0).setCell ⟨g,1,Z⟩ v1).setCell ⟨g,2,Z⟩ v2).setCell ⟨g,3,Z⟩ v3).setCell ⟨g,4,Z⟩ v4).setCell ⟨g,5,Z⟩ v5).setCell ⟨g,6,Z⟩ v6).setCell ⟨g,7,Z⟩ v7).setCell ⟨g,8,Z⟩ v8).setCell ⟨g,9,Z⟩ v9).setCell ⟨h,0,Z⟩ u).heap[g]?=J (Ai #[v0,v1,v2,v3,v4,v5,v6,v7,v8,v9] 35 (0,0))/\(((((((((((X.setCell ⟨g,0,Z⟩ v0).setCell ⟨g,1,Z⟩ v1).setCell ⟨g,2,Z⟩ v2).setCell ⟨g,3,Z⟩ v3).setCell ⟨g,4,Z⟩ v4).setCell ⟨g,5,Z⟩ v5).setCell ⟨g,6,Z⟩ v6).setCell ⟨g,7,Z⟩ v7).setCell ⟨g,8,Z⟩ v8).setCell ⟨g,9,Z⟩ v9).setCell ⟨h,0,Z⟩ u).heap[h]?=J (Ai #[u] 47 (0,0))/\Ar B w (((((((((((X.setCell ⟨g,0,Z⟩ v0).setCell ⟨g,1,Z⟩ v1).setCell ⟨g,2,Z⟩ v2).setCell ⟨g,3,Z⟩ v3).setCell ⟨g,4,Z⟩ v4).setCell ⟨g,5,Z⟩ v5).setCell ⟨g,6,Z⟩ v6).setCell ⟨g,7,Z⟩ v7).setCell ⟨g,8,Z⟩ v8).setCell ⟨g,9,Z⟩ v9).setCell ⟨h,0,Z⟩ u) /\
   (((((((((((X.setCell ⟨g,0,Z⟩ v0).setCell ⟨g,1,Z⟩ v1).setCell ⟨g,2,Z⟩ v2).setCell ⟨g,3,Z⟩ v3).setCell ⟨g,4,Z⟩ v4).setCell ⟨g,5,Z⟩ v5).setCell ⟨g,6,Z⟩ v6).setCell ⟨g,7,Z⟩ v7).setCell ⟨g,8,Z⟩ v8).setCell ⟨g,9,Z⟩ v9).setCell ⟨h,0,Z⟩ u).heap.size=X.heap.size/\(∀k,k≠g->k≠h->(((((((((((X.setCell ⟨g,0,Z⟩ v0).setCell ⟨g,1,Z⟩ v1).setCell ⟨g,2,Z⟩ v2).setCell ⟨g,3,Z⟩ v3).setCell ⟨g,4,Z⟩ v4).setCell ⟨g,5,Z⟩ v5).setCell ⟨g,6,Z⟩ v6).setCell ⟨g,7,Z⟩ v7).setCell ⟨g,8,Z⟩ v8).setCell ⟨g,9,Z⟩ v9).setCell ⟨h,0,Z⟩ u).heap[k]?=X.heap[k]?):=by
 have k0:(X.setCell ⟨g,0,Z⟩ v0).heap[g]?=J (Ai #[v0,a1,a2,a3,a4,a5,a6,a7,a8,a9] 35 (0,0)):=Lq _ g 0 _ _ v0 hg;have k1:((X.setCell ⟨g,0,Z⟩ v0).setCell ⟨g,1,Z⟩ v1).heap[g]?=J (Ai #[v0,v1,a2,a3,a4,a5,a6,a7,a8,a9] 35 (0,0)):=Lq _ g 1 _ _ v1 k0;have k2:(((X.setCell ⟨g,0,Z⟩ v0).setCell ⟨g,1,Z⟩ v1).setCell ⟨g,2,Z⟩ v2).heap[g]?=J (Ai #[v0,v1,v2,a3,a4,a5,a6,a7,a8,a9] 35 (0,0)):=Lq _ g 2 _ _ v2 k1;have k3:((((X.setCell ⟨g,0,Z⟩ v0).setCell ⟨g,1,Z⟩ v1).setCell ⟨g,2,Z⟩ v2).setCell ⟨g,3,Z⟩ v3).heap[g]?=J (Ai #[v0,v1,v2,v3,a4,a5,a6,a7,a8,a9] 35 (0,0)):=Lq _ g 3 _ _ v3 k2;have k4:(((((X.setCell ⟨g,0,Z⟩ v0).setCell ⟨g,1,Z⟩ v1).setCell ⟨g,2,Z⟩ v2).setCell ⟨g,3,Z⟩ v3).setCell ⟨g,4,Z⟩ v4).heap[g]?=J (Ai #[v0,v1,v2,v3,v4,a5,a6,a7,a8,a9] 35 (0,0)):=Lq _ g 4 _ _ v4 k3;have k5:((((((X.setCell ⟨g,0,Z⟩ v0).setCell ⟨g,1,Z⟩ v1).setCell ⟨g,2,Z⟩ v2).setCell ⟨g,3,Z⟩ v3).setCell ⟨g,4,Z⟩ v4).setCell ⟨g,5,Z⟩ v5).heap[g]?=J (Ai #[v0,v1,v2,v3,v4,v5,a6,a7,a8,a9] 35 (0,0)):=Lq _ g 5 _ _ v5 k4;have k6:(((((((X.setCell ⟨g,0,Z⟩ v0).setCell ⟨g,1,Z⟩ v1).setCell ⟨g,2,Z⟩ v2).setCell ⟨g,3,Z⟩ v3).setCell ⟨g,4,Z⟩ v4).setCell ⟨g,5,Z⟩ v5).setCell ⟨g,6,Z⟩ v6).heap[g]?=J (Ai #[v0,v1,v2,v3,v4,v5,v6,a7,a8,a9] 35 (0,0)):=Lq _ g 6 _ _ v6 k5
 have k7:((((((((X.setCell ⟨g,0,Z⟩ v0).setCell ⟨g,1,Z⟩ v1).setCell ⟨g,2,Z⟩ v2).setCell ⟨g,3,Z⟩ v3).setCell ⟨g,4,Z⟩ v4).setCell ⟨g,5,Z⟩ v5).setCell ⟨g,6,Z⟩ v6).setCell ⟨g,7,Z⟩ v7).heap[g]?=J (Ai #[v0,v1,v2,v3,v4,v5,v6,v7,a8,a9] 35 (0,0)):=Lq _ g 7 _ _ v7 k6;have k8:(((((((((X.setCell ⟨g,0,Z⟩ v0).setCell ⟨g,1,Z⟩ v1).setCell ⟨g,2,Z⟩ v2).setCell ⟨g,3,Z⟩ v3).setCell ⟨g,4,Z⟩ v4).setCell ⟨g,5,Z⟩ v5).setCell ⟨g,6,Z⟩ v6).setCell ⟨g,7,Z⟩ v7).setCell ⟨g,8,Z⟩ v8).heap[g]?=J (Ai #[v0,v1,v2,v3,v4,v5,v6,v7,v8,a9] 35 (0,0)):=Lq _ g 8 _ _ v8 k7;have k9:((((((((((X.setCell ⟨g,0,Z⟩ v0).setCell ⟨g,1,Z⟩ v1).setCell ⟨g,2,Z⟩ v2).setCell ⟨g,3,Z⟩ v3).setCell ⟨g,4,Z⟩ v4).setCell ⟨g,5,Z⟩ v5).setCell ⟨g,6,Z⟩ v6).setCell ⟨g,7,Z⟩ v7).setCell ⟨g,8,Z⟩ v8).setCell ⟨g,9,Z⟩ v9).heap[g]?=J (Ai #[v0,v1,v2,v3,v4,v5,v6,v7,v8,v9] 35 (0,0)):=Lq _ g 9 _ _ v9 k8
 have l9:=(Lh _ ⟨g,9,Z⟩ v9 h (Rk bj)).trans ((Lh _ ⟨g,8,Z⟩ v8 h (Rk bj)).trans ((Lh _ ⟨g,7,Z⟩ v7 h (Rk bj)).trans ((Lh _ ⟨g,6,Z⟩ v6 h (Rk bj)).trans ((Lh _ ⟨g,5,Z⟩ v5 h (Rk bj)).trans ((Lh _ ⟨g,4,Z⟩ v4 h (Rk bj)).trans ((Lh _ ⟨g,3,Z⟩ v3 h (Rk bj)).trans ((Lh _ ⟨g,2,Z⟩ v2 h (Rk bj)).trans ((Lh _ ⟨g,1,Z⟩ v1 h (Rk bj)).trans ((Lh _ ⟨g,0,Z⟩ v0 h (Rk bj)).trans (hh))))))))));refine⟨(Lh _ ⟨h,0,Z⟩ u g bj).trans k9,?_,?_,by simp,fun k n1 n2=>?_⟩
 . rw[Lq _ h 0 _ _ u l9];rfl
 . refine Ly (p:=⟨h,0,Z⟩) ?_ h2 _
   refine Ly (p:=⟨g,9,Z⟩) ?_ h1 _;refine Ly (p:=⟨g,8,Z⟩) ?_ h1 _;refine Ly (p:=⟨g,7,Z⟩) ?_ h1 _;refine Ly (p:=⟨g,6,Z⟩) ?_ h1 _;refine Ly (p:=⟨g,5,Z⟩) ?_ h1 _;refine Ly (p:=⟨g,4,Z⟩) ?_ h1 _;refine Ly (p:=⟨g,3,Z⟩) ?_ h1 _;refine Ly (p:=⟨g,2,Z⟩) ?_ h1 _;refine Ly (p:=⟨g,1,Z⟩) ?_ h1 _;refine Ly (p:=⟨g,0,Z⟩) ?_ h1 _;exact hB
 refine(Lh _ ⟨h,0,Z⟩ u k n2).trans ?_;refine(Lh _ ⟨g,9,Z⟩ v9 k n1).trans ?_;refine(Lh _ ⟨g,8,Z⟩ v8 k n1).trans ?_;refine(Lh _ ⟨g,7,Z⟩ v7 k n1).trans ?_;refine(Lh _ ⟨g,6,Z⟩ v6 k n1).trans ?_;refine(Lh _ ⟨g,5,Z⟩ v5 k n1).trans ?_;refine(Lh _ ⟨g,4,Z⟩ v4 k n1).trans ?_;refine(Lh _ ⟨g,3,Z⟩ v3 k n1).trans ?_;refine(Lh _ ⟨g,2,Z⟩ v2 k n1).trans ?_;refine(Lh _ ⟨g,1,Z⟩ v1 k n1).trans ?_;exact Lh _ ⟨g,0,Z⟩ v0 k n1
theorem Jm(w:Ba)(o:Obj):∃W0,w.alloc o=W0/\W0.heap[w.heap.size]?=J o/\W0.heap.size=w.heap.size+1/\Ar w.heap.size w W0:=⟨_,rfl,zy _ _,by simp,ye w _⟩
theorem wT{t:Tk}:∀ {q:Option Cs} {l:List Cs},kE t q l=0->∀c∈l,(c.inp.length:Int)=t.n
 | _,[],_,c,hc=>by cases hc
 | q,d::l,h,c,hc=>by
  rw[kE] at h
  split at h
  . rename_i h1;exact absurd h h1
  . rename_i h1
    rcases LL.1 hc with rfl | hc
    . have h2:qS t q c=0:=by simpa using h1
      unfold qS at h2
      split at h2
      . rename_i h3;exact absurd h2 h3
      . rename_i h3
        have h4:zR c.inp t.n t.ins=0:=by simpa using h3
        unfold zR at h4
        split at h4
        . cases h4
        . rename_i h5;simpa using h5
    . exact wT h c hc
theorem wi{t:Tk}(h:xD t=0):∀c∈t.cases,(c.inp.length:Int)=t.n:=by
 unfold xD at h
 split at h
 . cases h
 split at h
 . cases h
 exact wT (by unfold xS at h;rwa[Nc] at h)
theorem RowX.turnC{α:Type}{C:Ct α}(ok:CtOk C){S:Nat->Prop}{w w':Ba}{g:Nat}{xs:List α}(h:RowX C S w g xs)(hs:w.heap.size<=w'.heap.size)(hc:∀(k:Nat) (o:Obj),w.heap[k]?=J o->o.isCells=AA->w'.heap[k]?=J o):RowX C S w' g xs:=by
 obtain⟨iL,h1,h2⟩:=h;refine⟨iL,hc _ _ h1 rfl,fun i hi=>?_⟩;obtain⟨cs,h3,h4⟩:=h2 i hi;exact⟨cs,ok.keepC h3 (KeepC.of_cells _ hs hc),h4⟩
theorem OwnV.of_same{w w':Ba}{base:Nat}{v:Ax}{vs:List Vw}(h:OwnV w base v vs)(hk:∀k,v.ownBlock=J k->w'.heap[k]?=w.heap[k]?):OwnV w' base v vs:=by
 refine⟨h.1,?_⟩;rcases h.2 with hn | ⟨g,cap,cur,hv,hb,hg,rest⟩
 . exact .inl hn
 exact .inr ⟨g,cap,cur,hv,hb,(hk g (by rw[hv];rfl)).trans hg,rest⟩
def RetSys(r:Sy×Int)(w:Ba)(e:Ending)(w':Ba):Prop:=∃A kc SV ks AV kv AX kx,e=Am (.tuple #[.agg (r.1.vs_ A kc SV ks AV kv AX kx),O U r.2])/\SyAt w' w'.heap.size A SV AV AX r.1/\r.1.vs.length<=kv/\kv<=maxLen/\Ar w.heap.size w w'
theorem RetSys.zero{w W:Ba}(n:Int)(h:Ar w.heap.size w W):RetSys (kH,n) w (Am (.tuple #[Ak #[O U 0,O U 0,O U 0,I Z 0 0,O U 0,I Z 0 0,O U 0,O U 0,I Z 0 0,I Z 0 0],O U n])) W:=
 ⟨Z,0,Z,0,Z,0,Z,0,rfl,⟨CAt.nil _ _ _,SAt.nil _ _ _,fun h=>absurd h (by simp[kH]),XAt.nil _ _ _⟩,Le _,NF _,h⟩
def RetSysF(L0 B0:Nat)(r:Sy×Int)(w:Ba)(e:Ending)(w':Ba):Prop:=∃A kc SV ks AV kv AX kx,e=Am (.tuple #[.agg (r.1.vs_ A kc SV ks AV kv AX kx),O U r.2]) /\
 (∀W':Ba,w'.heap.size<=W'.heap.size->(∀k,((L0<=k/\k<B0)\/w.heap.size<=k)->k<w'.heap.size->W'.heap[k]?=w'.heap[k]?)->SyAt W' W'.heap.size A SV AV AX r.1)/\r.1.vs.length<=kv/\kv<=maxLen/\Ar w.heap.size w w'
theorem RetSysF.zero{L0 B0:Nat}{w W:Ba}(n:Int)(h:Ar w.heap.size w W):RetSysF L0 B0 (kH,n) w (Am (.tuple #[Ak #[O U 0,O U 0,O U 0,I Z 0 0,O U 0,I Z 0 0,O U 0,O U 0,I Z 0 0,I Z 0 0],O U n])) W:=
 ⟨Z,0,Z,0,Z,0,Z,0,rfl,fun W' _ _=>⟨CAt.nil _ _ _,SAt.nil _ _ _,fun h=>absurd h (by simp[kH]),XAt.nil _ _ _⟩,Le _,NF _,h⟩
theorem RetSysF.sys{L0 B0:Nat}{r:Sy×Int}{w W:Ba}{e:Ending}(h:RetSysF L0 B0 r w e W):RetSys r w e W:=by
 obtain⟨A,kc,SV,ks,AV,kv,AX,kx,he,h1,h2,h3,h4⟩:=h;exact⟨A,kc,SV,ks,AV,kv,AX,kx,he,h1 W (Le _) (fun _ _ _=>rfl),h2,h3,h4⟩
theorem buildL_any(p:Pb)(hf:xz p)(A:Bb)(kc:Nat)(SV:Bb)(ks:Nat)(w:Ba)(L0 B0:Nat)(ce:B0<=w.heap.size)(rU:CAt w B0 A p.t.cases)(AP:SAt w B0 SV p.a.sts)(Km:CAtL L0 B0 w A p.t.cases)(IS:SAtL L0 B0 w SV p.a.sts) :
  As Aq 48 #[.agg (p.vs A kc SV ks)] w (RetSysF L0 B0 (yj p) w):=by
 have hA:=rU.more ce;have hS:=AP.more ce;have HA0:=zH Km;have Dc:=zH IS;clear Km IS rU AP;have CA:=zH (fun (W:Ba) (h1:CAt W W.heap.size A p.t.cases) (h2:SAt W W.heap.size SV p.a.sts)=>ecount_any p hf.1 A kc SV ks W h1 h2);have az:=zH (@xy p);have au:=zH (@qd p);have aN:=zH (@kg p);have nj:=zH hf;obtain⟨w1,ab,d0,d1,d2,aX,dj⟩:=jT w (p.vs A kc SV ks) #[O U 0,O U 0,O U 0,I Z 0 0,O U 0,I Z 0 0,O U 0,O U 0,I Z 0 0,I Z 0 0] #[O U 0] 29 35 47;have HA:=zH hA;have HS:=zH hS;have cu:=zH dj;have bK:=zH d0;have cN:=zH d1;have nk:=zH d2;have UW:=CA.out w1 ((hA.keep dj).more dj.size) ((hS.keep dj).more dj.size);have UW:=zH UW;unfold Pb.vs at ab d0 UW ⊢;obtain⟨q0,q1,q2,q3,q4,q5,q6,_⟩:=Kf d0;have ai:=zH ab;clear ab d0 d1 d2 dj hA hS hf CA;refine xm func48 rfl ?_;simp only[ntmps48,List.size_toArray,List.length_cons,List.length_nil,Nat.reduceAdd,Nat.reduceSub,Array.replicate_succ,Array.replicate_zero,List.push_toArray,List.append_toArray,List.nil_append,List.cons_append];go_wp2_with fail;rw[ai.out];go_wp2_with fail;refine UW.out.mono ?_;rintro e w2 ⟨rfl,ag⟩;clear UW ai q0 q1 q2 q3 q4 q5 q6;have D0:=zH (La ag bK.out);have D1:=zH (La ag cN.out);have D2:=zH (La ag nk.out);have B2:=zH (cu.out.trans (ag.mono (by omega)));have dw:=ag.size;clear ag
 by_cases nN:zY p=0
 case neg=>
  have AG:uX p=(0,zY p):=Li nN;rw[AG,az.out nN];have e0:(zY p != 0)=AA:=by simpa using nN
  obtain⟨pe,OZ⟩:=Ki (zY p);rw[OZ] at e0 ⊢;have x0:w2.cell? ⟨w.heap.size+1,0,Z⟩=J (O U 0):=zh D1.out 0 rfl;have f0:=zi D1.out 0;have x1:w2.cell? ⟨w.heap.size+1,1,Z⟩=J (O U 0):=zh D1.out 1 rfl;have f1:=zi D1.out 1;have x2:w2.cell? ⟨w.heap.size+1,2,Z⟩=J (O U 0):=zh D1.out 2 rfl;have f2:=zi D1.out 2;have x3:w2.cell? ⟨w.heap.size+1,3,Z⟩=J (I Z 0 0):=zh D1.out 3 rfl;have f3:=zi D1.out 3;have x4:w2.cell? ⟨w.heap.size+1,4,Z⟩=J (O U 0):=zh D1.out 4 rfl;have f4:=zi D1.out 4;have x5:w2.cell? ⟨w.heap.size+1,5,Z⟩=J (I Z 0 0):=zh D1.out 5 rfl;have f5:=zi D1.out 5;have x6:w2.cell? ⟨w.heap.size+1,6,Z⟩=J (O U 0):=zh D1.out 6 rfl;have f6:=zi D1.out 6;have x7:w2.cell? ⟨w.heap.size+1,7,Z⟩=J (O U 0):=zh D1.out 7 rfl;have f7:=zi D1.out 7;have x8:w2.cell? ⟨w.heap.size+1,8,Z⟩=J (I Z 0 0):=zh D1.out 8 rfl;have f8:=zi D1.out 8;have x9:w2.cell? ⟨w.heap.size+1,9,Z⟩=J (I Z 0 0):=zh D1.out 9 rfl;have f9:=zi D1.out 9;have y0:w2.cell? ⟨w.heap.size+1+1,0,Z⟩=J (O U 0):=zh D2.out 0 rfl;have g0:=zi D2.out 0;go_wp2_with fail;obtain⟨k1,k2,k3,_,_⟩:=vU (O U 0) (O U 0) (O U 0) (I Z 0 0) (O U 0) (I Z 0 0) (O U 0) (O U 0) (I Z 0 0) (I Z 0 0) (O U pe) D1.out D2.out (by omega) B2.out (by omega:w.heap.size<=w.heap.size+1) (by omega:w.heap.size<=w.heap.size+1+1);refine xK (B:=w.heap.size) (Marks.nil _ _) ?_
  intro W hX;have c0:W.cell? ⟨w.heap.size+1,0,Z⟩=J (O U 0):=hX.cell (zh k1 0 rfl);have c1:W.cell? ⟨w.heap.size+1,1,Z⟩=J (O U 0):=hX.cell (zh k1 1 rfl);have c2:W.cell? ⟨w.heap.size+1,2,Z⟩=J (O U 0):=hX.cell (zh k1 2 rfl);have c3:W.cell? ⟨w.heap.size+1,3,Z⟩=J (I Z 0 0):=hX.cell (zh k1 3 rfl);have c4:W.cell? ⟨w.heap.size+1,4,Z⟩=J (O U 0):=hX.cell (zh k1 4 rfl);have c5:W.cell? ⟨w.heap.size+1,5,Z⟩=J (I Z 0 0):=hX.cell (zh k1 5 rfl);have c6:W.cell? ⟨w.heap.size+1,6,Z⟩=J (O U 0):=hX.cell (zh k1 6 rfl);have c7:W.cell? ⟨w.heap.size+1,7,Z⟩=J (O U 0):=hX.cell (zh k1 7 rfl);have c8:W.cell? ⟨w.heap.size+1,8,Z⟩=J (I Z 0 0):=hX.cell (zh k1 8 rfl);have c9:W.cell? ⟨w.heap.size+1,9,Z⟩=J (I Z 0 0):=hX.cell (zh k1 9 rfl);have Ko:W.cell? ⟨w.heap.size+1+1,0,Z⟩=J (O U pe):=hX.cell (zh k2 0 rfl);have hR:=RetSysF.zero (L0:=L0) (B0:=B0) pe (k3.trans hX.below);rw[az.out nN,OZ];exact⟨_,by simp[results,results48,go_sem,c0,c1,c2,c3,c4,c5,c6,c7,c8,c9,Ko],hR⟩
 case pos=>
 have AG:uX p=uj 1048576 (yx p):=Lg (by simpa using nN);rw[AG]
 by_cases hT:4096<yx p
 case pos=>
  have HB:=zH (au.out nN hT)
  by_cases IP:1048576<yx p
  case pos=>
   have nU:uj 1048576 (yx p)=(0,17):=Li IP;rw[nU];clear az au aN AG hT IP nU nj nN;have x0:w2.cell? ⟨w.heap.size+1,0,Z⟩=J (O U 0):=zh D1.out 0 rfl;have f0:=zi D1.out 0;have x1:w2.cell? ⟨w.heap.size+1,1,Z⟩=J (O U 0):=zh D1.out 1 rfl;have f1:=zi D1.out 1;have x2:w2.cell? ⟨w.heap.size+1,2,Z⟩=J (O U 0):=zh D1.out 2 rfl;have f2:=zi D1.out 2;have x3:w2.cell? ⟨w.heap.size+1,3,Z⟩=J (I Z 0 0):=zh D1.out 3 rfl;have f3:=zi D1.out 3;have x4:w2.cell? ⟨w.heap.size+1,4,Z⟩=J (O U 0):=zh D1.out 4 rfl;have f4:=zi D1.out 4;have x5:w2.cell? ⟨w.heap.size+1,5,Z⟩=J (I Z 0 0):=zh D1.out 5 rfl;have f5:=zi D1.out 5;have x6:w2.cell? ⟨w.heap.size+1,6,Z⟩=J (O U 0):=zh D1.out 6 rfl;have f6:=zi D1.out 6;have x7:w2.cell? ⟨w.heap.size+1,7,Z⟩=J (O U 0):=zh D1.out 7 rfl;have f7:=zi D1.out 7;have x8:w2.cell? ⟨w.heap.size+1,8,Z⟩=J (I Z 0 0):=zh D1.out 8 rfl;have f8:=zi D1.out 8;have x9:w2.cell? ⟨w.heap.size+1,9,Z⟩=J (I Z 0 0):=zh D1.out 9 rfl;have f9:=zi D1.out 9;have y0:w2.cell? ⟨w.heap.size+1+1,0,Z⟩=J (O U 0):=zh D2.out 0 rfl;have g0:=zi D2.out 0;go_wp2_with fail
   obtain⟨k1,k2,k3,_,_⟩:=vU (O U 0) (O U 0) (O U 0) (I Z 0 0) (O U 0) (I Z 0 0) (O U 0) (O U 0) (I Z 0 0) (I Z 0 0) (O U 17) D1.out D2.out (by omega) B2.out (by omega:w.heap.size<=w.heap.size+1) (by omega:w.heap.size<=w.heap.size+1+1);refine xK (B:=w.heap.size) (Marks.nil _ _) ?_;intro W hX;have c0:W.cell? ⟨w.heap.size+1,0,Z⟩=J (O U 0):=hX.cell (zh k1 0 rfl);have c1:W.cell? ⟨w.heap.size+1,1,Z⟩=J (O U 0):=hX.cell (zh k1 1 rfl);have c2:W.cell? ⟨w.heap.size+1,2,Z⟩=J (O U 0):=hX.cell (zh k1 2 rfl);have c3:W.cell? ⟨w.heap.size+1,3,Z⟩=J (I Z 0 0):=hX.cell (zh k1 3 rfl);have c4:W.cell? ⟨w.heap.size+1,4,Z⟩=J (O U 0):=hX.cell (zh k1 4 rfl);have c5:W.cell? ⟨w.heap.size+1,5,Z⟩=J (I Z 0 0):=hX.cell (zh k1 5 rfl);have c6:W.cell? ⟨w.heap.size+1,6,Z⟩=J (O U 0):=hX.cell (zh k1 6 rfl);have c7:W.cell? ⟨w.heap.size+1,7,Z⟩=J (O U 0):=hX.cell (zh k1 7 rfl);have c8:W.cell? ⟨w.heap.size+1,8,Z⟩=J (I Z 0 0):=hX.cell (zh k1 8 rfl);have c9:W.cell? ⟨w.heap.size+1,9,Z⟩=J (I Z 0 0):=hX.cell (zh k1 9 rfl);have Ko:W.cell? ⟨w.heap.size+1+1,0,Z⟩=J (O U 17):=hX.cell (zh k2 0 rfl);have hR:=RetSysF.zero (L0:=L0) (B0:=B0) 17 (k3.trans hX.below);rw[HB.out];exact⟨_,by simp[results,results48,go_sem,c0,c1,c2,c3,c4,c5,c6,c7,c8,c9,Ko],hR⟩
  have nU:uj 1048576 (yx p)=((yx p:Int),0):=Lg IP;rw[nU];obtain⟨T,AN⟩:=Ki (yx p);rw[AN] at hT IP ⊢;have hT3:(4096:Int)<(T:Int):=by omega
  clear az au aN AG nU nj nN AN;have x0:w2.cell? ⟨w.heap.size+1,0,Z⟩=J (O U 0):=zh D1.out 0 rfl;have f0:=zi D1.out 0;have x1:w2.cell? ⟨w.heap.size+1,1,Z⟩=J (O U 0):=zh D1.out 1 rfl;have f1:=zi D1.out 1;have x2:w2.cell? ⟨w.heap.size+1,2,Z⟩=J (O U 0):=zh D1.out 2 rfl;have f2:=zi D1.out 2;have x3:w2.cell? ⟨w.heap.size+1,3,Z⟩=J (I Z 0 0):=zh D1.out 3 rfl;have f3:=zi D1.out 3;have x4:w2.cell? ⟨w.heap.size+1,4,Z⟩=J (O U 0):=zh D1.out 4 rfl;have f4:=zi D1.out 4;have x5:w2.cell? ⟨w.heap.size+1,5,Z⟩=J (I Z 0 0):=zh D1.out 5 rfl;have f5:=zi D1.out 5;have x6:w2.cell? ⟨w.heap.size+1,6,Z⟩=J (O U 0):=zh D1.out 6 rfl;have f6:=zi D1.out 6;have x7:w2.cell? ⟨w.heap.size+1,7,Z⟩=J (O U 0):=zh D1.out 7 rfl;have f7:=zi D1.out 7;have x8:w2.cell? ⟨w.heap.size+1,8,Z⟩=J (I Z 0 0):=zh D1.out 8 rfl;have f8:=zi D1.out 8;have x9:w2.cell? ⟨w.heap.size+1,9,Z⟩=J (I Z 0 0):=zh D1.out 9 rfl;have f9:=zi D1.out 9;have y0:w2.cell? ⟨w.heap.size+1+1,0,Z⟩=J (O U 0):=zh D2.out 0 rfl;have g0:=zi D2.out 0;go_wp2_with fail;obtain⟨k1,k2,k3,_,_⟩:=vU (O U 0) (O U 0) (O U 0) (I Z 0 0) (O U 0) (I Z 0 0) (O U 0) (O U 0) (I Z 0 0) (I Z 0 0) (O U 17) D1.out D2.out (by omega) B2.out (by omega:w.heap.size<=w.heap.size+1) (by omega:w.heap.size<=w.heap.size+1+1);refine xK (B:=w.heap.size) (Marks.nil _ _) ?_
  intro W hX;have c0:W.cell? ⟨w.heap.size+1,0,Z⟩=J (O U 0):=hX.cell (zh k1 0 rfl);have c1:W.cell? ⟨w.heap.size+1,1,Z⟩=J (O U 0):=hX.cell (zh k1 1 rfl);have c2:W.cell? ⟨w.heap.size+1,2,Z⟩=J (O U 0):=hX.cell (zh k1 2 rfl);have c3:W.cell? ⟨w.heap.size+1,3,Z⟩=J (I Z 0 0):=hX.cell (zh k1 3 rfl);have c4:W.cell? ⟨w.heap.size+1,4,Z⟩=J (O U 0):=hX.cell (zh k1 4 rfl);have c5:W.cell? ⟨w.heap.size+1,5,Z⟩=J (I Z 0 0):=hX.cell (zh k1 5 rfl);have c6:W.cell? ⟨w.heap.size+1,6,Z⟩=J (O U 0):=hX.cell (zh k1 6 rfl);have c7:W.cell? ⟨w.heap.size+1,7,Z⟩=J (O U 0):=hX.cell (zh k1 7 rfl);have c8:W.cell? ⟨w.heap.size+1,8,Z⟩=J (I Z 0 0):=hX.cell (zh k1 8 rfl);have c9:W.cell? ⟨w.heap.size+1,9,Z⟩=J (I Z 0 0):=hX.cell (zh k1 9 rfl);have Ko:W.cell? ⟨w.heap.size+1+1,0,Z⟩=J (O U 17):=hX.cell (zh k2 0 rfl);have hR:=RetSysF.zero (L0:=L0) (B0:=B0) 17 (k3.trans hX.below);rw[HB.out];exact⟨_,by simp[results,results48,go_sem,c0,c1,c2,c3,c4,c5,c6,c7,c8,c9,Ko],hR⟩
 case neg=>
 have nU:uj 1048576 (yx p)=((yx p:Int),0):=Lg (by omega);rw[nU];have HB:=zH (aN.out nN (by omega));have iV:yx p<=60:=by have:=nj.out.2 nN;omega
 obtain⟨mP,su,mQ,tR,Ig⟩:=yf nN;obtain⟨K,hK⟩:=Lp tR;obtain⟨sF,cU,fl⟩:=xJ mP;have Ts:K<=6:=by omega
 have sE:yx p=yw p.a K 0*p.t.cases.length:=by unfold yx;rw[hK];rfl
 have IF:yw p.a K 0<=60:=by
  have:=RI (yw p.a K 0) sF;omega
 have mY:=B2.out;have HWO:=zH (words_any p.a nj.out.1.2 su K (by omega) (by omega) SV ks w2 ((HS.out.keep mY).more mY.size));have pd:=zH hK;obtain⟨T,AN⟩:=Ki (yx p);rw[AN] at iV sE ⊢;have ry:=zH AN;have UR:=zH sE;have hT3:¬(4096:Int)<(T:Int):=by omega
 have q4:=zh D0.out 4 rfl;have q5:=zh D0.out 5 rfl;have q6:w2.cell? ⟨w.heap.size,6,Z⟩=J (O U (K:Int)):=by rw[<-hK];exact zh D0.out 6 rfl
 obtain⟨N,hN⟩:=Lp (show 0<=p.t.n by omega);have ff:=zH hN;have KY:=zH su;have El:=zH mQ;have HTI:=zH (wi mP);clear az au aN AG nU hT AN sE hK nN mP su mQ tR Ig mY hN;go_wp2_with fail;refine HWO.out.mono ?_;rintro e w3 ⟨AW,cw,rfl,fU,aj⟩;clear q4 q5 q6 HWO;have iP:=aj.size;have D03:=zH (La aj D0.out);have D13:=zH (La aj D1.out);have D23:=zH (La aj D2.out);have B3:=zH (B2.out.trans (aj.mono (by omega)));have io:=zH fU;have aK:=(xv nj.out.1.2 KY.out).2.1;have HCP:=zH (copied_any p nj.out.1 sF aK A kc SV ks w3 L0 B0 (Lz ce B3.out.size) (HA0.out.keep (B3.out.mono ce)) (Dc.out.keep (B3.out.mono ce)));unfold Pb.vs at HCP;obtain⟨q0,q1,q2,q3,q4,q5,q6,_⟩:=Kf D03.out;clear aj fU D0 D1 D2 B2;go_wp2_with fail;refine HCP.out.mono ?_;rintro e w4 ⟨g4,CH,WG,CG,rfl,hA4,hS4,tm,hgm4,aG⟩;obtain⟨A4,Kl⟩:∃A4:Bb,A4=J ⟨g4,0,Z⟩:=⟨_,rfl⟩;obtain⟨C8,IR⟩:∃S4:Bb,S4=J ⟨WG,0,Z⟩:=⟨_,rfl⟩;rw[<-Kl,<-IR];have HA4e:=zH Kl;have HS4e:=zH IR;clear Kl IR;have pT:=aG.size;have CD:=zH (La aG D03.out);have D14:=zH (La aG D13.out);have D24:=zH (La aG D23.out);have B4:=zH (B3.out.trans (aG.mono (by omega)));have Mn:=zH hA4;have Db:=zH hS4;have mp:=zH ((io.out.keep aG).more aG.size);unfold Pb.vs
 have p0:w4.cell? ⟨w.heap.size,0,Z⟩=J (O U p.t.n):=zh CD.out 0 rfl;have p1:w4.cell? ⟨w.heap.size,1,Z⟩=J (O U p.t.ins):=zh CD.out 1 rfl;have p2:w4.cell? ⟨w.heap.size,2,Z⟩=J (O U p.t.outs):=zh CD.out 2 rfl;have p3:w4.cell? ⟨w.heap.size,3,Z⟩=J (I A p.t.cases.length kc):=zh CD.out 3 rfl;have p4:w4.cell? ⟨w.heap.size,4,Z⟩=J (O U p.a.n):=zh CD.out 4 rfl;have p5:w4.cell? ⟨w.heap.size,5,Z⟩=J (I SV p.a.sts.length ks):=zh CD.out 5 rfl;have p6:w4.cell? ⟨w.heap.size,6,Z⟩=J (O U p.k):=zh CD.out 6 rfl;have fN:w.heap.size<w4.heap.size:=by omega
 clear hA4 hS4 aG q0 q1 q2 q3 q4 q5 q6 HCP D03 D13 D23 io;have lm:=@run_makeMap Aq;have dU:w.heap.size<w4.heap.size+1:=by omega
 have en:w.heap.size<w4.heap.size+1+1:=by omega
 have tf:w.heap.size<w4.heap.size+1+1+1:=by omega
 have pS:w.heap.size<w4.heap.size+1+1+1+1:=by omega
 go_wp2_with fail;obtain⟨W5,dM,x5,lL,nc⟩:=Jm w4 (Ai #[O U p.t.n,O U p.t.ins,O U p.t.outs,I A4 p.t.cases.length CH,O U p.a.n,I C8 p.a.sts.length CG,O U p.k,O U 0,I Z 0 0,I Z 0 0] 35);rw[dM];obtain⟨W6,CQ,x6,lY,CY⟩:=Jm W5 (.map #[] 0);rw[CQ];obtain⟨W7,rj,x7,nt,TA⟩:=Jm W6 (Ai #[O U p.t.n,I Z 0 0,.map (J (w4.heap.size+1))] 148);rw[rj];obtain⟨W8,hW8,x8,CJ,M'⟩:=Jm W7 (Ai #[Al (J ⟨w4.heap.size+1+1,0,Z⟩)] 145);rw[hW8];have lO:MapOf (fun v:Vw=>.agg v.cells) W6 W5.heap.size 0 (wC []):=by rw[<-CQ,numF_nil];exact MapOf.made W5
 have Ec:Ar w4.heap.size w4 W8:=nc.trans ((CY.mono (by omega)).trans ((TA.mono (by omega)).trans (M'.mono (by omega))));have D08:=zH (Lb Ec (by omega) CD.out);clear dM CQ rj hW8 lm p0 p1 p2 p3 p4 p5 p6 dU en tf pS;have y':=execs_any p A kc SV ks AW (zT p.a K 0).length cw W8;unfold Pb.vs at y';refine y'.mono ?_;rintro e W9 ⟨rfl,tr⟩;have tO:W9.heap.size=w4.heap.size+6:=by rw[<-tr];simp;omega
 have sO:Ar W8.heap.size W8 W9:=by rw[<-tr];exact kJ W8 _ _
 have Ec:Ar w4.heap.size w4 W8:=nc.trans ((CY.mono (by omega)).trans ((TA.mono (by omega)).trans (M'.mono (by omega))));have Eb:Ar w4.heap.size w4 W9:=Ec.trans (sO.mono (by omega));have hp9:W9.heap[W8.heap.size]?=J (Ai (p.vs A kc SV ks) 29 (0,0)):=by rw[<-tr];exact yU (zy W8 _) _
 have hq9:W9.heap[W8.heap.size+1]?=J (Ai #[.slice AW (zT p.a K 0).length cw] 141 (0,0)):=by
  rw[<-tr];have:=zy (W8.alloc (Ai (p.vs A kc SV ks) 29)) (Ai #[.slice AW (zT p.a K 0).length cw] 141);rwa[Nk] at this
 have y5:=Lb sO (by omega) (Lb M' (by omega) (Lb TA (by omega) (Lb CY (by omega) x5)));have y7:=Lb sO (by omega) (Lb M' (by omega) x7);have y8:=Lb sO (by omega) x8;have ym:=((lO.same (TA.block _ (by omega))).same (M'.block _ (by omega))).same (sO.block _ (by omega));rw[lL] at ym;rw[lY,lL] at y7;rw[nt,lY,lL] at y8;have WU:=zH y8;have HP9:=zH hp9;have h8e:W8.heap.size=w4.heap.size+1+1+1+1:=by omega
 -- the words' slices
 obtain⟨sl,f'⟩:∃sl:Nat->Ax,sl=fun j=>match AW with | some ad=>(w4.cell? ⟨ad.block,ad.off+j,Z⟩).getD undef | none=>undef:=⟨_,rfl⟩
 have HSL:Aw (∀(j:Nat) (hj:j<(zT p.a K 0).length),∃A' c,sl j=.slice A' (zT p.a K 0)[j].length c/\RAt w4 w4.heap.size A' (zT p.a K 0)[j]):=fun j hj=>by
  obtain⟨b,off,A',c,e,_,hc,hr⟩:=mp.out.at_ j hj;subst e;refine⟨A',c,?_,hr⟩;rw[f'];show(w4.cell? ⟨b,off+j,Z⟩).getD undef=_;rw[hc];rfl
 have pD:SlAt w4 w4.heap.size AW (zT p.a K 0).length sl:=fun j hj=>by
  obtain⟨b,off,A',c,e,hb,hc,hr⟩:=mp.out.at_ j hj;subst e;refine⟨b,off,rfl,hb,?_⟩;rw[f'];show _=J ((w4.cell? ⟨b,off+j,Z⟩).getD undef);rw[hc];rfl
 have pR:(zT p.a K 0).length<=60:=by rw[xe];exact IF
 have lh:=zH (execs1_iter (p.vs A kc SV ks) p.t.cases.length nj.out.1.1.1 A kc rfl AW (zT p.a K 0).length cw (by omega) sl w4.heap.size W8.heap.size (W8.heap.size+1) W9 hp9 hq9 (pD.same fun k hk=>Eb.block k hk) Eb.size);obtain⟨SC,IQ⟩:∃SC:Ax->Array Ax,SC=fun E=>#[O U p.t.n,O U p.t.ins,O U p.t.outs,I A4 p.t.cases.length CH,O U p.a.n,I C8 p.a.sts.length CG,O U p.k,O U 0,I Z 0 0,E]:=⟨_,rfl⟩
 have H0:Aw (BlIn p W9.heap.size w4.heap.size (w4.heap.size+1+1) (w4.heap.size+1) w4.heap.size SC W9 [] (I Z 0 0) (I Z 0 0) W9):=
  ⟨Wrote.refl _ _,⟨y7,⟨0,ym⟩,OwnV.nil _ _,fun k e=>(by cases e),by omega,by omega,by omega⟩,by rw[IQ];exact y5,OwnX.nil _ _ _ _,fun k e=>(by cases e)⟩
 have cJ:Aw (BlB W9.heap.size w4.heap.size (w4.heap.size+1+1) (w4.heap.size+1) w4.heap.size W9):=⟨rfl,by omega,by omega,by omega,⟨by omega,by omega,by omega⟩,by omega,by omega⟩;have tz:=zH IQ;have Mk:=zH Eb;have UB:=zH hq9;clear y' tr sO Ec Eb hp9 hq9 y5 y7 y8 ym f' pD IQ lO x5 x6 x7 x8 nc CY TA M';rw[h8e];rw[h8e] at lh HP9 UB;go_wp2_with fail
 refine JT rfl (Pg func144 (by kernel_rfl) rfl) lh.out (by rintro k (h | rfl | rfl)<;>omega) (fun _=>rfl)
  (fun (pre:List { x:Nat×Nat // x∈zu (zT p.a K 0).length 0 p.t.cases.length }) (X:Ba)=>∃V E,BlIn p W9.heap.size w4.heap.size (w4.heap.size+1+1) (w4.heap.size+1) w4.heap.size SC W9 (ui (zT p.a K 0) (pre.map (·.1))) V E X)
  (fun _ _ _=>False) ?hI (fun _ _ _ _ _ h _ _=>h) ⟨_,_,H0.out⟩ ?a1 ?assign ?body ?done ?stop
 case hI=>
  rintro s X X' row ⟨V,E,h⟩ hg hr;exact⟨V,E,h.turn cJ.out hg hr⟩
 case assign=>
  intro l x X K' hK;gi_wp2;exact hK
 case body=>
  rintro l pre x X ⟨V,E,hI⟩ aa;obtain⟨oK,my,Ox⟩:=qC _ _ _ x.2;have oW:=Mk.out;have ri:=hI.bel cJ.out;have aQ:Ar w.heap.size w X:=B4.out.trans ((oW.trans ri).mono (by omega));have hM:x.1.1<p.t.cases.length:=by omega
  obtain⟨bc,oc,A0,c0,A1,c1,A2,c2,eA,hbc,i0,_,_,I0,_,_⟩:=(HA.out.keep aQ).row x.1.1 hM;subst eA;obtain⟨AL,cl_,esl,sM⟩:=HSL.out x.1.2 Ox;have oz:=Ld (l:=zT p.a K 0) Ox;have lr:(zT p.a K 0).getD x.1.2 []=(zT p.a K 0)[x.1.2]:=by rw[Lk,Ln Ox];rfl
  have t9:yt p x.1.1=p.t.cases[x.1.1].inp:=by unfold yt;rw[Lk,Ln hM];rfl
  obtain⟨word,nn⟩:=Ki ((zT p.a K 0)[x.1.2]);rw[nn] at esl sM oz lr;have mO:=xW p.a K 0 word oz;have HWM:=zH (jR p.a K 0 word oz);obtain⟨AV,kv,rfl⟩:=hI.bd.own.lit;obtain⟨AE,ke,rfl,_,_,_⟩:=hI.out.form yc;have rD:=zH hI;have aU:(ui (zT p.a K 0) (pre.map (·.1))).length=pre.length:=by simp[ui]
  have nS:=Ys p (by omega) (ui (zT p.a K 0) (pre.map (·.1))) (fun y hy=>by
   obtain⟨z,hz,rfl⟩:=LZ.1 hy;obtain⟨z2,dP,rfl⟩:=LZ.1 hz;have h2:=(qC _ _ _ z2.2).2.2;have e2:(zT p.a K 0).getD z2.1.2 []=(zT p.a K 0)[z2.1.2]:=by rw[Lk,Ln h2];rfl
   show((zT p.a K 0).getD z2.1.2 []).length<=6;rw[e2,xW p.a K 0 _ (Ld h2)]
   exact Ts)
  rw[aU] at nS
  have DD:pre.length<60:=by
   have h6:(zu (zT p.a K 0).length 0 p.t.cases.length).length<=60:=by
    rw[vr,xe,Pv];have:=UR.out;omega
   omega
  obtain⟨PL,hPL⟩:=Ki (ui (zT p.a K 0) (pre.map (·.1)));have UD:=zH hPL;rw[hPL] at hI rD nS aU;have hD9:=hI.big cJ.out;have e7:X.cell? ⟨w4.heap.size,9,Z⟩=J (.slice AE (zK p PL).2.length ke):=zh hI.sys 9 (by rw[tz.out];rfl);have f7:=zi hI.sys 9;have e8:X.cell? ⟨w4.heap.size+1+1+1,0,Z⟩=J (Al (J ⟨w4.heap.size+1+1,0,Z⟩)):=zh ((hI.same cJ.out (by omega) (by omega) (by omega) (by omega)).trans WU.out) 0 rfl;have e3:X.cell? ⟨w.heap.size,3,Z⟩=J (I (J ⟨bc,oc,Z⟩) p.t.cases.length kc):=zh (Lb ri (by omega) (Lb oW (by omega) CD.out)) 3 rfl;have hI0:((x.1.1:Nat):Int)<(p.t.cases.length:Int):=by omega
  have na:(0:Int)<=((x.1.1:Nat):Int):=by omega
  have eG:Aw (∀W,Ar X.heap.size X W->W.cell? ⟨w4.heap.size,9,Z⟩=J (.slice AE (zK p PL).2.length ke)/\W.cell? ⟨w4.heap.size+1+1+1,0,Z⟩=J (Al (J ⟨w4.heap.size+1+1,0,Z⟩))/\W.cell? ⟨w.heap.size,3,Z⟩=J (I (J ⟨bc,oc,Z⟩) p.t.cases.length kc)/\W.cell? ⟨bc,oc+x.1.1*3,Z⟩=J (I A0 p.t.cases[x.1.1].inp.length c0)):=fun W hW=>
   ⟨(hW.cell (p:=⟨w4.heap.size,9,Z⟩) (by show w4.heap.size<_;omega)).trans e7,(hW.cell (p:=⟨w4.heap.size+1+1+1,0,Z⟩) (by show w4.heap.size+1+1+1<_;omega)).trans e8,(hW.cell (p:=⟨w.heap.size,3,Z⟩) (by show w.heap.size<_;omega)).trans e3,(hW.cell (p:=⟨bc,_,Z⟩) (by show bc<_;omega)).trans i0⟩
  have UQ:=zH nS;have Uo:=zH mO;have HGD:=zH lr;have HINP:=zH t9;have HI0:=zH I0;have dO:=zH sM;have aV:=zH ri;clear hI ri aQ lr t9 mO nS aU nn oz I0 sM hPL
  try dsimp only
  rw[esl];gi_wp2_with fail
  refine qg [(0,AA),(1,AA),(2,AA),(3,AA),(5,AA),(6,AA),(7,AA),(8,AA),(9,AA),(10,AA),(11,AA),(12,AA),(13,AA),(4,AC),(14,AC),(15,AC),(16,AC),(17,AC),(18,AC),(19,AC)]
   (fun W=>W.cell? ⟨w4.heap.size,9,Z⟩=J (.slice AE (zK p PL).2.length ke)/\W.cell? ⟨w4.heap.size+1+1+1,0,Z⟩=J (Al (J ⟨w4.heap.size+1+1,0,Z⟩))/\W.cell? ⟨w.heap.size,3,Z⟩=J (I (J ⟨bc,oc,Z⟩) p.t.cases.length kc)/\W.cell? ⟨bc,oc+x.1.1*3,Z⟩=J (I A0 p.t.cases[x.1.1].inp.length c0))
   (by kernel_rfl) (by kernel_rfl) (by kernel_rfl) (by rintro⟨_,_,h⟩;exact h) (eG.out _ (Ll _ _).drew) ?_
  clear e7 e8 e3 i0
  repeat
   apply zA rfl
   . rintro K' ac W ⟨y0,y1,y2,y3⟩
     go_simp;exact ac
  have hRX:RAt X w4.heap.size AL word:=dO.out.keep (Mk.out.trans aV.out)
  -- the word's copy
  refine zx rfl ?_;intro K' ac;go_simp;refine(QP AL word.length cl_ (xq word) X.drew (qo word) (YF (w:=X.drew) (hRX.more (by show w4.heap.size<=X.heap.size;omega))) (uJ word) (by have:=Uo.out;omega)).mono ?_;rintro e w5 ⟨v5,rfl,lN,aA⟩;have aA:Ar X.heap.size X w5:=kF aA;have lN:OwnR kRd w5 X.heap.size v5 word.length (xq word):=lN;obtain⟨A5,c5,rfl,EP,_,nP⟩:=uI lN;have HCP5:=zH EP;clear EP;refine ac _ _ (eG.out _ aA) ?_;clear ac K' lN
  -- the views
  refine zx rfl ?_;intro K' ac;go_simp;have IJ:=rD.out.bd.on aA;rw[ff.out] at IJ;have lL:=aA.size;have dm:(p.t.cases[x.1.1].inp).length=N:=by have:=HTI.out _ (Ld hM);have:=ff.out;omega
  have hIX:IAt w5 w4.heap.size A0 p.t.cases[x.1.1].inp:=(HI0.out.keep (aA.mono (by omega:w.heap.size<=X.heap.size))).more (by omega)
  have Hg:=zH (play_any w4.heap.size (w4.heap.size+1+1) (w4.heap.size+1) N (by have:=ff.out;omega) (by have:=ff.out;omega) (.slice AV (zK p PL).1.length kv) (zK p PL).1 (by have:=UQ.out;omega) p.t.cases[x.1.1].inp dm word (by have:=Uo.out;omega) (fun r hr=>by
   obtain⟨m,hm,rfl⟩:=HWM.out r hr;obtain⟨z1,z2,_⟩:=qq (xv nj.out.1.2 KY.out).1 m hm
   exact⟨z1,by rw[z2,<-El.out,ff.out]⟩) A0 AL c0 cl_ w5 (by omega) IJ hIX (hRX.keep (aA.mono (by omega))))
  refine Hg.out.mono ?_;rintro e w6 ⟨v6,V6,rfl,Wj,CM,VM,VY⟩;obtain⟨AV6,VJ,rfl⟩:=Wj.own.lit;obtain⟨VV,Ws⟩:=Ki ((zI (zK p PL).1 N p.t.cases[x.1.1].inp word word.length).1);have Hc:=zH Ws
  have hVVl:VV.length<=4000:=by
   have h2:=jE (zK p PL).1 N p.t.cases[x.1.1].inp word word.length;have h4:(word.length+1)*N<=7*5:=LU (by have:=Uo.out;omega) (by have:=ff.out;omega);have h5:=UQ.out;rw[Ws] at h2;omega
  rw[Ws] at Wj CM VM VY;clear Ws;clear Hg IJ hRX hIX dm;obtain⟨A6,c6,rfl,_,_,MJ⟩:=QV VM;have hv6:=fun k hk=>(VM.lt k hk).1
  have cj:=zH aA;have HL5:=zH nP;have tF:=zH Wj;have rB:=zH CM;have Oc:=zH MJ;have HN6:=zH VY;have HV6:=zH hv6;have hs6b:=CM.1.size
  have oJ:Aw (∀(k o:Nat) (u:Ax),k≠w4.heap.size+1+1->k≠w4.heap.size+1->k<W9.heap.size->w5.cell? ⟨k,o,Z⟩=J u->w6.cell? ⟨k,o,Z⟩=J u):=fun k o u h1 h2 h3 hc=>
   (LH (CM.1.block k (by omega) fun hr=>by
    rcases hr with e | e | e
    . exact h1 e
    . exact h2 e
    . have:=(rD.out.no k e).1;omega)).trans hc
  have k5:=eG.out _ aA
  have k6:w6.cell? ⟨w4.heap.size,9,Z⟩=J (.slice AE (zK p PL).2.length ke)/\w6.cell? ⟨w4.heap.size+1+1+1,0,Z⟩=J (Al (J ⟨w4.heap.size+1+1,0,Z⟩))/\w6.cell? ⟨w.heap.size,3,Z⟩=J (I (J ⟨bc,oc,Z⟩) p.t.cases.length kc)/\w6.cell? ⟨bc,oc+x.1.1*3,Z⟩=J (I A0 p.t.cases[x.1.1].inp.length c0):=
   ⟨oJ.out _ _ _ (by omega) (by omega) (by omega) k5.1,oJ.out _ _ _ (by omega) (by omega) (by omega) k5.2.1,oJ.out _ _ _ (by omega) (by omega) (by omega) k5.2.2.1,oJ.out _ _ _ (by omega) (by omega) (by omega) k5.2.2.2⟩
  refine ac _ _ k6 ?_;clear ac K' aA nP Wj CM VM MJ VY hv6 k5;have L9:=zH k6;obtain⟨VS,hVS⟩:=Ki ((zI (zK p PL).1 N p.t.cases[x.1.1].inp word word.length).2);have pI:=zH hVS;rw[hVS] at Oc HV6 HN6 ⊢;clear hVS k6
  -- the execution
  refine zx rfl ?_;intro K' ac;go_simp;refine ac _ _ L9.out ?_;clear ac K';refine zx rfl ?_;intro K' ac;go_simp;obtain⟨Nl,S8,d7,hs7e,rl⟩:=zk w6 #[O U x.1.1,I A5 word.length c5,I A6 VS.length c6] 58;rw[S8];clear S8
  have k7:Nl.cell? ⟨w4.heap.size,9,Z⟩=J (.slice AE (zK p PL).2.length ke)/\Nl.cell? ⟨w4.heap.size+1+1+1,0,Z⟩=J (Al (J ⟨w4.heap.size+1+1,0,Z⟩))/\Nl.cell? ⟨w.heap.size,3,Z⟩=J (I (J ⟨bc,oc,Z⟩) p.t.cases.length kc)/\Nl.cell? ⟨bc,oc+x.1.1*3,Z⟩=J (I A0 p.t.cases[x.1.1].inp.length c0):=
   ⟨(rl.cell (p:=⟨w4.heap.size,9,Z⟩) (by show w4.heap.size<_;omega)).trans L9.out.1,(rl.cell (p:=⟨w4.heap.size+1+1+1,0,Z⟩) (by show w4.heap.size+1+1+1<_;omega)).trans L9.out.2.1,(rl.cell (p:=⟨w.heap.size,3,Z⟩) (by show w.heap.size<_;omega)).trans L9.out.2.2.1,(rl.cell (p:=⟨bc,_,Z⟩) (by show bc<_;omega)).trans L9.out.2.2.2⟩
  refine ac _ _ k7 ?_;clear ac K';refine zx rfl ?_;intro K' ac;rw[Li (by rfl)];have fI:=rD.out.outn cJ.out cj.out rB.out;have i8:=qI p PL;have aU:PL.length=pre.length:=by rw[<-UD.out];simp[ui]
  obtain⟨bz,aP,nA,cK⟩:=fI.1.below yc rl (Le _);refine jQ kXn_ok (.tmp 50) (.tmp 65) (by rfl) W9.heap.size (.slice AE (zK p PL).2.length ke) (zK p PL).2.length bz.flatten (by rfl) nA w6.heap.size #[O U x.1.1,I A5 word.length c5,I A6 VS.length c6] (by rfl) d7 rfl (by simp[Value.oneCell']) (by omega) (by omega) _ rfl ?_;intro g' cap w8 hr hg bL hlt8;clear i8 aU;have hX:=rD.out.lies (i:=x.1.1) (c2:=c5) (c3:=c6) cJ.out cj.out rB.out rl HL5.out Oc.out HV6.out HN6.out HCP5.out
  have hPW:zI (zK p PL).1 p.t.n.toNat (yt p x.1.1) word word.length=zI (zK p PL).1 N p.t.cases[x.1.1].inp word word.length:=by
   rw[HINP.out,show p.t.n.toNat=N by have:=ff.out;omega]
  have hd7:BdIn w4.heap.size (w4.heap.size+1+1) (w4.heap.size+1) p.t.n (I AV6 VV.length VJ) (zI (zK p PL).1 p.t.n.toNat (yt p x.1.1) word word.length).1 w6:=by
   rw[hPW,Hc.out,ff.out];exact tF.out
  have hX7:JN.lies (fun k=>(W9.heap.size<=k/\(I AV6 VV.length VJ).ownBlock≠J k)/\(I AE (zK p PL).2.length ke).ownBlock≠J k) Nl [O U x.1.1,I A5 word.length c5,I A6 VS.length c6] ⟨x.1.1,word,(zI (zK p PL).1 p.t.n.toNat (yt p x.1.1) word word.length).2⟩:=by rw[hPW,pI.out];exact hX
  have pL:=rD.out.next (x:=(x.1.1,word)) cJ.out cj.out rB.out rl hd7 (fun E'=>by rw[tz.out];rfl) aP cK hX7 hr hg bL;have pL:=zH pL;have EZ:=rD.out.out.lt
  have k8:∀(k o:Nat) (u:Ax),k<W9.heap.size->Nl.cell? ⟨k,o,Z⟩=J u->w8.cell? ⟨k,o,Z⟩=J u:=fun k o u h3 hc=>
   (LH (hg.block k (by omega) fun e=>by have:=(EZ k e.symm).1;omega)).trans hc
  have CJ:=hg.size;have HP8:=zH (⟨k8 _ _ _ (by omega) k7.1,k8 _ _ _ (by omega) k7.2.1,k8 _ _ _ (by omega) k7.2.2.1,k8 _ _ _ (by omega) k7.2.2.2⟩:w8.cell? ⟨w4.heap.size,9,Z⟩=J (.slice AE (zK p PL).2.length ke)/\w8.cell? ⟨w4.heap.size+1+1+1,0,Z⟩=J (Al (J ⟨w4.heap.size+1+1,0,Z⟩))/\w8.cell? ⟨w.heap.size,3,Z⟩=J (I (J ⟨bc,oc,Z⟩) p.t.cases.length kc)/\w8.cell? ⟨bc,oc+x.1.1*3,Z⟩=J (I A0 p.t.cases[x.1.1].inp.length c0))
  have f8:w8.frozen? ⟨w4.heap.size,9,Z⟩=AC:=by
   have z:=pL.out.1.sys;have z2:=zi z 9;rwa[World.frozen?_setCell] at z2
  refine ac _ _ HP8.out ?_;clear ac K' hr hg bL hX hX7 aP nA cK fI k7 k8 hd7 hPW;refine zx rfl ?_;intro K' ac;go_simp;refine ac _ _ HP8.out ?_;clear ac K';have e9:=HP8.out.1;refine xg rfl (by kernel_rfl) ?_;intro K' ac;go_simp;refine ac (fun _=>True) _ _ trivial ?_;refine zO ?_;clear ac K' e9 f8
  try dsimp only
  obtain⟨WF,ft⟩:=Ki (w8.setCell ⟨w4.heap.size,9,Z⟩ (I (J ⟨g',0,Z⟩) ((zK p PL).2.length+1) cap));rw[ft] at pL ⊢;clear ft;have pE:=pL.out.1;have a8:WF.cell? ⟨w4.heap.size+1+1+1,0,Z⟩=J (Al (J ⟨w4.heap.size+1+1,0,Z⟩)):=zh ((pE.same cJ.out (by omega) (by omega) (by omega) (by omega)).trans WU.out) 0 rfl;have b8:WF.cell? ⟨w4.heap.size+1+1,1,Z⟩=J (I AV6 VV.length VJ):=zh pE.bd.hB 1 rfl;have hng:¬(8192:Int)<(VV.length:Int):=by omega
  clear pE;gi_wp2_with fail;have pE:=pL.out;rw[tO] at pE;refine⟨pE.2.1,pE.2.2.keep fun k hk hs hr=>?_,⟨I AV6 VV.length VJ,I (J ⟨g',0,Z⟩) ((zK p PL).2.length+1) cap,?_⟩⟩
  . have:=oW.size
    rcases hs with hs | hs | hs<;>rcases hr with e | e | e | e<;>omega
  rw[LM,List.map_singleton,prsW_snoc,UD.out,HGD.out];exact pE.1
 case done=>
  rintro D ys X hD nI ⟨V,E,hI⟩ mi;rw[nI,Qk p K pd.out] at hI;obtain⟨AV,kv,rfl⟩:=hI.bd.own.lit;obtain⟨AE,ke,rfl,hke1,hke2,_⟩:=hI.out.form yc;have rD:=zH hI;have oW:=Mk.out;have ri:=hI.bel cJ.out;have hD9:=hI.big cJ.out;have Di:=zH mi;have hDX:D<X.heap.size:=zj mi;have e8:X.cell? ⟨w4.heap.size+1+1+1,0,Z⟩=J (Al (J ⟨w4.heap.size+1+1,0,Z⟩)):=zh ((hI.same cJ.out (by omega) (by omega) (by omega) (by omega)).trans WU.out) 0 rfl;have Ia:=hI.sys;rw[tz.out] at Ia;have t7:X.cell? ⟨w4.heap.size,7,Z⟩=J (O U 0):=zh Ia 7 rfl;have t8:X.cell? ⟨w4.heap.size,8,Z⟩=J (I Z 0 0):=zh Ia 8 rfl;have u7:=zi Ia 7;have u8:=zi Ia 8;have ip:=zH Ia;have aV:=zH ri;have aT:=hI.bd.hB;have N1X:=(ri.block (w.heap.size+1) (by omega)).trans (Lb oW (by omega) D14.out);have N2X:=(ri.block (w.heap.size+1+1) (by omega)).trans (Lb oW (by omega) D24.out);have De:=zH N1X;have Cn:=zH N2X;clear hI ri Ia mi nI H0 lh N1X N2X;go_wp2_with fail
  refine zw [(0,AA),(1,AA),(2,AA),(3,AA),(4,AA),(5,AA),(6,AA),(7,AA),(8,AC),(9,AC),(10,AC)]
   (fun W=>W.cell? ⟨w4.heap.size+1+1+1,0,Z⟩=J (Al (J ⟨w4.heap.size+1+1,0,Z⟩))/\W.heap[w4.heap.size+1+1]?=J (Ai #[O U p.t.n,.slice AV (zK p (zD p)).1.length kv,.map (J (w4.heap.size+1))] 148 (0,0)))
   (by kernel_rfl) (by kernel_rfl) ⟨e8,aT⟩ ?_
  clear e8 aT
  repeat
   apply zA rfl
   . rintro K' ac W ⟨y0,y1⟩
     have z0:W.cell? ⟨w4.heap.size+1+1,0,Z⟩=J (O U p.t.n):=zh y1 0 rfl;have z1:W.cell? ⟨w4.heap.size+1+1,1,Z⟩=J (.slice AV (zK p (zD p)).1.length kv):=zh y1 1 rfl;clear y1;go_simp;exact ac
  have e8:X.cell? ⟨w4.heap.size+1+1+1,0,Z⟩=J (Al (J ⟨w4.heap.size+1+1,0,Z⟩)):=zh ((rD.out.same cJ.out (by omega) (by omega) (by omega) (by omega)).trans WU.out) 0 rfl;refine zx rfl ?_;intro K' ac;go_simp;refine ac _ _ ⟨e8,rD.out.bd.hB⟩ ?_;clear ac K';refine zx rfl ?_;intro K' ac;go_simp;refine ac _ _ ⟨e8,rD.out.bd.hB⟩ ?_;clear ac K';refine xg rfl (by kernel_rfl) ?_;intro K' ac;go_simp;refine ac (fun _=>True) _ _ trivial ?_;refine zO ?_;clear ac K' e8 t7 t8 u7 u8;obtain⟨W7,rj⟩:=Ki (((X.setCell ⟨w4.heap.size,7,Z⟩ (O U p.t.n)).setCell ⟨w4.heap.size,8,Z⟩ (.slice AV (zK p (zD p)).1.length kv)).drew)
  have nt:W7.heap[w4.heap.size]?=J (Ai #[O U p.t.n,O U p.t.ins,O U p.t.outs,I A4 p.t.cases.length CH,O U p.a.n,I C8 p.a.sts.length CG,O U p.k,O U p.t.n,.slice AV (zK p (zD p)).1.length kv,.slice AE (zK p (zD p)).2.length ke] 35 (0,0)):=by
   rw[<-rj];have q1:(X.setCell ⟨w4.heap.size,7,Z⟩ (O U p.t.n)).heap[w4.heap.size]?=J (Ai #[O U p.t.n,O U p.t.ins,O U p.t.outs,I A4 p.t.cases.length CH,O U p.a.n,I C8 p.a.sts.length CG,O U p.k,O U p.t.n,I Z 0 0,.slice AE (zK p (zD p)).2.length ke] 35 (0,0)):=Lq X w4.heap.size 7 _ _ _ ip.out;exact Lq _ w4.heap.size 8 _ _ _ q1
  have EE:∀k,k≠w4.heap.size->W7.heap[k]?=X.heap[k]?:=fun k hk=>by
   rw[<-rj];exact(Lh _ ⟨w4.heap.size,8,Z⟩ _ k hk).trans (Lh _ ⟨w4.heap.size,7,Z⟩ _ k hk)
  have fT:Ar w.heap.size w W7:=by
   rw[<-rj];exact(((B4.out.trans ((oW.trans aV.out).mono (by omega))).setCell (p:=⟨w4.heap.size,7,Z⟩) (by show w.heap.size<=w4.heap.size;omega) _).setCell (p:=⟨w4.heap.size,8,Z⟩) (by show w.heap.size<=w4.heap.size;omega) _).drew
  have hz7:W7.heap.size=X.heap.size:=by rw[<-rj];show(World.setCell _ _ _).heap.size=_;simp
  have mF:=(EE (w.heap.size+1) (by omega)).trans De.out;have WO:=(EE (w.heap.size+1+1) (by omega)).trans Cn.out;have s0:W7.cell? ⟨w4.heap.size,0,Z⟩=J (O U p.t.n):=zh nt 0 rfl;have s1:W7.cell? ⟨w4.heap.size,1,Z⟩=J (O U p.t.ins):=zh nt 1 rfl;have s2:W7.cell? ⟨w4.heap.size,2,Z⟩=J (O U p.t.outs):=zh nt 2 rfl;have s3:W7.cell? ⟨w4.heap.size,3,Z⟩=J (I A4 p.t.cases.length CH):=zh nt 3 rfl;have s4:W7.cell? ⟨w4.heap.size,4,Z⟩=J (O U p.a.n):=zh nt 4 rfl;have s5:W7.cell? ⟨w4.heap.size,5,Z⟩=J (I C8 p.a.sts.length CG):=zh nt 5 rfl;have s6:W7.cell? ⟨w4.heap.size,6,Z⟩=J (O U p.k):=zh nt 6 rfl;have s7:W7.cell? ⟨w4.heap.size,7,Z⟩=J (O U p.t.n):=zh nt 7 rfl;have s8:W7.cell? ⟨w4.heap.size,8,Z⟩=J (.slice AV (zK p (zD p)).1.length kv):=zh nt 8 rfl;have s9:W7.cell? ⟨w4.heap.size,9,Z⟩=J (.slice AE (zK p (zD p)).2.length ke):=zh nt 9 rfl;have n0:W7.cell? ⟨w.heap.size+1,0,Z⟩=J (O U 0):=zh mF 0 rfl;have m0:=zi mF 0;have n1:W7.cell? ⟨w.heap.size+1,1,Z⟩=J (O U 0):=zh mF 1 rfl;have m1:=zi mF 1;have n2:W7.cell? ⟨w.heap.size+1,2,Z⟩=J (O U 0):=zh mF 2 rfl;have m2:=zi mF 2;have n3:W7.cell? ⟨w.heap.size+1,3,Z⟩=J (I Z 0 0):=zh mF 3 rfl;have m3:=zi mF 3;have n4:W7.cell? ⟨w.heap.size+1,4,Z⟩=J (O U 0):=zh mF 4 rfl;have m4:=zi mF 4;have n5:W7.cell? ⟨w.heap.size+1,5,Z⟩=J (I Z 0 0):=zh mF 5 rfl
  have m5:=zi mF 5;have n6:W7.cell? ⟨w.heap.size+1,6,Z⟩=J (O U 0):=zh mF 6 rfl;have m6:=zi mF 6;have n7:W7.cell? ⟨w.heap.size+1,7,Z⟩=J (O U 0):=zh mF 7 rfl;have m7:=zi mF 7;have n8:W7.cell? ⟨w.heap.size+1,8,Z⟩=J (I Z 0 0):=zh mF 8 rfl;have m8:=zi mF 8;have n9:W7.cell? ⟨w.heap.size+1,9,Z⟩=J (I Z 0 0):=zh mF 9 rfl;have m9:=zi mF 9;have n10:W7.cell? ⟨w.heap.size+1+1,0,Z⟩=J (O U 0):=zh WO 0 rfl;have m10:=zi WO 0;have sS:=zH EE;have pQ:=zH fT;have HN17:=zH mF;have HN27:=zH WO;rw[rj];clear rj EE fT mF WO nt;go_wp2_with fail;obtain⟨k1,k2,k3,k4,k5⟩:=vU (O U p.t.n) (O U p.t.ins) (O U p.t.outs) (I A4 p.t.cases.length CH) (O U p.a.n) (I C8 p.a.sts.length CG) (O U p.k) (O U p.t.n) (.slice AV (zK p (zD p)).1.length kv) (.slice AE (zK p (zD p)).2.length ke) (O U 0) HN17.out HN27.out (by omega) pQ.out (by omega:w.heap.size<=w.heap.size+1) (by omega:w.heap.size<=w.heap.size+1+1)
  obtain⟨WF,ft⟩:=Ki ((((((((((((W7.setCell ⟨w.heap.size+1,0,Z⟩ (O U p.t.n)).setCell ⟨w.heap.size+1,1,Z⟩ (O U p.t.ins)).setCell ⟨w.heap.size+1,2,Z⟩ (O U p.t.outs)).setCell ⟨w.heap.size+1,3,Z⟩ (I A4 p.t.cases.length CH)).setCell ⟨w.heap.size+1,4,Z⟩ (O U p.a.n)).setCell ⟨w.heap.size+1,5,Z⟩ (I C8 p.a.sts.length CG)).setCell ⟨w.heap.size+1,6,Z⟩ (O U p.k)).setCell ⟨w.heap.size+1,7,Z⟩ (O U p.t.n)).setCell ⟨w.heap.size+1,8,Z⟩ (.slice AV (zK p (zD p)).1.length kv)).setCell ⟨w.heap.size+1,9,Z⟩ (.slice AE (zK p (zD p)).2.length ke)).setCell ⟨w.heap.size+1+1,0,Z⟩ (O U 0)));rw[ft] at k1 k2 k3 k4 k5 ⊢;clear ft;have aO:∀k,k≠w4.heap.size->k≠w.heap.size+1->k≠w.heap.size+1+1->WF.heap[k]?=X.heap[k]?:=fun k a b c=>(k5 k b c).trans (sS.out k a)
  have hsf:WF.heap.size=X.heap.size:=k4.trans hz7;have hDf:WF.heap[D]?=J (.deferred (J [])):=(aO D (by omega) (by omega) (by omega)).trans Di.out
  have DJ:∀k,k<w4.heap.size->k≠w.heap.size+1->k≠w.heap.size+1+1->WF.heap[k]?=w4.heap[k]?:=fun k a b c=>
   (aO k (by omega) b c).trans ((aV.out.block k a).trans (oW.block k a))
  have Ex:w4.heap.size<=WF.heap.size:=by omega
  have RA:RowX cCs (fun b=>((L0<=b/\b<B0)\/w3.heap.size<=b)/\b<w4.heap.size) WF g4 p.t.cases:=(Mn.out.mono qM fun b hb hs=>⟨hs,hb⟩).keep qM ⟨Ex,fun k hk _=>DJ k hk.1.2 (by have:=hk.1.1;omega) (by have:=hk.1.1;omega)⟩ (DJ g4 Mn.out.lt (by omega) (by omega));have RS:RowX cMl (fun b=>((L0<=b/\b<B0)\/w3.heap.size<=b)/\b<w4.heap.size) WF WG p.a.sts:=(Db.out.mono jg fun b hb hs=>⟨hs,hb⟩).keep jg ⟨Ex,fun k hk _=>DJ k hk.1.2 (by have:=hk.1.1;omega) (by have:=hk.1.1;omega)⟩ (DJ WG Db.out.lt (by omega) (by omega))
  have RV:OwnV WF w4.heap.size (.slice AV (zK p (zD p)).1.length kv) (zK p (zD p)).1:=rD.out.bd.own.of_same fun k hk=>by
   have:=(rD.out.no k hk).1;exact aO k (by omega) (by omega) (by omega)
  have RX:OwnX JN (fun k=>W9.heap.size<=k/\(I AV (zK p (zD p)).1.length kv).ownBlock≠J k) WF W9.heap.size (.slice AE (zK p (zD p)).2.length ke) (zK p (zD p)).2:=
   rD.out.out.keep yc ⟨by omega,fun k hk _=>aO k (by have:=hk.1;omega) (by have:=hk.1;omega) (by have:=hk.1;omega)⟩ fun k hk=>by
    have:=(rD.out.out.lt k hk).1;exact aO k (by omega) (by omega) (by omega)
  have DD:(zD p).length<=60:=by
   have h1:=congrArg List.length (Qk p K pd.out);rw[ui,LJ,vr,xe] at h1;have:=UR.out;rw[<-h1,Pv];omega
  have nS:=Ys p (by have:=ff.out;omega) (zD p) (fun y hy=>by
   unfold zD at hy;obtain⟨d,_,hy⟩:=NJ.1 hy;obtain⟨w',lX,rfl⟩:=LZ.1 hy;show w'.length<=6;rw[xW p.a _ 0 w' lX,pd.out]
   exact Ts)
  refine xK (B:=W9.heap.size) (vy (by omega) hDf) ?_;intro W hX;have c0:W.cell? ⟨w.heap.size+1,0,Z⟩=J (O U p.t.n):=hX.cell (zh k1 0 rfl);have c1:W.cell? ⟨w.heap.size+1,1,Z⟩=J (O U p.t.ins):=hX.cell (zh k1 1 rfl);have c2:W.cell? ⟨w.heap.size+1,2,Z⟩=J (O U p.t.outs):=hX.cell (zh k1 2 rfl);have c3:W.cell? ⟨w.heap.size+1,3,Z⟩=J (I A4 p.t.cases.length CH):=hX.cell (zh k1 3 rfl);have c4:W.cell? ⟨w.heap.size+1,4,Z⟩=J (O U p.a.n):=hX.cell (zh k1 4 rfl);have c5:W.cell? ⟨w.heap.size+1,5,Z⟩=J (I C8 p.a.sts.length CG):=hX.cell (zh k1 5 rfl);have c6:W.cell? ⟨w.heap.size+1,6,Z⟩=J (O U p.k):=hX.cell (zh k1 6 rfl);have c7:W.cell? ⟨w.heap.size+1,7,Z⟩=J (O U p.t.n):=hX.cell (zh k1 7 rfl);have c8:W.cell? ⟨w.heap.size+1,8,Z⟩=J (.slice AV (zK p (zD p)).1.length kv):=hX.cell (zh k1 8 rfl);have c9:W.cell? ⟨w.heap.size+1,9,Z⟩=J (.slice AE (zK p (zD p)).2.length ke):=hX.cell (zh k1 9 rfl);have Ko:W.cell? ⟨w.heap.size+1+1,0,Z⟩=J (O U 0):=hX.cell (zh k2 0 rfl);have Wr:=hX.below.size;obtain⟨AV',kv',eV,Wt⟩:=(show OwnV W w4.heap.size _ _ from hX.own RV).form (by omega)
  cases eV
  obtain⟨AE',ke',eE,_,_,MU,_⟩:=uf (RX.turn yc Wr hX.same)
  cases eE
  refine⟨.tuple #[Ak #[O U p.t.n,O U p.t.ins,O U p.t.outs,I A4 p.t.cases.length CH,O U p.a.n,I C8 p.a.sts.length CG,O U p.k,O U p.t.n,.slice AV (zK p (zD p)).1.length kv,.slice AE (zK p (zD p)).2.length ke],O U 0],by simp[results,results48,go_sem,c0,c1,c2,c3,c4,c5,c6,c7,c8,c9,Ko],?_⟩;rw[HB.out];refine⟨A4,CH,C8,CG,AV,kv,AE,ke,rfl,fun W' hzW oN=>⟨?_,?_,?_,?_⟩,Wt.lec,Wt.lem,k3.trans (hX.below.mono (by omega))⟩
  . rw[HA4e.out]
    have R:=RA.turnC qM Wr hX.same;have tm:=Mn.out.lt;exact(R.keep qM ⟨hzW,fun k hk hl=>oN k (by have:=hk.1.1;omega) hl⟩ (oN g4 (by omega) (by omega))).cat
  . rw[HS4e.out]
    have R:=RS.turnC jg Wr hX.same;have tm:=Db.out.lt;exact(R.keep jg ⟨hzW,fun k hk hl=>oN k (by have:=hk.1.1;omega) hl⟩ (oN WG (by omega) (by omega))).sat
  . have RV2:=(show OwnV W w4.heap.size _ _ from hX.own RV)
    obtain⟨AV',kv',eV,Wt⟩:=(RV2.of_same (w':=W') fun k hk=>oN k (.inr (by have:=(OwnV.lt RV2 k hk).1;omega)) (OwnV.lt RV2 k hk).2).form (by omega)
    cases eV
    exact Wt.rows
  have RX2:=RX.turn yc Wr hX.same;obtain⟨AE',ke',eE,_,_,MU,_⟩:=uf (RX2.keep (w':=W') yc ⟨hzW,fun k hk hl=>oN k (.inr (by have:=hk.1;omega)) hl⟩ fun k hk=>oN k (.inr (by have:=(RX2.lt k hk).1;omega)) (RX2.lt k hk).2)
  cases eE
  exact MU
 intro D c pre W _ _ h;exact h.elim
theorem buildF_any(p:Pb)(hf:xz p)(A:Bb)(kc:Nat)(SV:Bb)(ks:Nat)(w:Ba)(B0:Nat)(ce:B0<=w.heap.size)(Km:CAt w B0 A p.t.cases)(IS:SAt w B0 SV p.a.sts) :
  As Aq 48 #[.agg (p.vs A kc SV ks)] w (RetSysF 0 B0 (yj p) w):=
 buildL_any p hf A kc SV ks w 0 B0 ce Km IS (CAtL.of Km ce) (SAtL.of IS ce)
theorem build_any(p:Pb)(hf:xz p)(A:Bb)(kc:Nat)(SV:Bb)(ks:Nat)(w:Ba)(hA:CAt w w.heap.size A p.t.cases)(hS:SAt w w.heap.size SV p.a.sts) :
  As Aq 48 #[.agg (p.vs A kc SV ks)] w (RetSys (yj p) w):=
 (buildF_any p hf A kc SV ks w w.heap.size (Le _) hA hS).mono fun _ _ h=>h.sys
end
section
open Go.RowKit
attribute [local go_sem] Oper.semAt_some
def hq(f:Nat->Int)(k j:Nat):Int:=if j<k then f j else 0
def vq(p r i:Int)(f:Nat->Int)(k:Nat):Array Ax:=#[O U p,O U r,O U i,O U (hq f k 0),O U (hq f k 1),O U (hq f k 2),O U (hq f k 3),O U (hq f k 4)]
theorem vq_set(p r i:Int)(f:Nat->Int)(k:Nat)(hk:k<5):(vq p r i f k).setIfInBounds (3+k) (O U (f k))=vq p r i f (k+1):=by
 match k,hk with
 | 0,_=>rfl
 | 1,_=>rfl
 | 2,_=>rfl
 | 3,_=>rfl
 | 4,_=>rfl
theorem vq_set2(p r i:Int)(f:Nat->Int)(k:Nat)(hk:k<5)(u:Ax):((vq p r i f k).setIfInBounds (3+k) u).setIfInBounds (3+k) (O U (f k))=vq p r i f (k+1):=by
 match k,hk with
 | 0,_=>rfl
 | 1,_=>rfl
 | 2,_=>rfl
 | 3,_=>rfl
 | 4,_=>rfl
theorem vq_at(p r i:Int)(f:Nat->Int)(k:Nat)(hk:k<5):(vq p r i f k)[3+k]?=J (O U 0):=by
 match k,hk with
 | 0,_=>rfl
 | 1,_=>rfl
 | 2,_=>rfl
 | 3,_=>rfl
 | 4,_=>rfl
theorem first_any(p:Nat)(i:Int)(w:Ba):As Aq 126 #[O U (p:Int),O U i] w fun e w'=>e=Am (.agg (xr p i).cells)/\Ar w.heap.size w w':=by
 obtain⟨w1,ab,d0,d1,aK,hB⟩:=yV w (#[O U 0,O U 0,O U 0,O U 0,O U 0,O U 0,O U 0,O U 0]) (vq p 0 i (fun _=>-1) 0) 111 111;have ai:=zH ab;go_enter func126,ntmps126;go_wp2_with fail;rw[show((w.alloc (Ai #[O U 0,O U 0,O U 0,O U 0,O U 0,O U 0,O U 0,O U 0] 111)).alloc (Ai #[O U p,O U 0,O U i,O U 0,O U 0,O U 0,O U 0,O U 0] 111))=w1 from ai.out];have H0:=zH d0;have H1:=zH d1;have HB:=zH hB
 go_loopw [6] (fun j wr=>∃k:Nat,k<=5/\j=O U (k:Int)/\Aw (wr.heap[w.heap.size]?=J (Ai #[O U 0,O U 0,O U 0,O U 0,O U 0,O U 0,O U 0,O U 0] 111 (0,0)))/\Aw (wr.heap[w.heap.size+1]?=J (Ai (vq p 0 i (fun _=>-1) k) 111 (0,0)))/\Aw (Ar w.heap.size w wr)) (fun j _=>5-(Au j).toNat)
 case atStart=>exact⟨0,by omega,rfl,H0.out,H1.out,HB.out⟩
 obtain⟨k,hk,rfl,H0,H1,CB⟩:=hrel
 by_cases p':k<5
 case neg=>
  obtain rfl:k=5:=by omega
  have x0:wr.cell? ⟨w.heap.size+1,0,Z⟩=J (O U p):=zh H1.out 0 rfl;have x1:wr.cell? ⟨w.heap.size+1,1,Z⟩=J (O U 0):=zh H1.out 1 rfl;have x2:wr.cell? ⟨w.heap.size+1,2,Z⟩=J (O U i):=zh H1.out 2 rfl;have x3:wr.cell? ⟨w.heap.size+1,3,Z⟩=J (O U (-1)):=zh H1.out 3 rfl;have x4:wr.cell? ⟨w.heap.size+1,4,Z⟩=J (O U (-1)):=zh H1.out 4 rfl;have x5:wr.cell? ⟨w.heap.size+1,5,Z⟩=J (O U (-1)):=zh H1.out 5 rfl;have x6:wr.cell? ⟨w.heap.size+1,6,Z⟩=J (O U (-1)):=zh H1.out 6 rfl;have x7:wr.cell? ⟨w.heap.size+1,7,Z⟩=J (O U (-1)):=zh H1.out 7 rfl;have y0:wr.cell? ⟨w.heap.size,0,Z⟩=J (O U 0):=zh H0.out 0 rfl;have y1:wr.cell? ⟨w.heap.size,1,Z⟩=J (O U 0):=zh H0.out 1 rfl;have y2:wr.cell? ⟨w.heap.size,2,Z⟩=J (O U 0):=zh H0.out 2 rfl;have y3:wr.cell? ⟨w.heap.size,3,Z⟩=J (O U 0):=zh H0.out 3 rfl;have y4:wr.cell? ⟨w.heap.size,4,Z⟩=J (O U 0):=zh H0.out 4 rfl;have y5:wr.cell? ⟨w.heap.size,5,Z⟩=J (O U 0):=zh H0.out 5 rfl;have y6:wr.cell? ⟨w.heap.size,6,Z⟩=J (O U 0):=zh H0.out 6 rfl;have y7:wr.cell? ⟨w.heap.size,7,Z⟩=J (O U 0):=zh H0.out 7 rfl;have f0:=zi H0.out 0;have f1:=zi H0.out 1;have f2:=zi H0.out 2;have f3:=zi H0.out 3;have f4:=zi H0.out 4;have f5:=zi H0.out 5;have f6:=zi H0.out 6;have f7:=zi H0.out 7;go_wp2_with fail
  refine LG (v:=Ak #[O U p,O U 0,O U i,O U (-1),O U (-1),O U (-1),O U (-1),O U (-1)]) (by simp[results,results126,go_sem,y0,y1,y2,y3,y4,y5,y6,y7]) rfl ⟨rfl,?_⟩;exact(((((((CB.out.setCell (Le _) _).setCell (Le _) _).setCell (Le _) _).setCell (Le _) _).setCell (Le _) _).setCell (Le _) _).setCell (Le _) _).setCell (Le _) _
 have x0:=zh H1.out (3+k) (vq_at _ _ _ _ k p');have f0:=zi H1.out (3+k);have dh:(0:Int)<=(k:Int):=by omega
 have aW:(k:Int)<5:=by omega
 go_wp2_with fail
 go_roundw
 case rel=>exact⟨k+1,by omega,by go_num,(Lh wr _ _ w.heap.size (by show w.heap.size≠w.heap.size+1;omega)).trans H0.out,by show _=_;rw[Lq wr _ (3+k) _ _ _ H1.out,vq_set _ _ _ (fun _=>-1) k p'],CB.out.setCell (by show w.heap.size<=w.heap.size+1;omega) _⟩
 simp[Au];omega
theorem seen_any(r:Rd)(K p:Nat)(hp:p<5)(hs:0<=r.h p/\r.h p<32)(A:Bb)(ca:Nat)(row:List Int)(hn:r.n=(row.length:Int))(_h5:row.length<=5)(w:Ba)(hI:IAt w w.heap.size A row) :
  As Aq 127 #[.agg r.gcells,O U (K:Int),O U (p:Int),I A row.length ca] w fun e w'=>e=Am (.agg (qy r K p row).cells)/\Ar w.heap.size w w':=by
 obtain⟨s,Dx⟩:∃s:Nat,r.h p=(s:Int):=⟨(r.h p).toNat,by omega⟩;have hs32:s<32:=by omega
 have HH:=zH (fun q hq w=>jZ s q hs32 hq w);have HSR:=zH Dx;have HN:=zH hn;clear hn Dx hs;obtain⟨w1,ab,g0,d0,d1,aK,hB⟩:=jT w r.gcells #[O U 0,O U 0,O U 0,O U 0,O U 0,O U 0,O U 0,O U 0] (vq p K 0 (yo r p row) 0) 90 111 111;have ai:=zH ab;go_enter func127,ntmps127;unfold Rd.gcells;go_wp2_with fail;rw[show(((w.alloc (Ai #[O U r.n,O U r.h0,O U r.h1,O U r.h2,O U r.h3,O U r.h4] 90)).alloc (Ai #[O U 0,O U 0,O U 0,O U 0,O U 0,O U 0,O U 0,O U 0] 111)).alloc (Ai #[O U p,O U K,O U 0,O U 0,O U 0,O U 0,O U 0,O U 0] 111))=w1 from ai.out];have HG:=zH g0;have H0:=zH d0;have H1:=zH d1;have HB:=zH hB;have HI:=zH hI
 go_loopw [10] (fun j wr=>∃k:Nat,k<=5/\j=O U (k:Int)/\Aw (wr.heap[w.heap.size]?=J (Ai r.gcells 90 (0,0)))/\Aw (wr.heap[w.heap.size+1]?=J (Ai #[O U 0,O U 0,O U 0,O U 0,O U 0,O U 0,O U 0,O U 0] 111 (0,0)))/\Aw (wr.heap[w.heap.size+1+1]?=J (Ai (vq p K 0 (yo r p row) k) 111 (0,0)))/\Aw (Ar w.heap.size w wr)) (fun j _=>5-(Au j).toNat)
 case atStart=>exact⟨0,by omega,rfl,HG.out,H0.out,H1.out,HB.out⟩
 obtain⟨k,hk,rfl,HG,H0,H1,CB⟩:=hrel
 by_cases p':k<5
 case neg=>
  obtain rfl:k=5:=by omega
  have x0:wr.cell? ⟨w.heap.size+1+1,0,Z⟩=J (O U p):=zh H1.out 0 rfl;have x1:wr.cell? ⟨w.heap.size+1+1,1,Z⟩=J (O U K):=zh H1.out 1 rfl;have x2:wr.cell? ⟨w.heap.size+1+1,2,Z⟩=J (O U 0):=zh H1.out 2 rfl;have x3:wr.cell? ⟨w.heap.size+1+1,3,Z⟩=J (O U (yo r p row 0)):=zh H1.out 3 rfl;have x4:wr.cell? ⟨w.heap.size+1+1,4,Z⟩=J (O U (yo r p row 1)):=zh H1.out 4 rfl;have x5:wr.cell? ⟨w.heap.size+1+1,5,Z⟩=J (O U (yo r p row 2)):=zh H1.out 5 rfl;have x6:wr.cell? ⟨w.heap.size+1+1,6,Z⟩=J (O U (yo r p row 3)):=zh H1.out 6 rfl;have x7:wr.cell? ⟨w.heap.size+1+1,7,Z⟩=J (O U (yo r p row 4)):=zh H1.out 7 rfl;have y0:wr.cell? ⟨w.heap.size+1,0,Z⟩=J (O U 0):=zh H0.out 0 rfl;have y1:wr.cell? ⟨w.heap.size+1,1,Z⟩=J (O U 0):=zh H0.out 1 rfl;have y2:wr.cell? ⟨w.heap.size+1,2,Z⟩=J (O U 0):=zh H0.out 2 rfl;have y3:wr.cell? ⟨w.heap.size+1,3,Z⟩=J (O U 0):=zh H0.out 3 rfl;have y4:wr.cell? ⟨w.heap.size+1,4,Z⟩=J (O U 0):=zh H0.out 4 rfl;have y5:wr.cell? ⟨w.heap.size+1,5,Z⟩=J (O U 0):=zh H0.out 5 rfl;have y6:wr.cell? ⟨w.heap.size+1,6,Z⟩=J (O U 0):=zh H0.out 6 rfl;have y7:wr.cell? ⟨w.heap.size+1,7,Z⟩=J (O U 0):=zh H0.out 7 rfl;have f0:=zi H0.out 0;have f1:=zi H0.out 1;have f2:=zi H0.out 2;have f3:=zi H0.out 3;have f4:=zi H0.out 4;have f5:=zi H0.out 5;have f6:=zi H0.out 6;have f7:=zi H0.out 7;go_wp2_with fail
  refine LG (v:=.agg (qy r K p row).cells) (by unfold qy Vw.cells;simp[results,results127,go_sem,y0,y1,y2,y3,y4,y5,y6,y7]) rfl ⟨rfl,?_⟩;exact((((((((CB.out.setCell (by show w.heap.size<=w.heap.size+1;omega) _).setCell (by show w.heap.size<=w.heap.size+1;omega) _).setCell (by show w.heap.size<=w.heap.size+1;omega) _).setCell (by show w.heap.size<=w.heap.size+1;omega) _).setCell (by show w.heap.size<=w.heap.size+1;omega) _).setCell (by show w.heap.size<=w.heap.size+1;omega) _).setCell (by show w.heap.size<=w.heap.size+1;omega) _).setCell (by show w.heap.size<=w.heap.size+1;omega) _)
 have x0:=zh H1.out (3+k) (vq_at _ _ _ _ k p');have f0:=zi H1.out (3+k);have g0:wr.cell? ⟨w.heap.size,0,Z⟩=J (O U (row.length:Int)):=by rw[<-HN.out];exact zh HG.out 0 rfl
 have gp:wr.cell? ⟨w.heap.size,1+p,Z⟩=J (O U (s:Int)):=by
  rw[<-HSR.out]
  match p,hp with
  | 0,_=>exact zh HG.out 1 rfl
  | 1,_=>exact zh HG.out 2 rfl
  | 2,_=>exact zh HG.out 3 rfl
  | 3,_=>exact zh HG.out 4 rfl
  | 4,_=>exact zh HG.out 5 rfl
 have dh:(0:Int)<=(k:Int):=by omega
 have aW:(k:Int)<5:=by omega
 have fj:(0:Int)<=(p:Int):=by omega
 have hp1:(p:Int)<5:=by omega
 have HS:Aw ((wr.setCell ⟨w.heap.size+1+1,3+k,Z⟩ (O U (-1))).heap[w.heap.size+1+1]?=J (Ai ((vq p K 0 (yo r p row) k).setIfInBounds (3+k) (O U (-1))) 111 (0,0))):=Lq wr _ (3+k) _ _ _ H1.out
 by_cases hq:k<row.length
 case neg=>
  have hE:Aw (yo r p row k=-1):=by unfold yo;exact Lg (fun h=>hq h.1)
  have pW:¬((k:Int)<(row.length:Int)):=by omega
  go_wp2_with fail
  go_roundw
  case rel=>exact⟨k+1,by omega,by go_num,((Lh wr _ _ w.heap.size (by show w.heap.size≠w.heap.size+1+1;omega)).trans HG.out),((Lh wr _ _ (w.heap.size+1) (by show w.heap.size+1≠w.heap.size+1+1;omega)).trans H0.out),(HS.out.trans (by have e:=vq_set p K 0 (yo r p row) k p';rw[hE.out] at e;rw[e])),(CB.out.setCell (by show w.heap.size<=w.heap.size+1+1;omega) _)⟩
  simp[Au];omega
 have pW:((k:Int)<(row.length:Int)):=by omega
 by_cases hb:s.testBit k=AA
 case neg=>
  have hE:Aw (yo r p row k=-1):=by unfold yo;exact Lg (fun h=>hb (by have h2:=h.2;rw[HSR.out] at h2;exact h2))
  go_wp2_with (go_at_call 118;refine(HH.out k p' _).mono ?_;rintro e w' ⟨rfl,lX⟩;obtain rfl:=lX.symm)
  go_roundw
  case rel=>exact⟨k+1,by omega,by go_num,((Lh wr _ _ w.heap.size (by show w.heap.size≠w.heap.size+1+1;omega)).trans HG.out),((Lh wr _ _ (w.heap.size+1) (by show w.heap.size+1≠w.heap.size+1+1;omega)).trans H0.out),(HS.out.trans (by have e:=vq_set p K 0 (yo r p row) k p';rw[hE.out] at e;rw[e])),(CB.out.setCell (by show w.heap.size<=w.heap.size+1+1;omega) _)⟩
  simp[Au];omega
 have hE:Aw (yo r p row k=row[k]):=by
  unfold yo;rw[Li ⟨hq,by rw[HSR.out];exact hb⟩,Lk,Ln hq];rfl
 have HX:=zH ((HI.out.keep CB.out).at_ k hq);obtain⟨ba,off,rfl,aa,hc⟩:=HX.out;have f1:=zi HS.out (3+k);go_wp2_with (go_at_call 118;refine(HH.out k p' _).mono ?_;rintro e w' ⟨rfl,lX⟩;obtain rfl:=lX.symm)
 go_roundw
 case rel=>exact⟨k+1,by omega,by go_num,((Lh _ _ _ w.heap.size (by show w.heap.size≠w.heap.size+1+1;omega)).trans ((Lh wr _ _ w.heap.size (by show w.heap.size≠w.heap.size+1+1;omega)).trans HG.out)),((Lh _ _ _ (w.heap.size+1) (by show w.heap.size+1≠w.heap.size+1+1;omega)).trans ((Lh wr _ _ (w.heap.size+1) (by show w.heap.size+1≠w.heap.size+1+1;omega)).trans H0.out)),(by show _=_;rw[Lq _ _ (3+k) _ _ _ HS.out,<-hE.out,vq_set2 _ _ _ (yo r p row) k p']),((CB.out.setCell (by show w.heap.size<=w.heap.size+1+1;omega) _).setCell (by show w.heap.size<=w.heap.size+1+1;omega) _)⟩
 simp[Au];omega
end
section
open Go.RowKit Go.Shelf
structure Bt(D bs:Nat)(SC:Ax->Ax->Array Ax)(WR:Ba)(vs:List Vw)(xs:List Exn)(V E:Ax)(X:Ba):Prop where
 wr:Wrote (fun k=>k=bs) WR X
 wd:WR.heap.size<=D
 big:D<=X.heap.size
 bsl:bs<D
 sys:X.heap[bs]?=J (Ai (SC V E) 35 (0,0))
 tb:OwnV X D V vs
 out:OwnX JN (fun k=>bs<k) X D E xs
 no:∀k,V.ownBlock=J k->E.ownBlock≠J k
structure Bq(D bs bx:Nat)(SC:Ax->Ax->Array Ax)(WR:Ba)(c:Int)(wv:Ax)(vs:List Vw)(xs:List Exn)(views:List (List Int))(row:List Int)(V E Y L:Ax)(X:Ba):Prop where
 wr:Wrote (fun k=>k=bs) WR X
 wd:WR.heap.size<=D
 big:D<=X.heap.size
 bsl:bs<D
 sys:X.heap[bs]?=J (Ai (SC V E) 35 (0,0))
 x:X.heap[bx]?=J (Ai #[O U c,wv,Y] 58 (0,0))
 hx:D<=bx
 tb:OwnV X D V vs
 out:OwnX JN (fun k=>bs<k/\k≠bx/\Y.ownBlock≠J k/\L.ownBlock≠J k) X D E xs
 vw:OwnX cIs (fun k=>D<=k/\k≠bx/\E.ownBlock≠J k/\L.ownBlock≠J k) X D Y views
 row:OwnR kIn X D L row.length (row.map (O U))
 nV:∀k,V.ownBlock=J k->k≠bx/\E.ownBlock≠J k/\Y.ownBlock≠J k/\L.ownBlock≠J k
 nE:∀k,E.ownBlock=J k->k≠bx/\Y.ownBlock≠J k/\L.ownBlock≠J k
 nY:∀k,Y.ownBlock=J k->k≠bx/\L.ownBlock≠J k
 nL:∀k,L.ownBlock=J k->k≠bx
section
variable {D bs bx:Nat} {SC:Ax->Ax->Array Ax} {WR X:Ba} {c:Int} {wv:Ax} {vs:List Vw} {xs:List Exn} {views:List (List Int)} {row:List Int} {V E Y L:Ax}
theorem OwnV.lt'{w:Ba}{base:Nat}{v:Ax}{vs:List Vw}(h:OwnV w base v vs):∀k,v.ownBlock=J k->base<=k/\k<w.heap.size:=RH h
theorem Bq.bxl(h:Bq D bs bx SC WR c wv vs xs views row V E Y L X):bx<X.heap.size:=(Lu.1 h.x).1
theorem Bt.on(h:Bt D bs SC WR vs xs V E X){X':Ba}(hb:Ar X.heap.size X X'):Bt D bs SC WR vs xs V E X':=
 ⟨h.wr.trans (Wrote.of_below (R:=fun _=>False) hb) (fun _ _ h=>h.elim),h.wd,by have:=hb.size;have:=h.big;omega,h.bsl,Lb hb (by have:=h.bsl;have:=h.big;omega) h.sys,
  h.tb.of_same fun k hk=>hb.block k (h.tb.lt' k hk).2,h.out.below yc hb (Le _),h.no⟩
theorem Bq.on(h:Bq D bs bx SC WR c wv vs xs views row V E Y L X){X':Ba}(hb:Ar X.heap.size X X'):Bq D bs bx SC WR c wv vs xs views row V E Y L X':=
 ⟨h.wr.trans (Wrote.of_below (R:=fun _=>False) hb) (fun _ _ h=>h.elim),h.wd,by have:=hb.size;have:=h.big;omega,h.bsl,Lb hb (by have:=h.bsl;have:=h.big;omega) h.sys,
  Lb hb h.bxl h.x,h.hx,h.tb.of_same fun k hk=>hb.block k (h.tb.lt' k hk).2,h.out.below yc hb (Le _),h.vw.below xx hb (Le _),h.row.below hb (Le _),h.nV,h.nE,h.nY,h.nL⟩
theorem Bt.start(h:Bt D bs SC WR vs xs V E X){X':Ba}(hb:Ar X.heap.size X X')(hx:X'.heap[X.heap.size]?=J (Ai #[O U c,wv,I Z 0 0] 58 (0,0))) :
  Bq D bs X.heap.size SC WR c wv vs xs [] [] V E (I Z 0 0) (I Z 0 0) X':=by
 have h':=h.on hb;refine⟨h'.wr,h'.wd,h'.big,h'.bsl,h'.sys,hx,h.big,h'.tb,?_,OwnX.nil _ _ _ _,OwnR.nil _ _ _,fun k hk=>?_,fun k hk=>?_,fun k hk=>?_,fun k hk=>?_⟩
 . refine OwnX.below yc (OwnX.mono yc h.out fun k hk hs=>⟨hs,by omega,?_,?_⟩) hb (Le _)
   . simp[Value.ownBlock]
   simp[Value.ownBlock]
 . have:=(h.tb.lt' k hk).2
   exact⟨by omega,h.no k hk,by simp[Value.ownBlock],by simp[Value.ownBlock]⟩
 . have:=(h.out.lt k hk).2
   exact⟨by omega,by simp[Value.ownBlock],by simp[Value.ownBlock]⟩
 . simp[Value.ownBlock] at hk
 simp[Value.ownBlock] at hk
theorem Bq.put(h:Bq D bs bx SC WR c wv vs xs views row V E Y L X){W:Ba}(hb:Ar X.heap.size X W){V' u:Ax}{Hp:List Vw}(hT:OwnV W D V' Hp)(hV:∀k,V'.ownBlock=J k->V.ownBlock=J k\/X.heap.size<=k)
  (h7:(SC V E).setIfInBounds 7 u=SC V E) (h8:(SC V E).setIfInBounds 8 V'=SC V' E) :
  Bq D bs bx SC WR c wv Hp xs views row V' E Y L ((W.setCell ⟨bs,7,Z⟩ u).setCell ⟨bs,8,Z⟩ V'):=by
 have h1:=h.on hb;have cA:=h.bsl;have bk:=h.hx;obtain⟨W',tt⟩:=Ki ((W.setCell ⟨bs,7,Z⟩ u).setCell ⟨bs,8,Z⟩ V')
 have hk:∀k,k≠bs->W'.heap[k]?=W.heap[k]?:=fun k hk=>by
  rw[<-tt];exact(Lh _ ⟨bs,8,Z⟩ _ k hk).trans (Lh _ ⟨bs,7,Z⟩ _ k hk)
 have hz:W'.heap.size=W.heap.size:=by rw[<-tt];simp
 have hs:W'.heap[bs]?=J (Ai (SC V' E) 35 (0,0)):=by
  rw[<-tt];have q:=Lq W bs 7 _ _ u h1.sys;rw[h7] at q;have q2:=Lq _ bs 8 _ _ V' q;rwa[h8] at q2
 have hw:Wrote (fun k=>k=bs) W W':=by
  rw[<-tt];exact⟨rfl,rfl,rfl,by simp,fun k _ hk=>(Lh _ ⟨bs,8,Z⟩ _ k hk).trans (Lh _ ⟨bs,7,Z⟩ _ k hk)⟩
 rw[tt];refine⟨h1.wr.trans hw (fun k _ e=>e),h.wd,by have:=h1.big;omega,h.bsl,hs,(hk _ (by omega)).trans h1.x,h.hx,hT.of_same fun k e=>hk k (by have:=(hT.lt' k e).1;omega),?_,?_,?_,fun k e=>?_,h.nE,h.nY,h.nL⟩
 . exact h1.out.keep yc ⟨by omega,fun k hs _=>hk k (by have:=hs.1;omega)⟩ fun k e=>hk k (by have:=(h1.out.lt k e).1;omega)
 . exact h1.vw.keep xx ⟨by omega,fun k hs _=>hk k (by have:=hs.1;omega)⟩ fun k e=>hk k (by have:=(h1.vw.lt k e).1;omega)
 . refine h1.row.kept (row:=J bs) ⟨hw.os,hw.tape,hw.output,hw.size,fun k _ hn=>hk k (fun e=>hn (by rw[e]))⟩ (Or.inr (h1.row.ne (by omega)))
 rcases hV k e with e | e
 . exact h.nV k e
 have aL:=h.bxl;exact⟨by omega,fun e2=>by have:=(h.out.lt k e2).2;omega,fun e2=>by have:=(h.vw.lt k e2).2;omega,fun e2=>by have:=(h.row.lt k e2).2;omega⟩
theorem XW(W:Ba)(b o:Nat)(u:Ax):Wrote (fun k=>k=b) W (W.setCell ⟨b,o,Z⟩ u):=⟨rfl,rfl,rfl,by simp,fun k _ hn=>Lh W ⟨b,o,Z⟩ u k hn⟩
theorem OwnX.aside{α:Type}{C:Ct α}(ok:CtOk C){S:Nat->Prop}{W w5:Ba}{v L:Ax}{xs:List α}{g' n cap:Nat}(h:OwnX C S W D v xs)(hS:∀k,S k->L.ownBlock≠J k)(hg:W.grownBy w5 L.ownBlock)(bj:∀k,v.ownBlock=J k->L.ownBlock≠J k)
  (bL:L.ownBlock=J g'\/g'=W.heap.size):OwnX C (fun k=>S k/\(I (J ⟨g',0,Z⟩) n cap).ownBlock≠J k) w5 D v xs:=by
 have h1:OwnX C (fun k=>S k/\(I (J ⟨g',0,Z⟩) n cap).ownBlock≠J k) W D v xs:=OwnX.mono ok h fun k hk hs=>⟨hs,fun e=>by
  have e2:g'=k:=by simpa[Value.ownBlock] using e
  rcases bL with e3 | e3
  . exact hS k hs (by rw[e3,e2])
  . omega⟩
 refine h1.kept ok hg ?_ fun k hk=>.inl fun hs=>hS k hs.1 hk
 cases hv:v.ownBlock with
 | none=>exact .inl rfl
 | some k=>exact .inr fun e=>bj k hv e.symm
theorem OwnV.aside{W w5:Ba}{v L:Ax}{vs:List Vw}(h:OwnV W D v vs)(hg:W.grownBy w5 L.ownBlock)(bj:∀k,v.ownBlock=J k->L.ownBlock≠J k):OwnV w5 D v vs:=
 h.of_same fun k hk=>hg.block k (h.lt' k hk).2 fun e=>bj k hk e.symm
theorem kn{L:Ax}{W:Ba}{g' n cap:Nat}{P:Nat->Prop}(bL:L.ownBlock=J g'\/g'=W.heap.size)(h1:∀k,L.ownBlock=J k->P k)(h2:P W.heap.size):∀k,(I (J ⟨g',0,Z⟩) n cap).ownBlock=J k->P k:=fun k e=>by
 have e2:g'=k:=by simpa[Value.ownBlock] using e
 subst e2;rcases bL with e3 | e3
 . exact h1 g' e3
 . rw[e3];exact h2
theorem Bq.push(h:Bq D bs bx SC WR c wv vs xs views row V E Y L X){W w5:Ba}(hb:Ar X.heap.size X W){i:Int}{g' cap:Nat}
  (hr:OwnR kIn w5 D (I (J ⟨g',0,Z⟩) (row.length+1) cap) (row.length+1) (row.map (O U)++[O U i])) (hg:W.grownBy w5 L.ownBlock) (bL:L.ownBlock=J g'\/g'=W.heap.size) :
  Bq D bs bx SC WR c wv vs xs views (row++[i]) V E Y (I (J ⟨g',0,Z⟩) (row.length+1) cap) w5:=by
 have h1:=h.on hb;have aU:=h1.row.lt;have cA:=h.bsl;have bk:=h.hx;have hbig:=h1.big;have MW:=h1.tb.lt';have EZ:=h1.out.lt;have hYl:=h1.vw.lt;have aL:=h1.bxl;have hgz:=hg.size;refine⟨h1.wr.trans (Wrote.of_grown (R:=fun k=>D<=k) hg (fun k e _=>(aU k e).1)) (fun k hk e=>by have:=h.wd;omega),h.wd,by omega,h.bsl,?_,?_,h.hx,h1.tb.aside hg fun k e=>(h.nV k e).2.2.2,?_,?_,by simpa using hr,fun k e=>?_,fun k e=>?_,fun k e=>?_,?_⟩
 . exact(hg.block bs (by omega) fun e=>by have:=(aU bs e.symm).1;omega).trans h1.sys
 . exact(hg.block bx aL fun e=>h.nL bx e.symm rfl).trans h1.x
 . exact OwnX.mono yc (h1.out.aside yc (n:=row.length+1) (cap:=cap) (fun k hs=>hs.2.2.2) hg (fun k e=>(h.nE k e).2.2) bL) fun k _ hs=>⟨hs.1.1,hs.1.2.1,hs.1.2.2.1,hs.2⟩
 . exact OwnX.mono xx (h1.vw.aside xx (n:=row.length+1) (cap:=cap) (fun k hs=>hs.2.2.2) hg (fun k e=>(h.nY k e).2) bL) fun k _ hs=>⟨hs.1.1,hs.1.2.1,hs.1.2.2.1,hs.2⟩
 . exact⟨(h.nV k e).1,(h.nV k e).2.1,(h.nV k e).2.2.1,fun e2=>kn (P:=fun j=>V.ownBlock≠J j) bL (fun j ej ev=>(h.nV j ev).2.2.2 ej) (fun ev=>by have:=(MW _ ev).2;omega) k e2 e⟩
 . exact⟨(h.nE k e).1,(h.nE k e).2.1,fun e2=>kn (P:=fun j=>E.ownBlock≠J j) bL (fun j ej ev=>(h.nE j ev).2.2 ej) (fun ev=>by have:=(EZ _ ev).2;omega) k e2 e⟩
 . exact⟨(h.nY k e).1,fun e2=>kn (P:=fun j=>Y.ownBlock≠J j) bL (fun j ej ev=>(h.nY j ev).2 ej) (fun ev=>by have:=(hYl _ ev).2;omega) k e2 e⟩
 exact kn bL h.nL (by omega)
theorem Bq.close(h:Bq D bs bx SC WR c wv vs xs views row V E Y L X){W w5:Ba}(hb:Ar X.heap.size X W){g' cap:Nat}{bz:List (List Ax)}(aP:bz.length=views.length)
  (cK:∀(i:Nat) (h1:i<bz.length) (h2:i<views.length),cIs.lies (fun k=>(D<=k/\k≠bx/\E.ownBlock≠J k/\L.ownBlock≠J k)/\Y.ownBlock≠J k) W bz[i] views[i])
  (hr:OwnR kIs w5 D (I (J ⟨g',0,Z⟩) (views.length+1) cap) (views.length+1) (bz.flatten++[L])) (hg:W.grownBy w5 Y.ownBlock) (bL:Y.ownBlock=J g'\/g'=W.heap.size) :
  Bq D bs bx SC WR c wv vs xs (views++[row]) [] V E (I (J ⟨g',0,Z⟩) (views.length+1) cap) (I Z 0 0) (w5.setCell ⟨bx,2,Z⟩ (I (J ⟨g',0,Z⟩) (views.length+1) cap)):=by
 have h1:=h.on hb;have aU:=h1.vw.lt;have cA:=h.bsl;have bk:=h.hx;have hbig:=h1.big;have MW:=h1.tb.lt';have EZ:=h1.out.lt;have Wu:=h1.row.lt;have aL:=h1.bxl;have hgz:=hg.size;obtain⟨A,cL,eL,_,_,hLc⟩:=h1.row.form
 have hX:cIs.lies (fun k=>(D<=k/\k≠bx/\E.ownBlock≠J k)/\Y.ownBlock≠J k) W [L] row:=by
  refine⟨A,cL,by rw[eL],fun h0=>?_⟩;obtain⟨g,hA,Iy,ia,hc⟩:=hLc h0;refine⟨g,0,hA,⟨⟨(Wu g Iy).1,h.nL g Iy,fun e=>(h.nE g e).2.2 Iy⟩,fun e=>(h.nY g e).2 Iy⟩,ia,fun i hi=>?_⟩;rw[LO];exact hc i _ (by simp[hi])
 have hv:=OwnX.app xx (S:=fun k=>D<=k/\k≠bx/\E.ownBlock≠J k) aP (fun i i1 i2=>xx.mono (cK i i1 i2) fun k _ hs=>⟨⟨hs.1.1,hs.1.2.1,hs.1.2.2.1⟩,hs.2⟩) hX hr hg bL;have iQ:=h1.out.aside yc (n:=views.length+1) (cap:=cap) (fun k hs=>hs.2.2.1) hg (fun k e=>(h.nE k e).2.1) bL;have hgx:w5.heap[bx]?=J (Ai #[O U c,wv,Y] 58 (0,0)):=(hg.block bx aL fun e=>(h.nY bx e.symm).1 rfl).trans h1.x;have MQ:w5.heap[bs]?=J (Ai (SC V E) 35 (0,0)):=(hg.block bs (by omega) fun e=>by have:=(aU bs e.symm).1;omega).trans h1.sys;have hk:∀k,k≠bx->(w5.setCell ⟨bx,2,Z⟩ (I (J ⟨g',0,Z⟩) (views.length+1) cap)).heap[k]?=w5.heap[k]?:=fun k hk=>Lh w5 ⟨bx,2,Z⟩ _ k hk
 have hw:Wrote (fun k=>D<=k) W (w5.setCell ⟨bx,2,Z⟩ (I (J ⟨g',0,Z⟩) (views.length+1) cap)):=
  (Wrote.of_grown (R:=fun k=>D<=k) hg (fun k e _=>(aU k e).1)).trans (XW w5 bx 2 _) (fun k _ e=>by omega)
 refine⟨h1.wr.trans hw (fun k hk e=>by have:=h.wd;omega),h.wd,by simp;omega,h.bsl,(hk bs (by omega)).trans MQ,?_,h.hx,?_,?_,?_,OwnR.nil _ _ _,fun k e=>?_,fun k e=>?_,fun k e=>?_,fun k e=>?_⟩
 . rw[Lq w5 bx 2 _ _ _ hgx];rfl
 . exact(h1.tb.aside hg fun k e=>(h.nV k e).2.2.1).of_same fun k e=>hk k (h.nV k e).1
 . exact OwnX.mono yc (iQ.keep yc ⟨by simp,fun k hs _=>hk k hs.1.2.1⟩ fun k e=>hk k (h.nE k e).1) fun k _ hs=>⟨hs.1.1,hs.1.2.1,hs.2,by simp[Value.ownBlock]⟩
 . refine OwnX.mono xx (hv.keep xx ⟨by simp,fun k hs _=>hk k hs.2.1⟩ fun k e=>hk k ?_) fun k _ hs=>⟨hs.1,hs.2.1,hs.2.2,by simp[Value.ownBlock]⟩
   exact kn (P:=fun j=>j≠bx) bL (fun j e=>(h.nY j e).1) (by omega) k e
 . exact⟨(h.nV k e).1,(h.nV k e).2.1,fun e2=>kn (P:=fun j=>V.ownBlock≠J j) bL (fun j ej ev=>(h.nV j ev).2.2.1 ej) (fun ev=>by have:=(MW _ ev).2;omega) k e2 e,by simp[Value.ownBlock]⟩
 . exact⟨(h.nE k e).1,fun e2=>kn (P:=fun j=>E.ownBlock≠J j) bL (fun j ej ev=>(h.nE j ev).2.1 ej) (fun ev=>by have:=(EZ _ ev).2;omega) k e2 e,by simp[Value.ownBlock]⟩
 . exact⟨kn (P:=fun j=>j≠bx) bL (fun j e=>(h.nY j e).1) (by omega) k e,by simp[Value.ownBlock]⟩
 simp[Value.ownBlock] at e
theorem Bq.done(h:Bq D bs bx SC WR c wv vs xs views [] V E Y (I Z 0 0) X){W w5:Ba}(hb:Ar X.heap.size X W){g' cap A2 c2 A3 c3:_}{bz:List (List Ax)}{word:List Rd}(aP:bz.length=xs.length)
  (cK:∀(i:Nat) (h1:i<bz.length) (h2:i<xs.length),JN.lies (fun k=>(bs<k/\k≠bx/\Y.ownBlock≠J k/\(I Z 0 0).ownBlock≠J k)/\E.ownBlock≠J k) W bz[i] xs[i])
  (hwv:wv=I A2 word.length c2) (hYv:Y=I A3 views.length c3) (hw:RAtS (fun k=>bs<k/\k<D) WR A2 word) (tf:word.length<=c2)
  (hr:OwnR kXn w5 D (I (J ⟨g',0,Z⟩) (xs.length+1) cap) (xs.length+1) (bz.flatten++[O U c,wv,Y])) (hg:W.grownBy w5 E.ownBlock) (bL:E.ownBlock=J g'\/g'=W.heap.size)
  (h9:(SC V E).setIfInBounds 9 (I (J ⟨g',0,Z⟩) (xs.length+1) cap)=SC V (I (J ⟨g',0,Z⟩) (xs.length+1) cap)) :
  Bt D bs SC WR vs (xs++[⟨c,word,views⟩]) V (I (J ⟨g',0,Z⟩) (xs.length+1) cap) (w5.setCell ⟨bs,9,Z⟩ (I (J ⟨g',0,Z⟩) (xs.length+1) cap)):=by
 have h1:=h.on hb;have aU:=h1.out.lt;have cA:=h.bsl;have bk:=h.hx;have hbig:=h1.big;have MW:=h1.tb.lt';have hYl:=h1.vw.lt;have hgz:=hg.size;obtain⟨A3',c3',e3,_,_,hL⟩:=QV h1.vw;rw[hYv] at e3
 cases e3
 have hX:JN.lies (fun k=>bs<k/\E.ownBlock≠J k) W [O U c,wv,Y] ⟨c,word,views⟩:=by
  refine⟨A2,c2,A3,c3,by rw[hwv,hYv],?_,?_,tf⟩
  . exact(hw.keep ⟨h1.wr.size,fun k hk hl=>h1.wr.block k hl (fun e=>by have:=hk.1;omega)⟩).mono fun k _ hs=>⟨hs.1,fun e=>by have:=(aU k e).1;have:=hs.2;omega⟩
  refine hL.mono fun k _ hs=>?_
  rcases hs with hs | hs
  . exact⟨by have:=hs.1;omega,hs.2.2.1⟩
  exact⟨by have:=(hYl k hs).1;omega,fun e=>(h.nE k e).2.1 hs⟩
 have hv:=OwnX.app yc (S:=fun k=>bs<k) aP (fun i i1 i2=>yc.mono (cK i i1 i2) fun k _ hs=>⟨hs.1.1,hs.2⟩) hX hr hg bL;have MQ:w5.heap[bs]?=J (Ai (SC V E) 35 (0,0)):=(hg.block bs (by omega) fun e=>by have:=(aU bs e.symm).1;omega).trans h1.sys;have hk:∀k,k≠bs->(w5.setCell ⟨bs,9,Z⟩ (I (J ⟨g',0,Z⟩) (xs.length+1) cap)).heap[k]?=w5.heap[k]?:=fun k hk=>Lh w5 ⟨bs,9,Z⟩ _ k hk
 have oy:Wrote (fun k=>k=bs\/D<=k) W (w5.setCell ⟨bs,9,Z⟩ (I (J ⟨g',0,Z⟩) (xs.length+1) cap)):=
  (Wrote.of_grown (R:=fun k=>k=bs\/D<=k) hg (fun k e _=>.inr (aU k e).1)).trans (XW w5 bs 9 _) (fun k _ e=>.inl e)
 refine⟨h1.wr.trans oy (fun k hk e=>by have:=h.wd;omega),h.wd,by simp;omega,h.bsl,?_,?_,?_,fun k e=>?_⟩
 . rw[Lq w5 bs 9 _ _ _ MQ,h9]
 . exact(h1.tb.aside hg fun k e=>(h.nV k e).2.1).of_same fun k e=>hk k (by have:=(MW k e).1;omega)
 . refine hv.keep yc ⟨by simp,fun k hs _=>hk k (by omega)⟩ fun k e=>hk k ?_
   exact kn (P:=fun j=>j≠bs) bL (fun j e=>by have:=(aU j e).1;omega) (by omega) k e
 exact fun e2=>kn (P:=fun j=>V.ownBlock≠J j) bL (fun j ej ev=>(h.nV j ev).2.1 ej) (fun ev=>by have:=(MW _ ev).2;omega) k e2 e
end
end
section
open Go.RowKit Go.Shelf
def stQ(vs:List Vw)(N:Nat)(inp:List Int)(word:List Rd):Nat->List Vw×List (List Int)
 | 0=>(vs,[])
 | k+1=>zI vs N inp word k
def fQ(inp:List Int)(word:List Rd)(views:List (List Int)):Nat->Nat->Vw
 | 0=>f0 inp
 | k+1=>fk word k (views.getD k [])
theorem stQ_succ(vs:List Vw)(N:Nat)(inp:List Int)(word:List Rd)(k:Nat) :
  stQ vs N inp word (k+1)=((yH (fQ inp word (stQ vs N inp word k).2 k) (stQ vs N inp word k).1 N).1,(stQ vs N inp word k).2++[(yH (fQ inp word (stQ vs N inp word k).2 k) (stQ vs N inp word k).1 N).2]):=by
 cases k<;>rfl
theorem stQ_len(vs:List Vw)(N:Nat)(inp:List Int)(word:List Rd)(k:Nat):(stQ vs N inp word k).2.length=k:=by
 cases k
 . rfl
 exact yW _ _ _ _ _
theorem stQ_few(vs:List Vw)(N:Nat)(inp:List Int)(word:List Rd)(k:Nat):(stQ vs N inp word k).1.length<=vs.length+k*N:=by
 cases k
 . simp[stQ]
 exact jE _ _ _ _ _
theorem stQ_row(vs:List Vw)(N:Nat)(inp:List Int)(word:List Rd)(k j:Nat)(hj:j<(stQ vs N inp word k).2.length):((stQ vs N inp word k).2[j]).length=N:=by
 cases k with
 | zero=>exact absurd hj (by simp[stQ])
 | succ k=>exact kY _ _ _ _ k _ (Ld hj)
def pcs(ae:List (List Rd))(c:Nat):List (Nat×List Rd):=(List.range c).flatMap fun i=>ae.map fun w=>(i,w)
theorem pcs_succ(ae:List (List Rd))(c:Nat):pcs ae (c+1)=pcs ae c++ae.map fun w=>(c,w):=by
 unfold pcs;rw[Rh,R7];simp
theorem Jj(p:Pb):zD p=pcs (zT p.a p.k.toNat 0) p.t.cases.length:=rfl
def pcw(ae:List (List Rd))(c j:Nat):List (Nat×List Rd):=pcs ae c++(ae.take j).map fun w=>(c,w)
theorem pcw_zero(ae:List (List Rd))(c:Nat):pcw ae c 0=pcs ae c:=by simp[pcw]
theorem pcw_succ(ae:List (List Rd))(c j:Nat)(hj:j<ae.length):pcw ae c (j+1)=pcw ae c j++[(c,ae[j])]:=by
 unfold pcw;rw[Lr hj,LM,List.map_singleton,Nn]
theorem pcw_end(ae:List (List Rd))(c:Nat):pcw ae c ae.length=pcs ae (c+1):=by
 unfold pcw;rw[LC,pcs_succ]
theorem Z2(ae:List (List Rd)):∀c,(pcs ae c).length=c*ae.length
 | 0=>by simp[pcs]
 | c+1=>by rw[pcs_succ,Lw,Z2 ae c,LJ,Rw];omega
theorem pcw_len(ae:List (List Rd))(c j:Nat)(hj:j<=ae.length):(pcw ae c j).length=c*ae.length+j:=by
 unfold pcw;rw[Lw,Z2,LJ,N8,Sw hj]
theorem pcw_mem(ae:List (List Rd))(c j:Nat):∀x∈pcw ae c j,x.2∈ae:=fun x hx=>by
 unfold pcw at hx;rcases Nh.1 hx with hx | hx
 . unfold pcs at hx
   obtain⟨_,_,hx⟩:=NJ.1 hx;obtain⟨_,h,rfl⟩:=LZ.1 hx;exact h
 . obtain⟨_,h,rfl⟩:=LZ.1 hx
   exact List.mem_of_mem_take h
theorem Qe(p:Pb)(ae:List (List Rd))(hn:p.t.n.toNat<=5)(hw:∀w∈ae,w.length<=6)(c j:Nat)(hj:j<=ae.length)(iV:c*ae.length+j<=60):(zK p (pcw ae c j)).1.length<=2100/\(zK p (pcw ae c j)).2.length=c*ae.length+j:=by
 have h1:=Ys p hn (pcw ae c j) fun x hx=>hw _ (pcw_mem ae c j x hx)
 rw[pcw_len ae c j hj] at h1;refine⟨by omega,?_⟩;rw[qI,pcw_len ae c j hj]
theorem Yq(p:Pb)(ae:List (List Rd))(hn:p.t.n.toNat<=5)(hw:∀w∈ae,w.length<=6)(c:Nat)(iV:c*ae.length<=60):(zK p (pcs ae c)).1.length<=2100:=by
 have:=(Qe p ae hn hw c 0 (NF _) (by omega)).1;rwa[pcw_zero] at this
theorem put_out{n:Int}{AV:Bb}{kv:Nat}{vs:List Vw}{v:Vw}{W w':Ba}{e:Ending}{D:Nat}(h:RetPut n AV kv vs v W e w')(hO:OwnV W D (I AV vs.length kv) vs)(hD:D<=W.heap.size) :
  ∃A3 k3,e=Am (.tuple #[Ak #[O U n,.slice A3 (qu vs v).1.length k3],O U (qu vs v).2])/\OwnV w' D (.slice A3 (qu vs v).1.length k3) (qu vs v).1 /\
   (∀k,(I A3 (qu vs v).1.length k3).ownBlock=J k->(I AV vs.length kv).ownBlock=J k\/W.heap.size<=k)/\Ar W.heap.size W w':=by
 obtain⟨hb,h1,h2⟩:=h
 by_cases hm:v∈vs
 . rw[putW_yes hm]
   exact⟨AV,kv,h1 hm,hO.of_same fun k hk=>hb.block k (hO.lt' k hk).2,fun k hk=>.inl hk,hb⟩
 rw[putW_no hm];obtain⟨A3,k3,e3,ho⟩:=h2 hm;have hl:(vs++[v]).length=vs.length+1:=by simp
 dsimp only;rw[hl];exact⟨A3,k3,e3,ho.low hD,fun k hk=>.inr (ho.lt' k hk).1,hb⟩
theorem xX{w X:Ba}{g B:Nat}{a0 a1 a2 a3 a4 a5 a6 a7 a8 a9:Ax}(v0 v1 v2 v3 v4 v5 v6 v7 v8 v9:Ax)(hg:X.heap[g]?=J (Ai #[a0,a1,a2,a3,a4,a5,a6,a7,a8,a9] 35 (0,0)))(hB:Ar B w X)(h1:B<=g) :
  ((((((((((X.setCell ⟨g,0,Z⟩ v0).setCell ⟨g,1,Z⟩ v1).setCell ⟨g,2,Z⟩ v2).setCell ⟨g,3,Z⟩ v3).setCell ⟨g,4,Z⟩ v4).setCell ⟨g,5,Z⟩ v5).setCell ⟨g,6,Z⟩ v6).setCell ⟨g,7,Z⟩ v7).setCell ⟨g,8,Z⟩ v8).setCell ⟨g,9,Z⟩ v9).heap[g]?=J (Ai #[v0,v1,v2,v3,v4,v5,v6,v7,v8,v9] 35 (0,0))/\Ar B w ((((((((((X.setCell ⟨g,0,Z⟩ v0).setCell ⟨g,1,Z⟩ v1).setCell ⟨g,2,Z⟩ v2).setCell ⟨g,3,Z⟩ v3).setCell ⟨g,4,Z⟩ v4).setCell ⟨g,5,Z⟩ v5).setCell ⟨g,6,Z⟩ v6).setCell ⟨g,7,Z⟩ v7).setCell ⟨g,8,Z⟩ v8).setCell ⟨g,9,Z⟩ v9)/\Ar g X ((((((((((X.setCell ⟨g,0,Z⟩ v0).setCell ⟨g,1,Z⟩ v1).setCell ⟨g,2,Z⟩ v2).setCell ⟨g,3,Z⟩ v3).setCell ⟨g,4,Z⟩ v4).setCell ⟨g,5,Z⟩ v5).setCell ⟨g,6,Z⟩ v6).setCell ⟨g,7,Z⟩ v7).setCell ⟨g,8,Z⟩ v8).setCell ⟨g,9,Z⟩ v9)/\(∀k,k≠g->((((((((((X.setCell ⟨g,0,Z⟩ v0).setCell ⟨g,1,Z⟩ v1).setCell ⟨g,2,Z⟩ v2).setCell ⟨g,3,Z⟩ v3).setCell ⟨g,4,Z⟩ v4).setCell ⟨g,5,Z⟩ v5).setCell ⟨g,6,Z⟩ v6).setCell ⟨g,7,Z⟩ v7).setCell ⟨g,8,Z⟩ v8).setCell ⟨g,9,Z⟩ v9).heap[k]?=X.heap[k]?)/\((((((((((X.setCell ⟨g,0,Z⟩ v0).setCell ⟨g,1,Z⟩ v1).setCell ⟨g,2,Z⟩ v2).setCell ⟨g,3,Z⟩ v3).setCell ⟨g,4,Z⟩ v4).setCell ⟨g,5,Z⟩ v5).setCell ⟨g,6,Z⟩ v6).setCell ⟨g,7,Z⟩ v7).setCell ⟨g,8,Z⟩ v8).setCell ⟨g,9,Z⟩ v9).heap.size=X.heap.size:=by
 have k0:(X.setCell ⟨g,0,Z⟩ v0).heap[g]?=J (Ai #[v0,a1,a2,a3,a4,a5,a6,a7,a8,a9] 35 (0,0)):=Lq _ g 0 _ _ v0 hg;have k1:((X.setCell ⟨g,0,Z⟩ v0).setCell ⟨g,1,Z⟩ v1).heap[g]?=J (Ai #[v0,v1,a2,a3,a4,a5,a6,a7,a8,a9] 35 (0,0)):=Lq _ g 1 _ _ v1 k0;have k2:(((X.setCell ⟨g,0,Z⟩ v0).setCell ⟨g,1,Z⟩ v1).setCell ⟨g,2,Z⟩ v2).heap[g]?=J (Ai #[v0,v1,v2,a3,a4,a5,a6,a7,a8,a9] 35 (0,0)):=Lq _ g 2 _ _ v2 k1;have k3:((((X.setCell ⟨g,0,Z⟩ v0).setCell ⟨g,1,Z⟩ v1).setCell ⟨g,2,Z⟩ v2).setCell ⟨g,3,Z⟩ v3).heap[g]?=J (Ai #[v0,v1,v2,v3,a4,a5,a6,a7,a8,a9] 35 (0,0)):=Lq _ g 3 _ _ v3 k2;have k4:(((((X.setCell ⟨g,0,Z⟩ v0).setCell ⟨g,1,Z⟩ v1).setCell ⟨g,2,Z⟩ v2).setCell ⟨g,3,Z⟩ v3).setCell ⟨g,4,Z⟩ v4).heap[g]?=J (Ai #[v0,v1,v2,v3,v4,a5,a6,a7,a8,a9] 35 (0,0)):=Lq _ g 4 _ _ v4 k3;have k5:((((((X.setCell ⟨g,0,Z⟩ v0).setCell ⟨g,1,Z⟩ v1).setCell ⟨g,2,Z⟩ v2).setCell ⟨g,3,Z⟩ v3).setCell ⟨g,4,Z⟩ v4).setCell ⟨g,5,Z⟩ v5).heap[g]?=J (Ai #[v0,v1,v2,v3,v4,v5,a6,a7,a8,a9] 35 (0,0)):=Lq _ g 5 _ _ v5 k4;have k6:(((((((X.setCell ⟨g,0,Z⟩ v0).setCell ⟨g,1,Z⟩ v1).setCell ⟨g,2,Z⟩ v2).setCell ⟨g,3,Z⟩ v3).setCell ⟨g,4,Z⟩ v4).setCell ⟨g,5,Z⟩ v5).setCell ⟨g,6,Z⟩ v6).heap[g]?=J (Ai #[v0,v1,v2,v3,v4,v5,v6,a7,a8,a9] 35 (0,0)):=Lq _ g 6 _ _ v6 k5
 have k7:((((((((X.setCell ⟨g,0,Z⟩ v0).setCell ⟨g,1,Z⟩ v1).setCell ⟨g,2,Z⟩ v2).setCell ⟨g,3,Z⟩ v3).setCell ⟨g,4,Z⟩ v4).setCell ⟨g,5,Z⟩ v5).setCell ⟨g,6,Z⟩ v6).setCell ⟨g,7,Z⟩ v7).heap[g]?=J (Ai #[v0,v1,v2,v3,v4,v5,v6,v7,a8,a9] 35 (0,0)):=Lq _ g 7 _ _ v7 k6;have k8:(((((((((X.setCell ⟨g,0,Z⟩ v0).setCell ⟨g,1,Z⟩ v1).setCell ⟨g,2,Z⟩ v2).setCell ⟨g,3,Z⟩ v3).setCell ⟨g,4,Z⟩ v4).setCell ⟨g,5,Z⟩ v5).setCell ⟨g,6,Z⟩ v6).setCell ⟨g,7,Z⟩ v7).setCell ⟨g,8,Z⟩ v8).heap[g]?=J (Ai #[v0,v1,v2,v3,v4,v5,v6,v7,v8,a9] 35 (0,0)):=Lq _ g 8 _ _ v8 k7;have k9:((((((((((X.setCell ⟨g,0,Z⟩ v0).setCell ⟨g,1,Z⟩ v1).setCell ⟨g,2,Z⟩ v2).setCell ⟨g,3,Z⟩ v3).setCell ⟨g,4,Z⟩ v4).setCell ⟨g,5,Z⟩ v5).setCell ⟨g,6,Z⟩ v6).setCell ⟨g,7,Z⟩ v7).setCell ⟨g,8,Z⟩ v8).setCell ⟨g,9,Z⟩ v9).heap[g]?=J (Ai #[v0,v1,v2,v3,v4,v5,v6,v7,v8,v9] 35 (0,0)):=Lq _ g 9 _ _ v9 k8;refine⟨k9,?_,?_,fun k hk=>?_,by simp⟩
 . refine Ly (p:=⟨g,9,Z⟩) ?_ h1 _
   refine Ly (p:=⟨g,8,Z⟩) ?_ h1 _;refine Ly (p:=⟨g,7,Z⟩) ?_ h1 _;refine Ly (p:=⟨g,6,Z⟩) ?_ h1 _;refine Ly (p:=⟨g,5,Z⟩) ?_ h1 _;refine Ly (p:=⟨g,4,Z⟩) ?_ h1 _;refine Ly (p:=⟨g,3,Z⟩) ?_ h1 _;refine Ly (p:=⟨g,2,Z⟩) ?_ h1 _;refine Ly (p:=⟨g,1,Z⟩) ?_ h1 _;refine Ly (p:=⟨g,0,Z⟩) ?_ h1 _;exact hB
 . refine Ly (p:=⟨g,9,Z⟩) ?_ (Le _) _
   refine Ly (p:=⟨g,8,Z⟩) ?_ (Le _) _;refine Ly (p:=⟨g,7,Z⟩) ?_ (Le _) _;refine Ly (p:=⟨g,6,Z⟩) ?_ (Le _) _;refine Ly (p:=⟨g,5,Z⟩) ?_ (Le _) _;refine Ly (p:=⟨g,4,Z⟩) ?_ (Le _) _;refine Ly (p:=⟨g,3,Z⟩) ?_ (Le _) _;refine Ly (p:=⟨g,2,Z⟩) ?_ (Le _) _;refine Ly (p:=⟨g,1,Z⟩) ?_ (Le _) _;refine Ly (p:=⟨g,0,Z⟩) ?_ (Le _) _;exact Ll _ _
 exact((Lh _ ⟨g,9,Z⟩ v9 k hk).trans ((Lh _ ⟨g,8,Z⟩ v8 k hk).trans ((Lh _ ⟨g,7,Z⟩ v7 k hk).trans ((Lh _ ⟨g,6,Z⟩ v6 k hk).trans ((Lh _ ⟨g,5,Z⟩ v5 k hk).trans ((Lh _ ⟨g,4,Z⟩ v4 k hk).trans ((Lh _ ⟨g,3,Z⟩ v3 k hk).trans ((Lh _ ⟨g,2,Z⟩ v2 k hk).trans ((Lh _ ⟨g,1,Z⟩ v1 k hk).trans (Lh _ ⟨g,0,Z⟩ v0 k hk))))))))))
theorem vw_store8{w X:Ba}{g B:Nat}{a0 a1 a2 a3 a4 a5 a6 a7:Ax}(v:Vw)(hg:X.heap[g]?=J (Ai #[a0,a1,a2,a3,a4,a5,a6,a7] 111 (0,0)))(hB:Ar B w X)(h1:B<=g) :
  ((((((((X.setCell ⟨g,0,Z⟩ (O U v.p)).setCell ⟨g,1,Z⟩ (O U v.r)).setCell ⟨g,2,Z⟩ (O U v.i)).setCell ⟨g,3,Z⟩ (O U v.h0)).setCell ⟨g,4,Z⟩ (O U v.h1)).setCell ⟨g,5,Z⟩ (O U v.h2)).setCell ⟨g,6,Z⟩ (O U v.h3)).setCell ⟨g,7,Z⟩ (O U v.h4)).heap[g]?=J (Ai v.cells 111 (0,0))/\Ar B w ((((((((X.setCell ⟨g,0,Z⟩ (O U v.p)).setCell ⟨g,1,Z⟩ (O U v.r)).setCell ⟨g,2,Z⟩ (O U v.i)).setCell ⟨g,3,Z⟩ (O U v.h0)).setCell ⟨g,4,Z⟩ (O U v.h1)).setCell ⟨g,5,Z⟩ (O U v.h2)).setCell ⟨g,6,Z⟩ (O U v.h3)).setCell ⟨g,7,Z⟩ (O U v.h4)):=by
 have k0:(X.setCell ⟨g,0,Z⟩ (O U v.p)).heap[g]?=J (Ai #[O U v.p,a1,a2,a3,a4,a5,a6,a7] 111 (0,0)):=Lq _ g 0 _ _ _ hg;have k1:((X.setCell ⟨g,0,Z⟩ (O U v.p)).setCell ⟨g,1,Z⟩ (O U v.r)).heap[g]?=J (Ai #[O U v.p,O U v.r,a2,a3,a4,a5,a6,a7] 111 (0,0)):=Lq _ g 1 _ _ _ k0;have k2:(((X.setCell ⟨g,0,Z⟩ (O U v.p)).setCell ⟨g,1,Z⟩ (O U v.r)).setCell ⟨g,2,Z⟩ (O U v.i)).heap[g]?=J (Ai #[O U v.p,O U v.r,O U v.i,a3,a4,a5,a6,a7] 111 (0,0)):=Lq _ g 2 _ _ _ k1;have k3:((((X.setCell ⟨g,0,Z⟩ (O U v.p)).setCell ⟨g,1,Z⟩ (O U v.r)).setCell ⟨g,2,Z⟩ (O U v.i)).setCell ⟨g,3,Z⟩ (O U v.h0)).heap[g]?=J (Ai #[O U v.p,O U v.r,O U v.i,O U v.h0,a4,a5,a6,a7] 111 (0,0)):=Lq _ g 3 _ _ _ k2;have k4:(((((X.setCell ⟨g,0,Z⟩ (O U v.p)).setCell ⟨g,1,Z⟩ (O U v.r)).setCell ⟨g,2,Z⟩ (O U v.i)).setCell ⟨g,3,Z⟩ (O U v.h0)).setCell ⟨g,4,Z⟩ (O U v.h1)).heap[g]?=J (Ai #[O U v.p,O U v.r,O U v.i,O U v.h0,O U v.h1,a5,a6,a7] 111 (0,0)):=Lq _ g 4 _ _ _ k3
 have k5:((((((X.setCell ⟨g,0,Z⟩ (O U v.p)).setCell ⟨g,1,Z⟩ (O U v.r)).setCell ⟨g,2,Z⟩ (O U v.i)).setCell ⟨g,3,Z⟩ (O U v.h0)).setCell ⟨g,4,Z⟩ (O U v.h1)).setCell ⟨g,5,Z⟩ (O U v.h2)).heap[g]?=J (Ai #[O U v.p,O U v.r,O U v.i,O U v.h0,O U v.h1,O U v.h2,a6,a7] 111 (0,0)):=Lq _ g 5 _ _ _ k4;have k6:(((((((X.setCell ⟨g,0,Z⟩ (O U v.p)).setCell ⟨g,1,Z⟩ (O U v.r)).setCell ⟨g,2,Z⟩ (O U v.i)).setCell ⟨g,3,Z⟩ (O U v.h0)).setCell ⟨g,4,Z⟩ (O U v.h1)).setCell ⟨g,5,Z⟩ (O U v.h2)).setCell ⟨g,6,Z⟩ (O U v.h3)).heap[g]?=J (Ai #[O U v.p,O U v.r,O U v.i,O U v.h0,O U v.h1,O U v.h2,O U v.h3,a7] 111 (0,0)):=Lq _ g 6 _ _ _ k5;have k7:((((((((X.setCell ⟨g,0,Z⟩ (O U v.p)).setCell ⟨g,1,Z⟩ (O U v.r)).setCell ⟨g,2,Z⟩ (O U v.i)).setCell ⟨g,3,Z⟩ (O U v.h0)).setCell ⟨g,4,Z⟩ (O U v.h1)).setCell ⟨g,5,Z⟩ (O U v.h2)).setCell ⟨g,6,Z⟩ (O U v.h3)).setCell ⟨g,7,Z⟩ (O U v.h4)).heap[g]?=J (Ai #[O U v.p,O U v.r,O U v.i,O U v.h0,O U v.h1,O U v.h2,O U v.h3,O U v.h4] 111 (0,0)):=Lq _ g 7 _ _ _ k6;refine⟨k7,?_⟩;refine Ly (p:=⟨g,7,Z⟩) ?_ h1 _;refine Ly (p:=⟨g,6,Z⟩) ?_ h1 _;refine Ly (p:=⟨g,5,Z⟩) ?_ h1 _
 refine Ly (p:=⟨g,4,Z⟩) ?_ h1 _;refine Ly (p:=⟨g,3,Z⟩) ?_ h1 _;refine Ly (p:=⟨g,2,Z⟩) ?_ h1 _;refine Ly (p:=⟨g,1,Z⟩) ?_ h1 _;refine Ly (p:=⟨g,0,Z⟩) ?_ h1 _;exact hB
def WdsAt(bs D:Nat)(WR:Ba)(AW:Bb)(ae:List (List Rd)):Prop:=∀(i:Nat) (h:i<ae.length),∃g A c,AW=J ⟨g,0,Z⟩/\bs<g/\g<D/\WR.cell? ⟨g,i,Z⟩=J (I A ae[i].length c)/\RAtS (fun k=>bs<k/\k<D) WR A ae[i]/\ae[i].length<=c
theorem WdsAt.of{bs D:Nat}{w w':Ba}{v:Ax}{ae:List (List Rd)}(h:OwnX cWd (fun b=>w.heap.size<=b) w' w.heap.size v ae)(hb:bs<w.heap.size)(hD:w'.heap.size=D) :
  ∃AW cw,v=I AW ae.length cw/\WdsAt bs D w' AW ae:=by
 obtain⟨A,cap,e,_,_,h3⟩:=h.form kd;refine⟨A,cap,e,fun i hi=>?_⟩;obtain⟨g,hA,hg,hl,hc⟩:=h3 (by omega);obtain⟨cs,⟨A2,c2,e2,hR,hRc⟩,hu⟩:=hc i hi;subst e2;refine⟨g,A2,c2,hA,by omega,by omega,?_,hR.mono fun k hk hs=>⟨by have:=hs.1;omega,by omega⟩,hRc⟩;have:=hu 0 _ rfl;simpa[cWd,kWd] using this
end
section
open Go.RowKit
attribute [local go_sem] Oper.semAt_some
theorem eqI_any(A A':Bb)(cap aD:Nat)(xs ys:List Int)(w:Ba)(B:Nat)(hA:IAt w B A xs)(nd:IAt w B A' ys)(hl:xs.length<=17592186044416)(MM:ys.length<=17592186044416) :
  As Aq 23 #[I A xs.length cap,I A' ys.length aD] w fun e w'=>e=Am (Aj (decide (xs=ys)))/\∃n,w'=w.drewN n:=by
 by_cases aU:xs.length=ys.length
 . by_cases h0:xs.length=0
   . have e1:xs=[]:=LA h0
     have e2:ys=[]:=LA (by omega);subst e1;subst e2;exact(Tryz.slices_Equal_int_empty A A' cap 0 aD w (by omega)).mono fun e w' h=>⟨by simpa using h.1,0,h.2⟩
   obtain⟨b,o,rfl,hb,hc⟩:=hA (by omega);obtain⟨b',o',rfl,di,MS⟩:=nd (by omega);refine(Tryz.slices_Equal_int b o xs.length cap b' o' ys.length aD xs ys w (Le _) (Le _) (by omega) (by omega) (fun j hj=>?_) (fun j hj=>?_)).mono fun e w' h=>⟨?_,h.2⟩
   . rw[Lk,Ln hj];exact hc j hj
   . rw[Lk,Ln hj];exact MS j hj
   rw[h.1,LC,LC];exact zn (by rw[NG];simp)
 exact(Tryz.slices_Equal_int_lens A A' xs.length cap ys.length aD w aU).mono fun e w' h=>⟨by rw[h.1,Lj (by rintro rfl;exact aU rfl)],0,h.2⟩
theorem eqV_any(A A':Bb)(cap aD:Nat)(vs us:List Vw)(w:Ba)(B:Nat)(_hB:B<=w.heap.size)(hA:VAt w B A vs)(nd:VAt w B A' us)(_hl:vs.length<=2199023255552)(MM:us.length<=2199023255552) :
  As Aq 49 #[I A vs.length cap,I A' us.length aD] w fun e w'=>e=Am (Aj (decide (vs=us)))/\∃n,w'=w.drewN n:=by
 have HE:Aw (∀k (hk:k<vs.length) (fm:k<us.length) (X:Ba),(binOp .neq 111 (.agg vs[k].cells) (.agg us[k].cells)).run Aq X=.ok (Aj (decide (vs[k]≠us[k]))) X):=fun k hk fm X=>neq_view vs[k] us[k] X
 unfold Vw.cells at HE
 by_cases aU:vs.length=us.length
 . have HL:=zH aU
   have iR:((vs.length:Int) != (us.length:Int))=AC:=by simp[aU]
   go_enter func49,ntmps49;go_wp2
   go_loopw [13] (fun i wr=>∃k m:Nat,k<=vs.length/\i=O U k/\wr=w.drewN m/\Aw (vs.take k=us.take k)) (fun i _=>vs.length-(Au i).toNat)
   case atStart=>exact⟨0,0,by omega,rfl,rfl,by show vs.take 0=us.take 0;simp⟩
   obtain⟨k,m,hk,rfl,rfl,aO⟩:=hrel;have eU:k<=us.length:=by have:=HL.out;omega
   by_cases aa:k<vs.length
   . have cB:k<us.length:=by have:=HL.out;omega
     obtain⟨b,off,rfl,aq,c0,c1,c2,c3,c4,c5,c6,c7⟩:=hA.row k aa;obtain⟨b',eh,rfl,dp,d0,d1,d2,d3,d4,d5,d6,d7⟩:=nd.row k cB;have iJ:=HE.out k aa cB
     by_cases hv:vs[k]=us[k]
     . have rc:∀X:Ba,_:=fun X=>(iJ X).trans (by rw[Lj (by simpa using hv)])
       have hz:Aw (vs.take (k+1)=us.take (k+1)):=vT aa cB aO.out hv;clear iJ hv;go_wp2;go_quiet (fail);go_wp2
       go_roundw
       case rel=>exact⟨k+1,_,by omega,by go_num,rfl,hz⟩
       simp[Au];omega
     have rc:∀X:Ba,_:=fun X=>(iJ X).trans (by rw[Lm hv])
     have hz:Aw (decide (vs=us)=AC):=Lj (qY aa cB hv);go_wp2;go_quiet (fail);go_wp2;go_ret;exact⟨zn hz.out.symm,_,je _ _ _⟩
   obtain rfl:k=vs.length:=by omega
   have hz:Aw (decide (vs=us)=AA):=Lm (ka HL.out aO.out);go_wp2;go_ret;exact⟨zn hz.out.symm,_,rfl⟩
 have hz:Aw (decide (vs=us)=AC):=Lj (by rintro rfl;exact aU rfl);have iR:((vs.length:Int) != (us.length:Int))=AA:=by simp;omega
 go_enter func49,ntmps49;go_wp2;go_ret;exact⟨zn hz.out.symm,0,rfl⟩
theorem eqR_any(A A':Bb)(cap aD:Nat)(vs us:List Rd)(w:Ba)(B:Nat)(_hB:B<=w.heap.size)(hA:RAt w B A vs)(nd:RAt w B A' us)(_hl:vs.length<=17592186044416)(MM:us.length<=17592186044416) :
  As Aq 89 #[I A vs.length cap,I A' us.length aD] w fun e w'=>e=Am (Aj (decide (vs=us)))/\∃n,w'=w.drewN n:=by
 have HE:Aw (∀k (hk:k<vs.length) (fm:k<us.length) (X:Ba),(binOp .neq 92 (.agg vs[k].cells) (.agg us[k].cells)).run Aq X=.ok (Aj (decide (vs[k]≠us[k]))) X):=fun k hk fm X=>Qq vs[k] us[k] X
 unfold Rd.cells at HE
 by_cases aU:vs.length=us.length
 . have HL:=zH aU
   have iR:((vs.length:Int) != (us.length:Int))=AC:=by simp[aU]
   go_enter func89,ntmps89;go_wp2
   go_loopw [13] (fun i wr=>∃k m:Nat,k<=vs.length/\i=O U k/\wr=w.drewN m/\Aw (vs.take k=us.take k)) (fun i _=>vs.length-(Au i).toNat)
   case atStart=>exact⟨0,0,by omega,rfl,rfl,by show vs.take 0=us.take 0;simp⟩
   obtain⟨k,m,hk,rfl,rfl,aO⟩:=hrel;have eU:k<=us.length:=by have:=HL.out;omega
   by_cases aa:k<vs.length
   . have cB:k<us.length:=by have:=HL.out;omega
     obtain⟨b,off,rfl,aq,c0,c1,c2,c3,c4,c5,c6⟩:=hA.row k aa;obtain⟨b',eh,rfl,dp,d0,d1,d2,d3,d4,d5,d6⟩:=nd.row k cB;have iJ:=HE.out k aa cB
     by_cases hv:vs[k]=us[k]
     . have rc:∀X:Ba,_:=fun X=>(iJ X).trans (by rw[Lj (by simpa using hv)])
       have hz:Aw (vs.take (k+1)=us.take (k+1)):=vT aa cB aO.out hv;clear iJ hv;go_wp2;go_quiet (fail);go_wp2
       go_roundw
       case rel=>exact⟨k+1,_,by omega,by go_num,rfl,hz⟩
       simp[Au];omega
     have rc:∀X:Ba,_:=fun X=>(iJ X).trans (by rw[Lm hv])
     have hz:Aw (decide (vs=us)=AC):=Lj (qY aa cB hv);go_wp2;go_quiet (fail);go_wp2;go_ret;exact⟨zn hz.out.symm,_,je _ _ _⟩
   obtain rfl:k=vs.length:=by omega
   have hz:Aw (decide (vs=us)=AA):=Lm (ka HL.out aO.out);go_wp2;go_ret;exact⟨zn hz.out.symm,_,rfl⟩
 have hz:Aw (decide (vs=us)=AC):=Lj (by rintro rfl;exact aU rfl);have iR:((vs.length:Int) != (us.length:Int))=AA:=by simp;omega
 go_enter func89,ntmps89;go_wp2;go_ret;exact⟨zn hz.out.symm,0,rfl⟩
theorem eqLL_any(A A':Bb)(cap aD:Nat)(vs us:List (List Int))(w:Ba)(B:Nat)(_hB:B<=w.heap.size)(hA:LAt w B A vs)(nd:LAt w B A' us)(hl:vs.length<=17592186044416)(MM:us.length<=17592186044416)
  (hv:∀v∈vs,v.length<=17592186044416) (hu:∀v∈us,v.length<=17592186044416) :
  As Aq 90 #[I A vs.length cap,I A' us.length aD,.func (.func 23) #[] #[]] w fun e w'=>e=Am (Aj (decide (vs=us)))/\∃n,w'=w.drewN n:=by
 have HV:=zH hv;have HU:=zH hu
 by_cases aU:vs.length=us.length
 . have HL:=zH aU
   have iR:((vs.length:Int) != (us.length:Int))=AC:=by simp[aU]
   clear aU;go_enter func90,ntmps90;go_wp2_with fail
   go_loopw [17] (fun i wr=>∃k m:Nat,k<=vs.length/\i=O U k/\wr=w.drewN m/\Aw (vs.take k=us.take k)) (fun i _=>vs.length-(Au i).toNat)
   case atStart=>exact⟨0,0,by omega,rfl,rfl,by show vs.take 0=us.take 0;simp⟩
   obtain⟨k,m,hk,rfl,rfl,aO⟩:=hrel;have eU:k<=us.length:=by have:=HL.out;omega
   by_cases aa:k<vs.length
   . have cB:k<us.length:=by have:=HL.out;omega
     obtain⟨b,off,A1,c1,rfl,aq,x0,hI⟩:=hA.at_ k aa;obtain⟨b',eh,A2,c2,rfl,dp,y0,tv⟩:=nd.at_ k cB;have HC:=zH (eqI_any A1 A2 c1 c2 vs[k] us[k] (w.drewN m) B hI tv (HV.out _ (Ld aa)) (HU.out _ (Ld cB)));have x1:(w.drewN m).cell? ⟨b,off+k,Z⟩=J (I A1 vs[k].length c1):=x0;have y1:(w.drewN m).cell? ⟨b',eh+k,Z⟩=J (I A2 us[k].length c2):=y0;clear hA nd x0 y0 hI tv;have dh:(0:Int)<=(k:Int):=by omega
     have aW:(k:Int)<(vs.length:Int):=by omega
     have iH:(k:Int)<(us.length:Int):=by omega
     go_wp2_with fail;refine HC.out.mono ?_;rintro e w' ⟨rfl,n,rfl⟩
     by_cases hv:vs[k]=us[k]
     . have hz:Aw (vs.take (k+1)=us.take (k+1)):=xO aO.out aa cB hv
       rw[Lm hv];clear hv HC x1 y1;go_wp2_with fail
       go_roundw
       case rel=>exact⟨k+1,_,by omega,by go_num,rfl,hz⟩
       simp[Au];omega
     have hz:Aw (decide (vs=us)=AC):=Lj (qY aa cB hv);rw[Lj hv];go_wp2_with fail;go_ret;exact⟨zn hz.out.symm,_,rfl⟩
   obtain rfl:k=vs.length:=by omega
   have hz:Aw (decide (vs=us)=AA):=Lm (ka HL.out aO.out);go_wp2_with fail;go_ret;exact⟨zn hz.out.symm,_,rfl⟩
 have hz:Aw (decide (vs=us)=AC):=Lj (by rintro rfl;exact aU rfl);have iR:((vs.length:Int) != (us.length:Int))=AA:=by simp;omega
 go_enter func90,ntmps90;go_wp2_with fail;go_ret;exact⟨zn hz.out.symm,0,rfl⟩
theorem xsame_any(x y:Exn)(hx:XA x)(hy:XA y)(A1 A2 B1 B2:Bb)(a1 a2 b1 b2:Nat)(w:Ba)(rU:RAt w w.heap.size A1 x.word)(TC:LAt w w.heap.size A2 x.views)(bP:RAt w w.heap.size B1 y.word)(cH:LAt w w.heap.size B2 y.views) :
  As Aq 51 #[Ak #[O U x.c,I A1 x.word.length a1,I A2 x.views.length a2],Ak #[O U y.c,I B1 y.word.length b1,I B2 y.views.length b2]] w fun e w'=>e=Am (Aj (decide (x=y)))/\Ar w.heap.size w w':=by
 obtain⟨w1,ab,d0,d1,aK,hB⟩:=yV w #[O U x.c,I A1 x.word.length a1,I A2 x.views.length a2] #[O U y.c,I B1 y.word.length b1,I B2 y.views.length b2] 58 58;have HR:=zH (eqR_any A1 B1 a1 b1 x.word y.word w1 w.heap.size (by omega) (rU.keep hB) (bP.keep hB) hx.1 hy.1);have HL:=zH (fun n=>eqLL_any A2 B2 a2 b2 x.views y.views (w1.drewN n) w.heap.size (by show w.heap.size<=w1.heap.size;omega) (TC.keep (zP hB n)) (cH.keep (zP hB n)) hx.2.1 hy.2.1 hx.2.2 hy.2.2);have ai:=zH ab;have HB:=zH hB;have bK:=zH d0;have cN:=zH d1;obtain⟨p0,p1,p2,_⟩:=Kc d0;obtain⟨q0,q1,q2,_⟩:=Kc d1;have HE:=zH (@exn_eq x y);have pb:Aw (x≠y->decide (x=y)=AC):=fun h=>Lj h
 have WT:Aw (x=y->decide (x=y)=AA):=fun h=>Lm h
 obtain⟨r,hr⟩:∃r,decide (x=y)=r:=⟨_,rfl⟩;rw[hr] at pb WT ⊢;clear hr ab d0 d1 hB rU TC bP cH hx hy;go_enter func51,ntmps51
 by_cases h1:x.c=y.c
 case neg=>
  have hR:=zH (pb.out (fun h=>h1 (congrArg Exn.c h)));have e0:(x.c==y.c)=AC:=by simpa using h1
  clear pb WT HE h1 HR HL;go_wp2_with fail;rw[ai.out];go_wp2_with fail
  all_goals
   go_ret;exact⟨zn hR.out.symm,HB.out⟩
 case pos=>
 have e0:(x.c==y.c)=AA:=by simpa using h1
 have HC:=zH h1;clear h1;go_wp2_with fail;rw[ai.out];go_wp2_with fail;refine HR.out.mono ?_;rintro e w2 ⟨rfl,n,rfl⟩;have p2:(w1.drewN n).cell? ⟨w.heap.size,2,Z⟩=J (I A2 x.views.length a2):=zh bK.out 2 rfl;have q2:(w1.drewN n).cell? ⟨w.heap.size+1,2,Z⟩=J (I B2 y.views.length b2):=zh cN.out 2 rfl
 by_cases h2:x.word=y.word
 case neg=>
  have hR:=zH (pb.out (fun h=>h2 (congrArg Exn.word h)));rw[Lj h2];clear pb WT HE h2 HR HL;go_wp2_with fail
  all_goals
   go_ret;exact⟨zn hR.out.symm,zP HB.out n⟩
 case pos=>
 rw[Lm h2];have HW:=zH h2;clear h2;go_wp2_with fail;refine(HL.out n).mono ?_;rintro e w3 ⟨rfl,m,rfl⟩
 have hR:Aw (decide (x.views=y.views)=r):=by
  by_cases h3:x.views=y.views
  . exact(Lm h3).trans (WT.out (HE.out HC.out HW.out h3)).symm
  exact(Lj h3).trans (pb.out (fun h=>h3 (congrArg Exn.views h))).symm
 rw[hR.out];go_wp2_with fail
 all_goals
  go_ret;exact⟨rfl,zP HB.out _⟩
theorem eqX_any(A A':Bb)(cap aD:Nat)(vs us:List Exn)(w:Ba)(hA:XAt w w.heap.size A vs)(nd:XAt w w.heap.size A' us)(hl:vs.length<=17592186044416)(MM:us.length<=17592186044416)
  (hv:∀v∈vs,XA v) (hu:∀v∈us,XA v) :
  As Aq 50 #[I A vs.length cap,I A' us.length aD,.func (.func 51) #[] #[]] w fun e w'=>e=Am (Aj (decide (vs=us)))/\Ar w.heap.size w w':=by
 have HV:=zH hv;have HU:=zH hu;have HA:=zH hA;have HA':=zH nd;clear hv hu hA nd
 by_cases aU:vs.length=us.length
 . have HL:=zH aU
   have iR:((vs.length:Int) != (us.length:Int))=AC:=by simp[aU]
   clear aU;go_enter func50,ntmps50;go_wp2_with fail
   go_loopw [17] (fun i wr=>∃k:Nat,k<=vs.length/\i=O U k/\Aw (Ar w.heap.size w wr)/\Aw (vs.take k=us.take k)) (fun i _=>vs.length-(Au i).toNat)
   case atStart=>exact⟨0,by omega,rfl,Ll _ _,by show vs.take 0=us.take 0;simp⟩
   obtain⟨k,hk,rfl,hb,aO⟩:=hrel;have eU:k<=us.length:=by have:=HL.out;omega
   by_cases aa:k<vs.length
   . have cB:k<us.length:=by have:=HL.out;omega
     obtain⟨b,off,A1,c1,A2,c2,eA,aq,x0,x1,x2,hW,hI⟩:=(HA.out.keep hb.out).row k aa;obtain⟨b',eh,B1,d1,B2,d2,eB,dp,y0,y1,y2,tt,tv⟩:=(HA'.out.keep hb.out).row k cB;subst eA;subst eB;obtain⟨x,hx⟩:=Ki (vs[k]);obtain⟨y,hy⟩:=Ki (us[k]);have ed:=HV.out _ (Ld aa);have fY:=HU.out _ (Ld cB);have bj:=zH (fun (h:x≠y)=>(Lj (qY aa cB (by rw[hx,hy];exact h)):decide (vs=us)=AC));have fB:=zH (fun (h:x=y)=>xO aO.out aa cB (by rw[hx,hy];exact h));rw[hx] at x0 x1 x2 hW hI ed;rw[hy] at y0 y1 y2 tt tv fY;have aX:=hb.out.size;have aQ:b<wr.heap.size:=by omega
     have rh:b'<wr.heap.size:=by omega
     obtain⟨W2,iU,d0,d1',eQ,cH⟩:=yV wr #[O U x.c,I A1 x.word.length c1,I A2 x.views.length c2] #[O U y.c,I B1 y.word.length d1,I B2 y.views.length d2] 58 58;have HC:=zH (xsame_any x y ed fY A1 A2 B1 B2 c1 c2 d1 d2 W2 (((hW.more aX).keep cH).more cH.size) (((hI.more aX).keep cH).more cH.size) (((tt.more aX).keep cH).more cH.size) (((tv.more aX).keep cH).more cH.size));have aw:=zH (hb.out.trans (cH.mono aX));have KR:=zH iU;obtain⟨p0,p1,p2,_⟩:=Kc d0;obtain⟨q0,q1,q2,_⟩:=Kc d1';clear hW hI tt tv ed fY iU d0 d1' cH hx hy aO;have dh:(0:Int)<=(k:Int):=by omega
     have aW:(k:Int)<(vs.length:Int):=by omega
     have iH:(k:Int)<(us.length:Int):=by omega
     go_wp2_with fail;rw[KR.out];go_wp2_with fail;refine HC.out.mono ?_;rintro e w3 ⟨rfl,aj⟩;have aJ:=zH (Lc aw.out aj);clear aj HC p0 p1 p2 q0 q1 q2 x0 x1 x2 y0 y1 y2
     by_cases hv:x=y
     . have hz:=zH (fB.out hv)
       rw[Lm hv];clear hv fB bj;go_wp2_with fail
       go_roundw
       case rel=>exact⟨k+1,by omega,by go_num,aJ,hz⟩
       simp[Au];omega
     have hz:=zH (bj.out hv);rw[Lj hv];go_wp2_with fail;go_ret;exact⟨zn hz.out.symm,aJ.out⟩
   obtain rfl:k=vs.length:=by omega
   have hz:Aw (decide (vs=us)=AA):=Lm (ka HL.out aO.out);go_wp2_with fail;go_ret;exact⟨zn hz.out.symm,hb.out⟩
 have hz:Aw (decide (vs=us)=AC):=Lj (by rintro rfl;exact aU rfl);have iR:((vs.length:Int) != (us.length:Int))=AA:=by simp;omega
 clear aU;go_enter func50,ntmps50;go_wp2_with fail;go_ret;exact⟨zn hz.out.symm,Ll _ _⟩
theorem rnumber_any(a:Ad)(hf:FewA a)(hz:zQ a a.sts=0)(h1:1<=a.sts.length)(K L:Nat)(hK:K<=6)(hL:L<=1048576)(SV:Bb)(ks:Nat)(w:Ba)(hS:SAt w w.heap.size SV a.sts) :
  As Aq 76 #[Ak #[O U a.n,I SV a.sts.length ks],O U K,O U L] w fun e w'=>e=Am (O U ((xA L (yw a K 0):Nat):Int))/\Ar w.heap.size w w':=by
 have ly:=hf.1;have rF:=zH (fun l hl=>hf.each (l:=l) hl);have HZ:=zH (@qq a hz);go_enter func76,ntmps76;go_wp2_with fail;obtain⟨w1,ab⟩:=Ki (w.alloc (Ai #[O U a.n,I SV a.sts.length ks] 27));have aY:=zy w (Ai #[O U a.n,I SV a.sts.length ks] 27);have aM:Ar w.heap.size w w1:=by rw[<-ab];exact ye w _
 have eP:w1.heap.size=w.heap.size+1:=by rw[<-ab];simp
 rw[ab] at aY ⊢;have cJ:=zH aY;have ch:=zH aM;have HS:=zH ((hS.keep aM).more (by omega:w.heap.size<=w1.heap.size))
 go_loopw [7,8] (fun v i wr=>∃s:Nat,s<=a.sts.length/\i=O U (s:Int)/\Aw (Own wr w1.heap.size v (cl a L 0 s))/\Aw (Ar w1.heap.size w1 wr)) (fun _ i _=>a.sts.length-(Au i).toNat)
 case atStart=>exact⟨0,by omega,rfl,Own.nil _ _,Ll _ _⟩
 obtain⟨s,hs,rfl,HO,cA⟩:=hrel;have bC:=La cA.out cJ.out;have q1:=zh bC 1 rfl
 by_cases aa:s<a.sts.length
 case pos=>
  have px:=j9 a L 0 s;have HR:Aw (cl a L 0 (s+1)=cl a L 0 s++[1]):=by rw[Aw,cl_succ,show yw a 0 (s:Int)=1 from rfl,sat_one];rfl
  go_wp2_with (at_builtin;go_must (refine xd rfl _ _ rfl w1.heap.size u7 _ (1:Int) rfl HO.out rfl (by omega) cA.out.size ?_);intro v' w2 aI fD aq)
  go_roundw
  case rel=>exact⟨s+1,by omega,by go_num,by rw[HR.out];exact aI,cA.out.trans aq⟩
  simp[Au];omega
 case neg=>
 obtain rfl:s=a.sts.length:=by omega
 go_wp2_with fail
 go_loopw [7,9] (fun v i wr=>∃k:Nat,k<=K/\i=O U (k:Int)/\Aw (Own wr w1.heap.size v (cl a L k a.sts.length))/\Aw (Ar w1.heap.size w1 wr)) (fun _ i _=>K-(Au i).toNat)
 case atStart=>exact⟨0,by omega,rfl,HO,cA⟩
 obtain⟨k,hk,rfl,HO,cA⟩:=hrel
 by_cases PZ:k<K
 case neg=>
  obtain rfl:k=K:=by omega
  obtain⟨A,cap,hv,eU,mV,hI⟩:=HO.out.form;subst hv;have px:=j9 a L k a.sts.length;obtain⟨b,o,rfl,lz,hc⟩:=hI (by omega);have c0:=hc 0 (by omega);rw[Xp] at c0;rw[px] at eU;rw[show((0:Nat):Int)=0 from rfl,NS] at c0;obtain⟨r,hr⟩:=Ki (xA L (yw a k 0));rw[hr] at c0;have HRr:=zH hr;go_wp2_with fail;go_ret;exact⟨zm (by rw[HRr.out]),ch.out.trans (cA.out.mono (by omega))⟩
 case pos=>
 obtain⟨A,cap,hv,eU,mV,hI⟩:=HO.out.form;subst hv;have px:=j9 a L k a.sts.length;obtain⟨b0,o0,e0,SX,hc⟩:=hI (by omega);subst e0;rw[px] at eU;obtain⟨W2,iU⟩:=Ki wr
 have UV:Aw (∀X,Ar W2.heap.size W2 X->∀j:Nat,j<a.sts.length->X.cell? ⟨b0,o0+j,Z⟩=J (O U ((xA L (yw a k (j:Int)):Nat):Int))):=fun X hX j hj=>by
  rw[<-iU] at hX;have:=hc j (by omega);rw[Xp] at this;exact(hX.cell (p:=⟨b0,_,Z⟩) SX).trans this
 rw[iU] at HO cA SX ⊢;have VO:=cA.out.size;go_wp2_with fail;simp only[px]
 go_loopw [10,11] (fun v i wx=>∃s:Nat,s<=a.sts.length/\i=O U (s:Int)/\Aw (Own wx W2.heap.size v (cl a L (k+1) s))/\Aw (Ar W2.heap.size W2 wx)) (fun _ i _=>a.sts.length-(Au i).toNat)
 case atStart=>exact⟨0,by omega,rfl,Own.nil _ _,Ll _ _⟩
 obtain⟨s,hs,rfl,HP,bk⟩:=hrel;have aQ:=zH (cA.out.trans (bk.out.mono VO));have bC:=La aQ.out cJ.out;have q1:=zh bC 1 rfl
 by_cases f':s<a.sts.length
 case neg=>
  obtain rfl:s=a.sts.length:=by omega
  go_wp2_with fail
  go_roundw
  case rel=>exact⟨k+1,by omega,by go_num,HP.out.low VO,aQ⟩
  simp[Au];omega
 case pos=>
 obtain⟨b,o,A',k',e',lz,c1,hM⟩:=(HS.out.keep aQ.out).at_ s f';subst e';have iy:=rF.out _ (Ld f');have VN:=sumTo_end a k f';have UH:Aw (∀m∈a.sts[s],m∈a.mvs):=fun m hm=>NI.2 ⟨_,Ld f',hm⟩
 have pM:=zH hM;obtain⟨M,hM0⟩:=Ki (a.sts[s]);rw[hM0] at c1 iy UH VN pM;have sR:=zH VN;have DD:=j9 a L (k+1) s;go_wp2_with fail
 go_loop [12,13] (fun n i=>∃j:Nat,j<=M.length/\i=O U (j:Int)/\n=O U ((xA L (jx a k M j):Nat):Int)) (fun _ i=>M.length-(Au i).toNat)
 case atStart=>exact⟨0,by omega,rfl,by rw[sumTo_zero,J7];rfl⟩
 obtain⟨j,hj,rfl,rfl⟩:=hrel
 by_cases cq:j<M.length
 case neg=>
  obtain rfl:j=M.length:=by omega
  have HR:Aw (cl a L (k+1) (s+1)=cl a L (k+1) s++[((xA L (jx a k M M.length):Nat):Int)]):=by rw[Aw,cl_succ,sR.out]
  obtain⟨r,hr⟩:=Ki (xA L (jx a k M M.length));rw[hr] at HR ⊢;go_wp2_with (at_builtin;go_must (refine xd rfl _ _ rfl W2.heap.size u10 _ (r:Int) rfl HP.out rfl (by omega) bk.out.size ?_);intro v' w3 aI fD aq)
  go_roundw
  case rel=>exact⟨s+1,by omega,by go_num,by rw[HR.out];exact aI,bk.out.trans aq⟩
  simp[Au];omega
 case pos=>
 obtain⟨b2,o2,e2,cH,_,_,_,_,_,_,_,d7⟩:=pM.out.row j cq;subst e2;obtain⟨_,_,z3,z4⟩:=HZ.out _ (UH.out _ (Ld cq));have ME:=sumTo_succ a k M cq;obtain⟨t,et⟩:=Lp z3;rw[et] at d7 ME z4;have pj:t<a.sts.length:=by omega
 have u0:=UV.out _ bk.out t pj;have y1:=ge L (jx a k M j);have y2:=ge L (yw a k (t:Int));have y3:=sat_add L (jx a k M j) (yw a k (t:Int));rw[<-ME] at y3;obtain⟨n1,cU⟩:=Ki (xA L (jx a k M j));obtain⟨n2,EF⟩:=Ki (xA L (yw a k (t:Int)));rw[cU] at y1 y3 ⊢;rw[EF] at y2 y3 u0;have Ef:=zH y3;go_wp2_with fail
 go_round
 case rel => 
  refine⟨j+1,by omega,by go_num,?_⟩;rw[<-Ef.out];exact congrArg (O U) (by first | (split<;>omega) | omega)
 simp[Au];omega
theorem gj(p:Pb)(hf:JQ p)(hz:zQ p.a p.a.sts=0)(h1:1<=p.a.sts.length)(K L:Nat)(hk:p.k=(K:Int))(hK:K<=6)(hL:L<=1048576)(A:Bb)(kc:Nat)(SV:Bb)(ks:Nat)(w:Ba)(hS:SAt w w.heap.size SV p.a.sts) :
  As Aq 36 #[.agg (p.vs A kc SV ks),O U L] w fun e w'=>e=Am (O U ((p.t.cases.length*xA L (yw p.a K 0):Nat):Int))/\Ar w.heap.size w w':=by
 have sH:=hf.1.1;have HN:=zH (fun (w':Ba) (h:SAt w' w'.heap.size SV p.a.sts)=>rnumber_any p.a hf.2 hz h1 K L hK hL SV ks w' h);have Dy:=ge L (yw p.a K 0);obtain⟨r,hr⟩:=Ki (xA L (yw p.a K 0));rw[hr] at HN Dy ⊢;unfold Pb.vs;rw[hk];obtain⟨w1,ab⟩:=Ki (w.alloc (Ai (p.vs A kc SV ks) 29));have aY:=zy w (Ai (p.vs A kc SV ks) 29);have aM:Ar w.heap.size w w1:=by rw[<-ab];exact ye w _
 rw[ab] at aY;unfold Pb.vs at ab aY;rw[hk] at ab aY;have eP:w1.heap.size=w.heap.size+1:=by rw[<-ab];simp
 have ch:=zH aM;have HS:=zH ((hS.keep aM).more (by omega:w.heap.size<=w1.heap.size));have ai:=zH ab;have q3:=zh aY 3 rfl;have q4:=zh aY 4 rfl;have q5:=zh aY 5 rfl;have q6:=zh aY 6 rfl;obtain⟨cn,IG⟩:=Ki p.t.cases.length;rw[IG] at ai q3 sH ⊢;have hm:cn*r<=30*1048577:=LU sH (by omega);have hw:IntKind.i64.wrap ((cn:Int)*(r:Int))=((cn*r:Nat):Int):=by rw[Ls,<-Int.natCast_mul];omega
 go_enter func36,ntmps36;go_wp2_with fail;rw[ai.out];have en:w.heap.size<w1.heap.size:=by omega
 have eG:Aw (∀X,Ar w1.heap.size w1 X->X.cell? ⟨w.heap.size,3,Z⟩=J (I A cn kc)/\X.cell? ⟨w.heap.size,4,Z⟩=J (O U p.a.n)/\X.cell? ⟨w.heap.size,5,Z⟩=J (I SV p.a.sts.length ks)/\X.cell? ⟨w.heap.size,6,Z⟩=J (O U K)):=fun X hX=>
  ⟨(hX.cell (p:=⟨_,_,Z⟩) en).trans q3,(hX.cell (p:=⟨_,_,Z⟩) en).trans q4,(hX.cell (p:=⟨_,_,Z⟩) en).trans q5,(hX.cell (p:=⟨_,_,Z⟩) en).trans q6⟩
 have Ut:Aw (∀X,Ar w1.heap.size w1 X->SAt X X.heap.size SV p.a.sts):=fun X hX=>(HS.out.keep hX).more hX.size
 go_region_held3 (fun w'=>w'.cell? ⟨w.heap.size,3,Z⟩=J (I A cn kc)/\w'.cell? ⟨w.heap.size,4,Z⟩=J (O U p.a.n)/\w'.cell? ⟨w.heap.size,5,Z⟩=J (I SV p.a.sts.length ks)/\w'.cell? ⟨w.heap.size,6,Z⟩=J (O U K))
  (first | exact⟨q3,q4,q5,q6⟩ | exact eG.out _ (kF aj) | exact eG.out _ aj)
  ((go_at_call 76;refine(HN.out _ (Ut.out _ (by repeat (first | exact Ll _ _ | refine Below.drew ?_ | refine zP ?_ _)))).mono ?_;rintro e w3 ⟨rfl,aj⟩))
 have sk:=zH (ch.out.trans ((kF aj).mono (by have:w1.drew.heap.size=w1.heap.size:=rfl;omega)));go_wp2_with fail;go_ret;exact⟨zm (by first | rfl | rw[hw]),sk.out⟩
def YQ(p:Pb):Nat:=p.t.cases.length*xA 4096 (yw p.a p.k.toNat 0)
def Xi(a:Ad):Bool:=decide (a.sts.length<=8)&&decide (a.mvs.length<=40)
def qR(p:Pb):Bool:=vH p.t&&Xi p.a&&!(decide (3<p.t.n)&&decide (p.t.n<=5))&&(decide (zY p≠0)||(decide (YQ p<=60)||decide (4096<YQ p)))
theorem fewPB_t{p:Pb}(h:vH p.t=AC):qR p=AC:=by unfold qR;rw[h];rfl
theorem fewPB_a{p:Pb}(h:Xi p.a=AC):qR p=AC:=by unfold qR;rw[h];simp
theorem fewPB_n{p:Pb}(h:3<p.t.n)(h2:p.t.n<=5):qR p=AC:=by unfold qR;rw[Lm h,Lm h2];simp
theorem fewPB_e{p:Pb}(h:vH p.t=AA)(h1:Xi p.a=AA)(h2:¬(3<p.t.n/\p.t.n<=5))(h3:zY p≠0):qR p=AA:=by
 unfold qR;have e:(decide (3<p.t.n)&&decide (p.t.n<=5))=AC:=by simpa[Bool.and_eq_false_imp] using fun x=>by omega
 rw[h,h1,e,Lm h3];rfl
theorem fewPB_m{p:Pb}(h:vH p.t=AA)(h1:Xi p.a=AA)(h2:¬(3<p.t.n/\p.t.n<=5))(h3:zY p=0):qR p=(decide (YQ p<=60)||decide (4096<YQ p)):=by
 unfold qR;have e:(decide (3<p.t.n)&&decide (p.t.n<=5))=AC:=by simpa[Bool.and_eq_false_imp] using fun x=>by omega
 rw[h,h1,e,h3];simp
theorem QM{a:Ad}:Xi a=AA↔FewA a:=by unfold Xi FewA;simp
theorem num_exec{p:Pb}(h:zY p=0):(YQ p<=60\/4096<YQ p)->(yx p<=60\/4096<yx p):=by
 obtain⟨mP,_⟩:=yf h;obtain⟨h1,_⟩:=xJ mP;intro hn;have e:yx p=p.t.cases.length*yw p.a p.k.toNat 0:=by unfold yx;rw[Pv]
 have hm:=sat_mul 4096 p.t.cases.length (yw p.a p.k.toNat 0) h1;rw[e];rcases hn with hn | hn
 . left
   unfold YQ at hn;have eU:xA 4096 (yw p.a p.k.toNat 0)<=60:=Lz (Nat.le_mul_of_pos_left _ h1) hn;have hx:yw p.a p.k.toNat 0<=4096:=by unfold xA at eU;omega
   rwa[sat_eq hx] at hn
 right;exact hm.1 hn
theorem few_x{p:Pb}(h:qR p=AA):xz p/\¬(3<p.t.n/\p.t.n<=5):=by
 unfold qR at h;simp only[Bool.and_eq_true,Bool.not_eq_true',Bool.or_eq_true,decide_eq_true_eq] at h;obtain⟨⟨⟨h1,h2⟩,h3⟩,h4⟩:=h;refine⟨⟨⟨fewT_iff.1 h1,QM.1 h2⟩,fun h0=>?_⟩,fun hn=>?_⟩
 . rcases h4 with h4 | h4
   . exact absurd h0 h4
   exact num_exec h0 h4
 rw[Lm hn.1,Lm hn.2] at h3
 cases h3
theorem few_any(p:Pb)(hl:LowP p)(A:Bb)(kc:Nat)(SV:Bb)(ks:Nat)(w:Ba)(hA:CAt w w.heap.size A p.t.cases)(hS:SAt w w.heap.size SV p.a.sts) :
  As Aq 12 #[.agg (p.vs A kc SV ks)] w fun e w'=>e=Am (Aj (qR p))/\Ar w.heap.size w w':=by
 have HT:=zH (fun (w':Ba) (h:CAt w' w'.heap.size A p.t.cases)=>rfewT_any p.t A kc hl.1.1 hl.1.2 w' h);have HD:=zH (fun (w':Ba) (h:SAt w' w'.heap.size SV p.a.sts)=>rfewA_any p.a SV ks hl.2.1 hl.2.2 w' h);have HC:=zH (fun (hf:JQ p) (w':Ba) (h1:CAt w' w'.heap.size A p.t.cases) (h2:SAt w' w'.heap.size SV p.a.sts)=>vj p hf A kc SV ks w' h1 h2);have az:=zH (@fewPB_t p);have au:=zH (@fewPB_a p);have aN:=zH (@fewPB_n p);have du:=zH (@fewPB_e p);have fM:=zH (@fewPB_m p);obtain⟨R,EW⟩:=Ki (qR p);rw[EW] at az au aN du fM ⊢;obtain⟨w1,ab⟩:=Ki (w.alloc (Ai (p.vs A kc SV ks) 29));have aY:=zy w (Ai (p.vs A kc SV ks) 29);have aM:Ar w.heap.size w w1:=by rw[<-ab];exact ye w _
 have eP:w1.heap.size=w.heap.size+1:=by rw[<-ab];simp
 rw[ab] at aY
 have HN:=zH (fun (w':Ba) (hf:JQ p) (h0:zY p=0) (h:SAt w' w'.heap.size SV p.a.sts)=>
  gj p hf (xv hf.2 (yf h0).2.1).1 (xv hf.2 (yf h0).2.1).2.1 p.k.toNat 4096 (by have:=(yf h0).2.2.2.1;omega) (by have:=(yf h0).2.2.2.2;omega) (by decide) A kc SV ks w' h)
 unfold Pb.vs at ab aY ⊢;have cJ:=zH aY;have ch:=zH aM;have HA:=zH ((hA.keep aM).more (by omega:w.heap.size<=w1.heap.size));have HS:=zH ((hS.keep aM).more (by omega:w.heap.size<=w1.heap.size));have ai:=zH ab;obtain⟨q0,q1,q2,q3,_⟩:=Kb aY;clear hA hS ab aM aY hl EW;obtain⟨bT,hbT⟩:=Ki (vH p.t);obtain⟨bA,le⟩:=Ki (Xi p.a);have mt:Aw ((decide (p.a.sts.length<=8)&&decide (p.a.mvs.length<=40))=bA):=le;rw[hbT] at HT az du fM;rw[le] at au du fM;have KX:=zH hbT;have KY:=zH le;clear hbT le;go_enter func12,ntmps12;go_wp2_with fail;rw[ai.out];go_wp2_with fail;refine(HT.out w1 HA.out).mono ?_;rintro e w2 ⟨rfl,ag⟩;have B2:=zH (ch.out.trans (ag.mono (by omega)));have dS:=zH ((HS.out.keep ag).more ag.size);have Et:=zH ((HA.out.keep ag).more ag.size);have bC:=La ag cJ.out;have aw:=zH bC;have eQ:=ag.size;have q4:=zh bC 4 rfl;have q5:=zh bC 5 rfl;clear ag bC HT ai q0 q1 q2 q3
 cases bT with
 | false=>
  have hR:=zH (az.out rfl);clear az au aN du fM HD;go_wp2_with fail;go_ret;exact⟨zn hR.out.symm,B2.out⟩
 | true=>
 clear az;go_wp2_with fail;refine(HD.out w2 dS.out).mono ?_;rw[mt.out];rintro e w3 ⟨rfl,aj⟩;have B3:=zH (B2.out.trans (aj.mono (by omega)));have oY:=zH ((dS.out.keep aj).more aj.size);have lU:=zH ((Et.out.keep aj).more aj.size);have bC:=La aj aw.out;have aJ:=zH bC;have eK:=aj.size;obtain⟨q0,q1,q2,q3,q4,q5,q6,_⟩:=Kf bC;clear aj bC HD
 cases bA with
 | false=>
  have hR:=zH (au.out rfl);clear au aN du fM;go_wp2_with fail;go_ret;exact⟨zn hR.out.symm,B3.out⟩
 | true=>
 clear au;have HFP:Aw (JQ p):=⟨fewT_iff.1 KX.out,QM.1 KY.out⟩;have F4:=zH (du.out (by simp) (by simp));have F5:=zH (fM.out (by simp) (by simp));clear du fM KX KY mt
 by_cases h3:3<p.t.n/\p.t.n<=5
 case pos=>
  have hR:=zH (aN.out h3.1 h3.2);obtain⟨h31,h32⟩:=h3;clear aN F4 F5;go_wp2_with fail
  all_goals first | (exfalso;omega) | skip
  all_goals
   go_ret;exact⟨zn hR.out.symm,B3.out⟩
 case neg=>
 have G4:=zH (F4.out h3);have G5:=zH (F5.out h3);clear aN F4 F5;obtain⟨E,hE⟩:=Ki (zY p);rw[hE] at HC G4 G5;have od:=zH hE;clear hE;obtain⟨M,hM⟩:=Ki (p.t.cases.length*xA 4096 (yw p.a p.k.toNat 0));have pM:Aw (YQ p=M):=hM;rw[hM] at HN;clear hM;have h35:¬(3<p.t.n)\/(3<p.t.n/\¬p.t.n<=5):=by omega
 clear h3;rcases h35 with h31 | ⟨h31,h32⟩
 all_goals
  go_wp2_with fail
  all_goals first | (exfalso;omega) | skip
  refine(HC.out HFP.out w3 lU.out oY.out).mono ?_;rintro e w4 ⟨rfl,aG⟩;have B4:=zH (B3.out.trans (aG.mono (by omega)));have Db:=zH ((oY.out.keep aG).more aG.size);have bC:=La aG aJ.out;have oA:=aG.size;obtain⟨q0,q1,q2,q3,q4,q5,q6,_⟩:=Kf bC;clear aG bC HC
  by_cases h0:E=0
  case neg=>
   have hR:=zH (G4.out h0);have e0:(E != 0)=AA:=by simpa using h0
   clear G4 G5 h0 HN;go_wp2_with fail;go_ret;exact⟨zn hR.out.symm,B4.out⟩
  case pos=>
   subst h0;have hR:=zH (G5.out rfl);rw[pM.out] at hR;clear G4 G5;go_wp2_with fail;refine(HN.out w4 HFP.out od.out Db.out).mono ?_;rintro e w5 ⟨rfl,aA⟩;have B5:=zH (B4.out.trans (aA.mono (by omega)));clear aA HN pM q0 q1 q2 q3 q4 q5 q6
   by_cases hm:M<=60
   . have nB:Aw (R=AA):=hR.out.trans (by rw[Lm hm];rfl)
     clear hR;go_wp2_with fail
     all_goals first | (exfalso;omega) | skip
     go_ret;exact⟨zn nB.out.symm,B5.out⟩
   . have nB:Aw (R=decide (4096<M)):=hR.out.trans (by rw[Lj hm];rfl)
     clear hR;go_wp2_with fail
     all_goals first | (exfalso;omega) | skip
     go_ret;exact⟨zn (by rw[nB.out,Lj (show ¬((M:Int)<=60) by omega),RE];exact dec_eq (by omega)),B5.out⟩
def yh(s:Sy):Int:=if (yj s.p).2≠0 then (yj s.p).2 else if s=(yj s.p).1 then 0 else 3
theorem Z0(p:Pb)(h:zY p=0)(iV:yx p<=60):(zK p (zD p)).1.length<=2100/\(zK p (zD p)).2.length<=60:=by
 obtain⟨mP,_,_,dh,oF⟩:=yf h;obtain⟨h1,cU,fl⟩:=xJ mP
 have hl:p.t.cases.length*(zT p.a p.k.toNat 0).length<=60:=by
  rw[xe];unfold yx at iV;rw[Pv];exact iV
 rw[Jj p];refine⟨Yq p _ (by omega) (fun w hw=>?_) _ hl,?_⟩
 . rw[xW p.a _ 0 w hw];omega
 rw[qI,Z2];exact hl
theorem runW_mem(p:Pb)(l:List (Nat×List Rd)):∀x∈(zK p l).2,∃y∈l,∃vs,x=⟨y.1,y.2,(zI vs p.t.n.toNat (yt p y.1) y.2 y.2.length).2⟩:=by
 have key:∀n,n<=l.length->∀x∈(zK p (l.take n)).2,∃y∈l,∃vs,x=⟨y.1,y.2,(zI vs p.t.n.toNat (yt p y.1) y.2 y.2.length).2⟩:=by
  intro n
  induction n with
  | zero=>intro _ x hx;simp[jB] at hx
  | succ n ih=>
   intro hl x hx;rw[Lr (by omega),qz] at hx;rcases Nh.1 hx with hx | hx
   . exact ih (by omega) x hx
   . rw[L4] at hx
     exact⟨l[n],Ld _,_,hx⟩
 have:=key l.length (Le _);rwa[LC] at this
theorem JR:LowS kH:=⟨⟨⟨by decide,fun c h=>by simp[kH] at h⟩,by decide,fun c h=>by simp[kH] at h⟩,by decide,by decide,fun c h=>by simp[kH] at h⟩
theorem gW{p:Pb}(hp:LowP p)(hf:xz p):LowS (yj p).1:=by
 by_cases h0:zY p=0
 case neg=>rw[xy h0];exact JR
 case pos=>
 rcases hf.2 h0 with iV | iV
 case inr=>rw[qd h0 iV];exact JR
 case inl=>
 rw[kg h0 (by omega)];obtain⟨r1,r2⟩:=Z0 p h0 iV;obtain⟨mP,_,_,dh,oF⟩:=yf h0;obtain⟨h1,cU,fl⟩:=xJ mP;refine⟨hp,by show(zK p (zD p)).1.length<=_;omega,by show(zK p (zD p)).2.length<=_;omega,fun x hx=>?_⟩;obtain⟨y,hy,vs,rfl⟩:=runW_mem p (zD p) x hx
 have fY:y.2.length<=6:=by
  unfold zD at hy;obtain⟨d,_,hy⟩:=NJ.1 hy;obtain⟨w',lX,rfl⟩:=LZ.1 hy;show w'.length<=6;rw[xW p.a _ 0 w' lX];omega
 refine⟨by show y.2.length<=_;omega,?_,fun v hv=>?_⟩
 . show(zI vs p.t.n.toNat (yt p y.1) y.2 y.2.length).2.length<=_
   rw[yW];omega
 rw[kY _ _ _ _ _ v hv];omega
theorem wh(s:Sy)(hs:LowS s)(hf:xz s.p)(A SV AV AX:Bb)(kc ks kv kx:Nat)(w:Ba)(hS:SyAt w w.heap.size A SV AV AX s) :
  As Aq 24 #[.agg (s.vs_ A kc SV ks AV kv AX kx)] w fun e w'=>e=Am (O U (yh s))/\Ar w.heap.size w w':=by
 obtain⟨w1,ab⟩:=Ki (w.alloc (Ai (s.vs_ A kc SV ks AV kv AX kx) 35));have aY:=zy w (Ai (s.vs_ A kc SV ks AV kv AX kx) 35);have aM:Ar w.heap.size w w1:=by rw[<-ab];exact ye w _
 have eP:w1.heap.size=w.heap.size+1:=by rw[<-ab];simp
 rw[ab] at aY;have mG:=zH (hS.up aM);have HB:=zH (build_any s.p hf A kc SV ks w1 (hS.up aM).fc (hS.up aM).fs);have nF:=zH (gW hs.fp hf);have Cp:=zH hs;have rx:Aw (yh s=if (yj s.p).2≠0 then (yj s.p).2 else if s=(yj s.p).1 then 0 else 3):=rfl
 have cx:=zH (fun (h:(yj s.p).2=0)=>(by
  by_cases h0:zY s.p=0
  case neg=>rw[xy h0] at h;exact absurd h h0
  case pos=>
   by_cases h1:4096<yx s.p
   . rw[qd h0 h1] at h;cases h
   . rw[kg h0 (by omega)];exact⟨rfl,rfl⟩:(yj s.p).1.p=s.p/\(yj s.p).1.n=s.p.t.n))
 unfold Sy.vs_ at ab aY ⊢;unfold Pb.vs at HB;have ai:=zH ab;have cJ:=zH aY;have ch:=zH aM;have p6:=zh aY 6 rfl;obtain⟨R,hR⟩:=Ki (yj s.p);rw[hR] at HB nF rx cx;obtain⟨r,hr⟩:=Ki (yh s);rw[hr] at rx ⊢;clear ab aY aM hS hs hf hR hr;go_enter func24,ntmps24;go_wp2_with fail;rw[ai.out];go_wp2_with fail;refine HB.out.mono ?_;rintro e w2 ⟨A2,Dm,T1,Dl,Mu,Ht,Mt,Hs,rfl,Th,sn,oL,ag⟩;obtain⟨T,E⟩:=R;obtain⟨W3,fU,b3,eK,ct⟩:=zk w2 (T.vs_ A2 Dm T1 Dl Mu Ht Mt Hs) 35;have oY:=zH (Th.up ct);have aJ:=zH (ch.out.trans ((Lc ag ct).mono (by omega)));have eQ:=ag.size;have d0:=Lb ct (by omega:w.heap.size<w2.heap.size) (Lb ag (by omega:w.heap.size<w1.heap.size) cJ.out);have Ei:=zH ((mG.out.up ag).up ct);unfold Sy.vs_ at fU b3 ⊢;have io:=zH fU;have bK:=zH d0;have sY:=zH b3;clear ag Th sn oL ct fU HB ai p6 mG cJ;dsimp only at rx cx nF oY;go_simp;rename_i mZ;refine mZ _ _ ?_;clear mZ;refine L8 rfl fun K5 cM=>?_
 go_simp;refine cM _ _ ?_;clear cM K5;refine L8 rfl fun K5 cM=>?_
 go_simp;refine cM _ _ ?_;clear cM K5;refine L8 rfl fun K5 cM=>?_
 go_simp;refine cM _ _ ?_;clear cM K5;refine L8 rfl fun K5 cM=>?_
 go_simp;refine cM _ _ ?_;clear cM K5;refine L8 rfl fun K5 cM=>?_
 go_simp;rw[io.out];refine cM _ _ ?_
 by_cases h0:E=0
 case neg=>
  have e0:(E != 0)=AA:=by simpa using h0
  have hR:Aw (r=E):=rx.out.trans (Li h0);clear rx cx h0 d0 b3;go_wp2_with fail;go_ret;exact⟨zm hR.out.symm,aJ.out⟩
 case pos=>
 subst h0;obtain⟨Tc,DW⟩:=cx.out rfl;have CR:r=if s=T then 0 else 3:=rx.out.trans (Lg (by simp));have H3:Aw (s≠T->r=3):=fun h=>CR.trans (Lg h)
 have H0:Aw (s=T->r=0):=fun h=>CR.trans (Li h)
 have HTP:=zH Tc;have tD:=zH (@sy_eq s T);have x7:W3.cell? ⟨w.heap.size,7,Z⟩=J (O U s.n):=zh d0 7 rfl;have x8:W3.cell? ⟨w.heap.size,8,Z⟩=J (I AV s.vs.length kv):=zh d0 8 rfl;have y7:W3.cell? ⟨w2.heap.size,7,Z⟩=J (O U T.n):=zh b3 7 rfl;have y8:W3.cell? ⟨w2.heap.size,8,Z⟩=J (I Mu T.vs.length Ht):=zh b3 8 rfl;have Hc:=zH (eqV_any AV Mu kv Ht s.vs T.vs W3 W3.heap.size (Le _) Ei.out.fv oY.out.fv Cp.out.fv nF.out.fv);have C9:=zH (fun n=>eqX_any AX Mt kx Hs s.xs T.xs (W3.drewN n) Ei.out.fx oY.out.fx (Lz Cp.out.fx (by decide)) (Lz nF.out.fx (by decide)) Cp.out.fe nF.out.fe);clear Tc DW CR rx cx d0 b3 nF Cp
 by_cases h1:s.n=T.n
 case neg=>
  have hR:=zH (H3.out (fun h=>h1 (congrArg Sy.n h)));have e0:(s.n != T.n)=AA:=by simpa using h1
  clear H3 H0 h1 Hc C9 tD;go_wp2_with fail
  all_goals
   go_ret;exact⟨zm hR.out.symm,aJ.out⟩
 case pos=>
 have e0:(s.n != T.n)=AC:=by simpa using h1
 have De:=zH h1;go_wp2_with fail;refine Hc.out.mono ?_;rintro e w4 ⟨rfl,n,rfl⟩;have x9:(W3.drewN n).cell? ⟨w.heap.size,9,Z⟩=J (I AX s.xs.length kx):=zh bK.out 9 rfl;have y9:(W3.drewN n).cell? ⟨w2.heap.size,9,Z⟩=J (I Mt T.xs.length Hs):=zh sY.out 9 rfl
 by_cases h2:s.vs=T.vs
 case neg=>
  have hR:=zH (H3.out (fun h=>h2 (congrArg Sy.vs h)));rw[Lj h2];go_wp2_with fail
  all_goals
   go_ret;exact⟨zm hR.out.symm,zP aJ.out n⟩
 case pos=>
 rw[Lm h2];have Uq:=zH h2;go_wp2_with fail;refine(C9.out n).mono ?_;rintro e w5 ⟨rfl,aA⟩;have B5:=zH (aJ.out.trans ((zP (Ll W3.heap.size W3) n).trans aA |>.mono (by omega)))
 by_cases h3:s.xs=T.xs
 case neg=>
  have hR:=zH (H3.out (fun h=>h3 (congrArg Sy.xs h)));rw[Lj h3];go_wp2_with fail
  all_goals
   go_ret;exact⟨zm hR.out.symm,B5.out⟩
 have hR:=zH (H0.out (tD.out HTP.out.symm ⟨De.out,Uq.out⟩ h3));rw[Lm h3];go_wp2_with fail
 all_goals
  go_ret;exact⟨zm hR.out.symm,B5.out⟩
end
section
def At(vs:List Vw)(i:Int)(v:Vw):Prop:=0<=i/\vs[i.toNat]?=J v
theorem At.mono{vs us:List Vw}{i:Int}{v:Vw}(h:At vs i v):At (vs++us) i v:=
 ⟨h.1,by rw[LY (Lv.1 h.2).1];exact h.2⟩
theorem At.lt{vs:List Vw}{i:Int}{v:Vw}(h:At vs i v):0<=i/\i<vs.length:=⟨h.1,by have:=(Lv.1 h.2).1;have:=h.1;omega⟩
theorem putW_pre(vs:List Vw)(v:Vw):∃us,(qu vs v).1=vs++us:=by
 unfold qu
 split
 . exact⟨[],by simp⟩
 exact⟨[v],rfl⟩
theorem putW_at(vs:List Vw)(v:Vw):At (qu vs v).1 (qu vs v).2 v:=by
 unfold qu
 split
 . rename_i h
   unfold jj;rw[Li h];refine⟨by omega,?_⟩;have h1:=Pm h;show vs[((vs.idxOf v:Nat):Int).toNat]?=_;rw[Lo,Ln h1,Sc]
 refine⟨by omega,?_⟩;show(vs++[v])[((vs.length:Nat):Int).toNat]?=_;rw[Lo];simp
theorem putW_mem(vs:List Vw)(v:Vw):∀u∈(qu vs v).1,u∈vs\/u=v:=by
 unfold qu
 split
 . exact fun u h=>.inl h
 intro u h;rcases Nh.1 h with h | h
 . exact .inl h
 exact .inr (L4.1 h)
theorem putW_nodup{vs:List Vw}(v:Vw)(h:vs.Nodup):(qu vs v).1.Nodup:=by
 unfold qu
 split
 . exact h
 rename_i hn;exact List.nodup_append.2 ⟨h,by simp,fun a ha b hb=>by rw[L4] at hb;subst hb;exact fun e=>hn (e▸ha)⟩
theorem vm(f:Nat->Vw)(vs:List Vw):∀p,∃us,(yH f vs p).1=vs++us
 | 0=>⟨[],by simp[yH]⟩
 | p+1=>by
  obtain⟨u1,h1⟩:=vm f vs p;obtain⟨u2,h2⟩:=putW_pre (yH f vs p).1 (f p);exact⟨u1++u2,by rw[yH];dsimp only;rw[h2,h1,Nn]⟩
theorem rowW_at(f:Nat->Vw)(vs:List Vw):∀n p,p<n->At (yH f vs n).1 ((yH f vs n).2.getD p 0) (f p)
 | n+1,p,h=>by
  rw[yH];dsimp only;have hl:=qn f vs n
  by_cases hp:p<n
  . rw[Lk,LY (by omega),<-Lk]
    obtain⟨u2,h2⟩:=putW_pre (yH f vs n).1 (f n);rw[h2];exact(rowW_at f vs n p hp).mono
  . obtain rfl:p=n:=by omega
    rw[Lk,LW (by omega),hl,N0];exact putW_at _ _
theorem Yw(f:Nat->Vw)(vs:List Vw):∀n,∀u∈(yH f vs n).1,u∈vs\/∃p,p<n/\u=f p
 | 0,u,h=>.inl h
 | n+1,u,h=>by
  rw[yH] at h;rcases putW_mem _ _ u h with h | h
  . rcases Yw f vs n u h with h | ⟨p,hp,e⟩
    . exact .inl h
    . exact .inr ⟨p,by omega,e⟩
  . exact .inr ⟨n,by omega,h⟩
theorem uG(f:Nat->Vw){vs:List Vw}(h:vs.Nodup):∀n,(yH f vs n).1.Nodup
 | 0=>h
 | n+1=>by rw[yH];exact putW_nodup _ (uG f h n)
def uh(vs:List Vw)(n:Nat)(inp:List Int)(word:List Rd)(k:Nat):List Int:=(zI vs n inp word k).2.getD k []
def fV(vs:List Vw)(n:Nat)(inp:List Int)(word:List Rd):Nat->Nat->Vw
 | 0,p=>xr p (inp.getD p 0)
 | k+1,p=>qy (word.getD k default) (k+1) p (uh vs n inp word k)
section
variable (vs:List Vw) (n:Nat) (inp:List Int) (word:List Rd)
theorem gC:∀j,(∃us,(zI vs n inp word j).1=vs++us)/\∀k,k<=j->∃us,(zI vs n inp word j).1=(zI vs n inp word k).1++us
 | 0=>⟨by rw[zI];exact vm _ vs n,fun k hk=>⟨[],by obtain rfl:k=0:=(by omega);simp⟩⟩
 | j+1=>by
  obtain⟨⟨u1,h1⟩,h2⟩:=gC j;obtain⟨u3,h3⟩:=vm (fun p=>qy (word.getD j default) (j+1) p ((zI vs n inp word j).2.getD j [])) (zI vs n inp word j).1 n;have e:(zI vs n inp word (j+1)).1=(zI vs n inp word j).1++u3:=by rw[zI];exact h3
  refine⟨⟨u1++u3,by rw[e,h1,Nn]⟩,fun k hk=>?_⟩
  by_cases Wc:k<=j
  . obtain⟨u4,h4⟩:=h2 k Wc
    exact⟨u4++u3,by rw[e,h4,Nn]⟩
  . obtain rfl:k=j+1:=by omega
    exact⟨[],by simp⟩
theorem jW:∀j k,k<=j->(zI vs n inp word j).2.getD k []=uh vs n inp word k
 | 0,k,h=>by obtain rfl:k=0:=(by omega);rfl
 | j+1,k,h=>by
  by_cases Wc:k<=j
  . rw[<-jW j k Wc,zI,Lk,LY (by rw[yW];omega),<-Lk]
  . obtain rfl:k=j+1:=by omega
    rfl
theorem jD(k:Nat):(uh vs n inp word k).length=n:=by
 have h:k<(zI vs n inp word k).2.length:=by rw[yW];omega
 unfold uh;rw[Lk,Ln h];exact kY vs n inp word k _ (Ld h)
theorem rowK_eq:∀k,∃us,(zI vs n inp word k).1=(yH (fV vs n inp word k) us n).1/\uh vs n inp word k=(yH (fV vs n inp word k) us n).2
 | 0=>⟨vs,rfl,rfl⟩
 | k+1=>⟨(zI vs n inp word k).1,rfl,by
   unfold uh;rw[zI,Lk,LW (by rw[yW];omega),yW,N0]
   rfl⟩
theorem vX(j k p:Nat)(hk:k<=j)(hp:p<n):At (zI vs n inp word j).1 ((uh vs n inp word k).getD p 0) (fV vs n inp word k p):=by
 obtain⟨us,e1,e2⟩:=rowK_eq vs n inp word k;obtain⟨u4,h4⟩:=(gC vs n inp word j).2 k hk;rw[h4,e2,e1];exact(rowW_at _ us n p hp).mono
theorem play_mem:∀j,∀u∈(zI vs n inp word j).1,u∈vs\/∃k p,k<=j/\p<n/\u=fV vs n inp word k p
 | 0,u,h=>by
  rw[zI] at h;rcases Yw _ vs n u h with h | ⟨p,hp,e⟩
  . exact .inl h
  . exact .inr ⟨0,p,Le _,hp,e⟩
 | j+1,u,h=>by
  rw[zI] at h;rcases Yw _ _ n u h with h | ⟨p,hp,e⟩
  . rcases play_mem j u h with h | ⟨k,p,hk,hp,e⟩
    . exact .inl h
    . exact .inr ⟨k,p,by omega,hp,e⟩
  . exact .inr ⟨j+1,p,Le _,hp,e⟩
theorem YJ(h:vs.Nodup):∀j,(zI vs n inp word j).1.Nodup
 | 0=>by rw[zI];exact uG _ h n
 | j+1=>by rw[zI];exact uG _ (YJ h j) n
end
structure XFin(p:Pb)(Mx:List Vw)(c:Nat)(word:List Rd)(x:Exn)(vs:List Vw):Prop where
 hc:x.c=(c:Int)
 hw:x.word=word
 hv:x.views=(zI vs p.t.n.toNat (yt p c) word word.length).2
 ht:∃us,Mx=(zI vs p.t.n.toNat (yt p c) word word.length).1++us
theorem Yr(p:Pb)(l:List (Nat×List Rd)) :
  (∀i (h:i<l.length),∃x vs,(zK p l).2[i]?=J x/\XFin p (zK p l).1 l[i].1 l[i].2 x vs)/\(∀u∈(zK p l).1,∃y∈l,∃vs k q,k<=y.2.length/\q<p.t.n.toNat/\u=fV vs p.t.n.toNat (yt p y.1) y.2 k q/\∃us,(zK p l).1=(zI vs p.t.n.toNat (yt p y.1) y.2 y.2.length).1++us)/\(zK p l).1.Nodup:=by
 have key:∀n,n<=l.length ->
   (∀i (h:i<n) (hl:i<l.length),∃x vs,(zK p (l.take n)).2[i]?=J x/\XFin p (zK p (l.take n)).1 l[i].1 l[i].2 x vs)/\(∀u∈(zK p (l.take n)).1,∃y∈l,∃vs k q,k<=y.2.length/\q<p.t.n.toNat/\u=fV vs p.t.n.toNat (yt p y.1) y.2 k q/\∃us,(zK p (l.take n)).1=(zI vs p.t.n.toNat (yt p y.1) y.2 y.2.length).1++us)/\(zK p (l.take n)).1.Nodup:=by
  intro n
  induction n with
  | zero=>intro _;exact⟨fun i h=>absurd h (by omega),fun u h=>by simp[jB] at h,by simp[jB]⟩
  | succ n ih=>
   intro hn;obtain⟨h1,h2,h3⟩:=ih (by omega);have eN:n<l.length:=by omega
   have e:zK p (l.take (n+1))=((zI (zK p (l.take n)).1 p.t.n.toNat (yt p l[n].1) l[n].2 l[n].2.length).1,(zK p (l.take n)).2++[⟨l[n].1,l[n].2,(zI (zK p (l.take n)).1 p.t.n.toNat (yt p l[n].1) l[n].2 l[n].2.length).2⟩]):=by
    rw[Lr eN,qz]
   obtain⟨⟨u0,H7⟩,_⟩:=gC (zK p (l.take n)).1 p.t.n.toNat (yt p l[n].1) l[n].2 l[n].2.length;have aS:(zK p (l.take n)).2.length=n:=by rw[qI,N8];omega
   rw[e];dsimp only;refine⟨fun i hi hl=>?_,fun u hu=>?_,YJ _ _ _ _ h3 _⟩
   . by_cases dm:i<n
     . obtain⟨x,vs,hx,⟨a,b,c,⟨us,fF⟩⟩⟩:=h1 i dm hl
       refine⟨x,vs,by rw[LY (by omega)];exact hx,a,b,c,us++u0,?_⟩;rw[H7,fF,Nn]
     . obtain rfl:i=n:=by omega
       refine⟨_,(zK p (l.take i)).1,by rw[LW (by omega),aS,N0];rfl,rfl,rfl,rfl,[],by simp⟩
   . rcases play_mem _ _ _ _ _ u hu with h | ⟨k,q,hk,hq,eu⟩
     . obtain⟨y,hy,vs,k,q,a,b,c,us,fF⟩:=h2 u h
       exact⟨y,hy,vs,k,q,a,b,c,us++u0,by rw[H7,fF,Nn]⟩
     . exact⟨l[n],Ld _,(zK p (l.take n)).1,k,q,hk,hq,eu,[],by simp⟩
 have h:=key l.length (Le _);rw[LC] at h;exact⟨fun i hi=>h.1 i hi hi,h.2⟩
theorem own_bit{r:Rd}(h:xj r=0)(p:Nat)(hp:(p:Int)<r.n):(r.h p).toNat.testBit p=AA:=by
 unfold xj at h
 split at h
 . cases h
 rename_i hn
 have key:∀k,k<=5->yY r (5-k) k=0->∀q,k<=q->q<5->qj r.n q (r.h q)=0:=by
  intro k hk
  induction hm:5-k generalizing k with
  | zero=>intro _ q h1 h2;omega
  | succ m ih=>
   intro hz q h1 h2;unfold yY at hz
   split at hz
   . rename_i bj;exact absurd hz bj
   . rename_i bj
     by_cases e:q=k
     . subst e;simpa using bj
     . exact ih (k+1) (by omega) (by omega) hz q (by omega) h2
 have h1:=key 0 (by omega) h p (by omega) (by omega);unfold qj at h1;rw[Lg (by omega)] at h1
 split at h1
 . cases h1
 split at h1
 . assumption
 cases h1
theorem jV(r:Rd)(k p:Nat)(now:List Int)(q:Nat)(hq:q<5):(qy r k p now).h q=yo r p now q:=by
 match q,hq with
 | 0,_=>rfl
 | 1,_=>rfl
 | 2,_=>rfl
 | 3,_=>rfl
 | 4,_=>rfl
structure Fine(s:Sy)(K N:Nat):Prop where
 n:s.n=(N:Int)
 pn:s.p.t.n=(N:Int)
 k:s.p.k=(K:Int)
 n1:1<=N
 n5:N<=5
 k6:K<=6
 lv:s.vs.length<=2100
 lx:s.xs.length<=60
 word:∀x∈s.xs,x.word.length=K/\∀r∈x.word,yD r=0/\r.n=(N:Int)
 views:∀x∈s.xs,x.views.length=K+1/\∀l∈x.views,l.length=N/\∀i∈l,0<=i/\i<s.vs.length
 vs:∀v∈s.vs,(∃q:Nat,v.p=(q:Int)/\q<N)/\(∃r:Nat,v.r=(r:Int)/\r<=K)/\(0<v.r->∃u,At s.vs (v.h v.p.toNat) u/\u.p=v.p/\u.r=v.r-1)
theorem built_fine{p:Pb}(hf:xz p)(h0:zY p=0)(iV:yx p<=60):∃K N,Fine (yu p) K N:=by
 obtain⟨mP,su,mQ,dh,oF⟩:=yf h0;obtain⟨h1,cU,fl⟩:=xJ mP;obtain⟨r1,r2⟩:=Z0 p h0 iV;obtain⟨K,hK⟩:=Lp dh;obtain⟨N,hN⟩:=Lp (show 0<=p.t.n by omega);have IY:p.t.n.toNat=N:=by omega
 obtain⟨f1,f2,f3⟩:=Yr p (zD p)
 have lM:∀y∈zD p,y.2.length=K/\∀r∈y.2,yD r=0/\r.n=(N:Int):=fun y hy=>by
  unfold zD at hy;obtain⟨d,_,hy⟩:=NJ.1 hy;obtain⟨w',lX,rfl⟩:=LZ.1 hy;refine⟨by show w'.length=K;rw[xW p.a _ 0 w' lX];omega,fun r hr=>?_⟩;obtain⟨m,hm,rfl⟩:=jR p.a _ 0 w' lX r hr;obtain⟨z1,z2,_⟩:=qq (xv hf.1.2 su).1 m hm;exact⟨z1,by rw[z2,<-mQ,hN]⟩
 have hx:∀x∈(zK p (zD p)).2,∃y∈zD p,∃vs,XFin p (zK p (zD p)).1 y.1 y.2 x vs:=fun x hx=>by
  obtain⟨i,hi,e⟩:=LI hx;rw[qI] at hi;obtain⟨x',vs,Mz,hh⟩:=f1 i hi
  have:x=x':=by
   rw[Ln (by rw[qI];exact hi),e] at Mz;exact NR Mz
  subst this;exact⟨_,Ld hi,vs,hh⟩
 refine⟨K,N,hN,hN,hK,by omega,by omega,by omega,r1,r2,fun x hm=>?_,fun x hm=>?_,fun v hv=>?_⟩
 . obtain⟨y,hy,vs,hh⟩:=hx x hm
   rw[hh.hw];exact lM y hy
 . obtain⟨y,hy,vs,hh⟩:=hx x hm
   obtain⟨fY,_⟩:=lM y hy;rw[hh.hv];refine⟨by rw[yW,fY],fun l hl=>?_⟩;obtain⟨k,hk,rfl⟩:=LI hl;rw[yW] at hk
   have e:(zI vs p.t.n.toNat (yt p y.1) y.2 y.2.length).2[k]'(by rw[yW];exact hk)=uh vs p.t.n.toNat (yt p y.1) y.2 k:=by
    rw[<-jW vs p.t.n.toNat (yt p y.1) y.2 y.2.length k (by omega),Lk,Ln (by rw[yW];exact hk)];rfl
   rw[e];refine⟨by rw[jD,IY],fun i hi=>?_⟩;obtain⟨q,hq,rfl⟩:=LI hi;rw[jD] at hq;have ha:=vX vs p.t.n.toNat (yt p y.1) y.2 y.2.length k q (by omega) hq;obtain⟨us,fF⟩:=hh.ht;have hb:=(ha.mono (us:=us));rw[<-fF,Lk,Ln (by rw[jD];exact hq)] at hb;exact hb.lt
 obtain⟨y,hy,vs,k,q,hk,hq,rfl,us,fF⟩:=f2 v hv;obtain⟨fY,Ot⟩:=lM y hy
 cases k with
 | zero=>exact⟨⟨q,rfl,by omega⟩,⟨0,rfl,by omega⟩,fun h=>absurd h (by show ¬((0:Int)<0);omega)⟩
 | succ k=>
  refine⟨⟨q,rfl,by omega⟩,⟨k+1,rfl,by omega⟩,fun _=>⟨fV vs p.t.n.toNat (yt p y.1) y.2 k q,?_,?_,?_⟩⟩
  . have bY:k<y.2.length:=by omega
    have hg:y.2.getD k default=y.2[k]:=by rw[Lk,Ln bY];rfl
    have DB:=Ot _ (Ld bY);have hb:=own_bit (kX DB.1).2.2.1 q (by rw[DB.2];omega)
    have e:(fV vs p.t.n.toNat (yt p y.1) y.2 (k+1) q).h ((fV vs p.t.n.toNat (yt p y.1) y.2 (k+1) q).p.toNat)=(uh vs p.t.n.toNat (yt p y.1) y.2 k).getD q 0:=by
     show(qy (y.2.getD k default) (k+1) q (uh vs p.t.n.toNat (yt p y.1) y.2 k)).h ((q:Int).toNat)=_;rw[Lo,jV _ _ _ _ _ (by omega),hg];unfold yo;rw[Li ⟨by rw[jD];exact hq,hb⟩]
    rw[e];show At (zK p (zD p)).1 _ _;rw[fF];exact(vX vs p.t.n.toNat (yt p y.1) y.2 y.2.length k q (by omega) hq).mono
  . cases k<;>rfl
  . cases k with
    | zero=>show(0:Int)=((0+1:Nat):Int)-1;rfl
    | succ k=>show((k+1:Nat):Int)=((k+1+1:Nat):Int)-1;omega
end
end Go.Proofs.YtjedjoeidcbffaaGreatDoor
