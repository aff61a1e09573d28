/- Merged. -/
import Derived.Test.YtjjcgpfljidbhaaGreatYd
open Go.Proofs.Tryz
open Go.Value renaming int->O,slice->I,bool->Ah,agg->Ai,pointer->Aj
open Go.IntKind renaming i64->U
open Option renaming none->Z,some->J
open Go.Obj renaming cells->Ag
open Go.Ending renaming returned->Ak
open Go.Proofs.Tryz renaming prog->Al
open Go.RowKit renaming Below->Am,intOf->Ao,Hid->Ap
open Go renaming Calls->An,Value->Aq
open Bool renaming true->Ar,false->As
open Go.World.ownsRow renaming lt->PZ
open Go.RowKit.Below renaming setCell->Ly
namespace Go.Proofs.YtjjcgpfljidbhaaGreat
abbrev Pa:=@Nat.mul_comm
abbrev PE:=@List.idxOf_lt_length_of_mem
abbrev Rp:=@List.getElem_idxOf
set_option maxRecDepth 100000
set_option maxHeartbeats 8000000
section
open Go.RowKit Go.Shelf
attribute [local go_sem] Oper.semAt_some
theorem kR{w X:Ba}{g h B:Nat}{a0 a1 a2 a3 a4 a5 a6 a7 a8 a9 u0:Aq}(v0 v1 v2 v3 v4 v5 v6 v7 v8 v9 u:Aq)(hg:X.heap[g]?=J (Ag #[a0,a1,a2,a3,a4,a5,a6,a7,a8,a9] 39 (0,0)))(hh:X.heap[h]?=J (Ag #[u0] 42 (0,0)))
  (aO:g≠h) (hB:Am B w X) (h1:B<=g) (h2:B<=h) :
  (((((((((((X.setCell ⟨g,0,Z⟩ v0).setCell ⟨g,1,Z⟩ v1).setCell ⟨g,2,Z⟩ v2).setCell ⟨g,3,Z⟩ v3).setCell ⟨g,4,Z⟩ v4).setCell ⟨g,5,Z⟩ v5).setCell ⟨g,6,Z⟩ v6).setCell ⟨g,7,Z⟩ v7).setCell ⟨g,8,Z⟩ v8).setCell ⟨g,9,Z⟩ v9).setCell ⟨h,0,Z⟩ u).heap[g]?=J (Ag #[v0,v1,v2,v3,v4,v5,v6,v7,v8,v9] 39 (0,0))/\(((((((((((X.setCell ⟨g,0,Z⟩ v0).setCell ⟨g,1,Z⟩ v1).setCell ⟨g,2,Z⟩ v2).setCell ⟨g,3,Z⟩ v3).setCell ⟨g,4,Z⟩ v4).setCell ⟨g,5,Z⟩ v5).setCell ⟨g,6,Z⟩ v6).setCell ⟨g,7,Z⟩ v7).setCell ⟨g,8,Z⟩ v8).setCell ⟨g,9,Z⟩ v9).setCell ⟨h,0,Z⟩ u).heap[h]?=J (Ag #[u] 42 (0,0))/\Am B w (((((((((((X.setCell ⟨g,0,Z⟩ v0).setCell ⟨g,1,Z⟩ v1).setCell ⟨g,2,Z⟩ v2).setCell ⟨g,3,Z⟩ v3).setCell ⟨g,4,Z⟩ v4).setCell ⟨g,5,Z⟩ v5).setCell ⟨g,6,Z⟩ v6).setCell ⟨g,7,Z⟩ v7).setCell ⟨g,8,Z⟩ v8).setCell ⟨g,9,Z⟩ v9).setCell ⟨h,0,Z⟩ u) /\
   (((((((((((X.setCell ⟨g,0,Z⟩ v0).setCell ⟨g,1,Z⟩ v1).setCell ⟨g,2,Z⟩ v2).setCell ⟨g,3,Z⟩ v3).setCell ⟨g,4,Z⟩ v4).setCell ⟨g,5,Z⟩ v5).setCell ⟨g,6,Z⟩ v6).setCell ⟨g,7,Z⟩ v7).setCell ⟨g,8,Z⟩ v8).setCell ⟨g,9,Z⟩ v9).setCell ⟨h,0,Z⟩ u).heap.size=X.heap.size/\(∀k,k≠g->k≠h->(((((((((((X.setCell ⟨g,0,Z⟩ v0).setCell ⟨g,1,Z⟩ v1).setCell ⟨g,2,Z⟩ v2).setCell ⟨g,3,Z⟩ v3).setCell ⟨g,4,Z⟩ v4).setCell ⟨g,5,Z⟩ v5).setCell ⟨g,6,Z⟩ v6).setCell ⟨g,7,Z⟩ v7).setCell ⟨g,8,Z⟩ v8).setCell ⟨g,9,Z⟩ v9).setCell ⟨h,0,Z⟩ u).heap[k]?=X.heap[k]?):=by
 have k0:(X.setCell ⟨g,0,Z⟩ v0).heap[g]?=J (Ag #[v0,a1,a2,a3,a4,a5,a6,a7,a8,a9] 39 (0,0)):=Lk _ g 0 _ _ v0 hg;have k1:((X.setCell ⟨g,0,Z⟩ v0).setCell ⟨g,1,Z⟩ v1).heap[g]?=J (Ag #[v0,v1,a2,a3,a4,a5,a6,a7,a8,a9] 39 (0,0)):=Lk _ g 1 _ _ v1 k0;have k2:(((X.setCell ⟨g,0,Z⟩ v0).setCell ⟨g,1,Z⟩ v1).setCell ⟨g,2,Z⟩ v2).heap[g]?=J (Ag #[v0,v1,v2,a3,a4,a5,a6,a7,a8,a9] 39 (0,0)):=Lk _ g 2 _ _ v2 k1;have k3:((((X.setCell ⟨g,0,Z⟩ v0).setCell ⟨g,1,Z⟩ v1).setCell ⟨g,2,Z⟩ v2).setCell ⟨g,3,Z⟩ v3).heap[g]?=J (Ag #[v0,v1,v2,v3,a4,a5,a6,a7,a8,a9] 39 (0,0)):=Lk _ g 3 _ _ v3 k2;have k4:(((((X.setCell ⟨g,0,Z⟩ v0).setCell ⟨g,1,Z⟩ v1).setCell ⟨g,2,Z⟩ v2).setCell ⟨g,3,Z⟩ v3).setCell ⟨g,4,Z⟩ v4).heap[g]?=J (Ag #[v0,v1,v2,v3,v4,a5,a6,a7,a8,a9] 39 (0,0)):=Lk _ g 4 _ _ v4 k3;have k5:((((((X.setCell ⟨g,0,Z⟩ v0).setCell ⟨g,1,Z⟩ v1).setCell ⟨g,2,Z⟩ v2).setCell ⟨g,3,Z⟩ v3).setCell ⟨g,4,Z⟩ v4).setCell ⟨g,5,Z⟩ v5).heap[g]?=J (Ag #[v0,v1,v2,v3,v4,v5,a6,a7,a8,a9] 39 (0,0)):=Lk _ g 5 _ _ v5 k4;have k6:(((((((X.setCell ⟨g,0,Z⟩ v0).setCell ⟨g,1,Z⟩ v1).setCell ⟨g,2,Z⟩ v2).setCell ⟨g,3,Z⟩ v3).setCell ⟨g,4,Z⟩ v4).setCell ⟨g,5,Z⟩ v5).setCell ⟨g,6,Z⟩ v6).heap[g]?=J (Ag #[v0,v1,v2,v3,v4,v5,v6,a7,a8,a9] 39 (0,0)):=Lk _ g 6 _ _ v6 k5
 have k7:((((((((X.setCell ⟨g,0,Z⟩ v0).setCell ⟨g,1,Z⟩ v1).setCell ⟨g,2,Z⟩ v2).setCell ⟨g,3,Z⟩ v3).setCell ⟨g,4,Z⟩ v4).setCell ⟨g,5,Z⟩ v5).setCell ⟨g,6,Z⟩ v6).setCell ⟨g,7,Z⟩ v7).heap[g]?=J (Ag #[v0,v1,v2,v3,v4,v5,v6,v7,a8,a9] 39 (0,0)):=Lk _ g 7 _ _ v7 k6;have k8:(((((((((X.setCell ⟨g,0,Z⟩ v0).setCell ⟨g,1,Z⟩ v1).setCell ⟨g,2,Z⟩ v2).setCell ⟨g,3,Z⟩ v3).setCell ⟨g,4,Z⟩ v4).setCell ⟨g,5,Z⟩ v5).setCell ⟨g,6,Z⟩ v6).setCell ⟨g,7,Z⟩ v7).setCell ⟨g,8,Z⟩ v8).heap[g]?=J (Ag #[v0,v1,v2,v3,v4,v5,v6,v7,v8,a9] 39 (0,0)):=Lk _ g 8 _ _ v8 k7;have k9:((((((((((X.setCell ⟨g,0,Z⟩ v0).setCell ⟨g,1,Z⟩ v1).setCell ⟨g,2,Z⟩ v2).setCell ⟨g,3,Z⟩ v3).setCell ⟨g,4,Z⟩ v4).setCell ⟨g,5,Z⟩ v5).setCell ⟨g,6,Z⟩ v6).setCell ⟨g,7,Z⟩ v7).setCell ⟨g,8,Z⟩ v8).setCell ⟨g,9,Z⟩ v9).heap[g]?=J (Ag #[v0,v1,v2,v3,v4,v5,v6,v7,v8,v9] 39 (0,0)):=Lk _ g 9 _ _ v9 k8
 have l9:=(Lg _ ⟨g,9,Z⟩ v9 h (PD aO)).trans ((Lg _ ⟨g,8,Z⟩ v8 h (PD aO)).trans ((Lg _ ⟨g,7,Z⟩ v7 h (PD aO)).trans ((Lg _ ⟨g,6,Z⟩ v6 h (PD aO)).trans ((Lg _ ⟨g,5,Z⟩ v5 h (PD aO)).trans ((Lg _ ⟨g,4,Z⟩ v4 h (PD aO)).trans ((Lg _ ⟨g,3,Z⟩ v3 h (PD aO)).trans ((Lg _ ⟨g,2,Z⟩ v2 h (PD aO)).trans ((Lg _ ⟨g,1,Z⟩ v1 h (PD aO)).trans ((Lg _ ⟨g,0,Z⟩ v0 h (PD aO)).trans (hh))))))))));refine⟨(Lg _ ⟨h,0,Z⟩ u g aO).trans k9,?_,?_,by simp,fun k n1 n2=>?_⟩
 . rw[Lk _ h 0 _ _ u l9];rfl
 . refine Ly (p:=⟨h,0,Z⟩) ?_ h2 _
   refine Ly (p:=⟨g,9,Z⟩) ?_ h1 _;refine Ly (p:=⟨g,8,Z⟩) ?_ h1 _;refine Ly (p:=⟨g,7,Z⟩) ?_ h1 _;refine Ly (p:=⟨g,6,Z⟩) ?_ h1 _;refine Ly (p:=⟨g,5,Z⟩) ?_ h1 _;refine Ly (p:=⟨g,4,Z⟩) ?_ h1 _;refine Ly (p:=⟨g,3,Z⟩) ?_ h1 _;refine Ly (p:=⟨g,2,Z⟩) ?_ h1 _;refine Ly (p:=⟨g,1,Z⟩) ?_ h1 _;refine Ly (p:=⟨g,0,Z⟩) ?_ h1 _;exact hB
 refine(Lg _ ⟨h,0,Z⟩ u k n2).trans ?_;refine(Lg _ ⟨g,9,Z⟩ v9 k n1).trans ?_;refine(Lg _ ⟨g,8,Z⟩ v8 k n1).trans ?_;refine(Lg _ ⟨g,7,Z⟩ v7 k n1).trans ?_;refine(Lg _ ⟨g,6,Z⟩ v6 k n1).trans ?_;refine(Lg _ ⟨g,5,Z⟩ v5 k n1).trans ?_;refine(Lg _ ⟨g,4,Z⟩ v4 k n1).trans ?_;refine(Lg _ ⟨g,3,Z⟩ v3 k n1).trans ?_;refine(Lg _ ⟨g,2,Z⟩ v2 k n1).trans ?_;refine(Lg _ ⟨g,1,Z⟩ v1 k n1).trans ?_;exact Lg _ ⟨g,0,Z⟩ v0 k n1
theorem ZR(w:Ba)(o:Obj):∃W0,w.alloc o=W0/\W0.heap[w.heap.size]?=J o/\W0.heap.size=w.heap.size+1/\Am w.heap.size w W0:=⟨_,rfl,zj _ _,by simp,zN w _⟩
theorem va{t:Tk}:∀ {q:Option Cs} {l:List Cs},xV t q l=0->∀c∈l,(c.inp.length:Int)=t.n
 | _,[],_,c,hc=>by cases hc
 | q,d::l,h,c,hc=>by
  rw[xV] at h
  split at h
  . rename_i h1;exact absurd h h1
  . rename_i h1
    rcases L9.1 hc with rfl | hc
    . have h2:xB t q c=0:=by simpa using h1
      unfold xB at h2
      split at h2
      . rename_i h3;exact absurd h2 h3
      . rename_i h3
        have h4:zA c.inp t.n t.ins=0:=by simpa using h3
        unfold zA at h4
        split at h4
        . cases h4
        . rename_i h5;simpa using h5
    . exact va h c hc
theorem uL{t:Tk}(h:zX t=0):∀c∈t.cases,(c.inp.length:Int)=t.n:=by
 unfold zX at h
 split at h
 . cases h
 split at h
 . cases h
 exact va (by unfold yE at h;rwa[LT] at h)
theorem RowX.turnC{α:Type}{C:Ct α}(ok:CtOk C){S:Nat->Prop}{w w':Ba}{g:Nat}{xs:List α}(h:RowX C S w g xs)(hs:w.heap.size<=w'.heap.size)(hc:∀(k:Nat) (o:Obj),w.heap[k]?=J o->o.isCells=Ar->w'.heap[k]?=J o):RowX C S w' g xs:=by
 obtain⟨dM,h1,h2⟩:=h;refine⟨dM,hc _ _ h1 rfl,fun i hi=>?_⟩;obtain⟨cs,h3,h4⟩:=h2 i hi;exact⟨cs,ok.keepC h3 (KeepC.of_cells _ hs hc),h4⟩
theorem OwnV.of_same{w w':Ba}{base:Nat}{v:Aq}{vs:List Vw}(h:OwnV w base v vs)(hk:∀k,v.ownBlock=J k->w'.heap[k]?=w.heap[k]?):OwnV w' base v vs:=by
 refine⟨h.1,?_⟩;rcases h.2 with hn | ⟨g,cap,cur,hv,hb,hg,rest⟩
 . exact .inl hn
 exact .inr ⟨g,cap,cur,hv,hb,(hk g (by rw[hv];rfl)).trans hg,rest⟩
def RetSys(r:Sy×Int)(w:Ba)(e:Ending)(w':Ba):Prop:=∃A kc SV ks AV kv AX kx,e=Ak (.tuple #[.agg (r.1.vs_ A kc SV ks AV kv AX kx),O U r.2])/\SyAt w' w'.heap.size A SV AV AX r.1/\r.1.vs.length<=kv/\kv<=maxLen/\Am w.heap.size w w'
theorem RetSys.zero{w W:Ba}(n:Int)(h:Am w.heap.size w W):RetSys (xC,n) w (Ak (.tuple #[Ai #[O U 0,O U 0,O U 0,I Z 0 0,O U 0,I Z 0 0,O U 0,O U 0,I Z 0 0,I Z 0 0],O U n])) W:=
 ⟨Z,0,Z,0,Z,0,Z,0,rfl,⟨CAt.nil _ _ _,SAt.nil _ _ _,fun h=>absurd h (by simp[xC]),XAt.nil _ _ _⟩,Lh _,Nw _,h⟩
def RetSysF(L0 B0:Nat)(r:Sy×Int)(w:Ba)(e:Ending)(w':Ba):Prop:=∃A kc SV ks AV kv AX kx,e=Ak (.tuple #[.agg (r.1.vs_ A kc SV ks AV kv AX kx),O U r.2]) /\
 (∀W':Ba,w'.heap.size<=W'.heap.size->(∀k,((L0<=k/\k<B0)\/w.heap.size<=k)->k<w'.heap.size->W'.heap[k]?=w'.heap[k]?)->SyAt W' W'.heap.size A SV AV AX r.1)/\r.1.vs.length<=kv/\kv<=maxLen/\Am w.heap.size w w'
theorem RetSysF.sys{L0 B0:Nat}{r:Sy×Int}{w W:Ba}{e:Ending}(h:RetSysF L0 B0 r w e W):RetSys r w e W:=by
 obtain⟨A,kc,SV,ks,AV,kv,AX,kx,he,h1,h2,h3,h4⟩:=h;exact⟨A,kc,SV,ks,AV,kv,AX,kx,he,h1 W (Lh _) (fun _ _ _=>rfl),h2,h3,h4⟩
def RetSysFC(L0 B0:Nat)(r:Sy×Int)(w:Ba)(e:Ending)(w':Ba):Prop:=∃A kc SV ks AV kv AX kx,e=Ak (.tuple #[.agg (r.1.vs_ A kc SV ks AV kv AX kx),O U r.2]) /\
 (∀W':Ba,w'.heap.size<=W'.heap.size->(∀k,((L0<=k/\k<B0)\/w.heap.size<=k)->k<w'.heap.size->W'.heap[k]?=w'.heap[k]?)->SyAt W' W'.heap.size A SV AV AX r.1/\XCap W' AX r.1.xs)/\r.1.vs.length<=kv/\kv<=maxLen/\Am w.heap.size w w'
theorem RetSysFC.zero{L0 B0:Nat}{w W:Ba}(n:Int)(h:Am w.heap.size w W):RetSysFC L0 B0 (xC,n) w (Ak (.tuple #[Ai #[O U 0,O U 0,O U 0,I Z 0 0,O U 0,I Z 0 0,O U 0,O U 0,I Z 0 0,I Z 0 0],O U n])) W:=
 ⟨Z,0,Z,0,Z,0,Z,0,rfl,fun W' _ _=>⟨⟨CAt.nil _ _ _,SAt.nil _ _ _,fun h=>absurd h (by simp[xC]),XAt.nil _ _ _⟩,fun _ _ _ e=>by cases e⟩,Lh _,Nw _,h⟩
theorem RetSysFC.f{L0 B0:Nat}{r:Sy×Int}{w W:Ba}{e:Ending}(h:RetSysFC L0 B0 r w e W):RetSysF L0 B0 r w e W:=by
 obtain⟨A,kc,SV,ks,AV,kv,AX,kx,he,h1,h2,h3,h4⟩:=h;exact⟨A,kc,SV,ks,AV,kv,AX,kx,he,fun W' a b=>(h1 W' a b).1,h2,h3,h4⟩
theorem Xl(p:Pb)(hf:xN p)(A:Bb)(kc:Nat)(SV:Bb)(ks:Nat)(w:Ba)(L0 B0:Nat)(bX:B0<=w.heap.size)(lB:CAt w B0 A p.t.cases)(pY:SAt w B0 SV p.a.sts)(sm:CAtL L0 B0 w A p.t.cases)(sf:SAtL L0 B0 w SV p.a.sts) :
  An Al 13 #[.agg (p.vs A kc SV ks)] w (RetSysFC L0 B0 (zP p) w):=by
 have hA:=lB.more bX;have hS:=pY.more bX;have Ih:=zH sm;have ft:=zH sf;clear sm sf lB pY;have pA:=zH (fun (W:Ba) (h1:CAt W W.heap.size A p.t.cases) (h2:SAt W W.heap.size SV p.a.sts)=>Qx p hf.1 A kc SV ks W h1 h2);have aq:=zH (@yF p);have ai:=zH (@yO p);have au:=zH (@xM p);have ia:=zH hf;obtain⟨w1,ac,d0,d1,d2,hsz,bZ⟩:=qZ w (p.vs A kc SV ks) #[O U 0,O U 0,O U 0,I Z 0 0,O U 0,I Z 0 0,O U 0,O U 0,I Z 0 0,I Z 0 0] #[O U 0] 29 39 42;have HA:=zH hA;have HS:=zH hS;have bg:=zH bZ;have bD:=zH d0;have cH:=zH d1;have iF:=zH d2;have sH:=pA.out w1 ((hA.keep bZ).more bZ.size) ((hS.keep bZ).more bZ.size);have sH:=zH sH;unfold Pb.vs at ac d0 sH ⊢;obtain⟨q0,q1,q2,q3,q4,q5,q6,_⟩:=Kf d0;have ah:=zH ac;clear ac d0 d1 d2 bZ hA hS hf pA;refine yA func13 rfl ?_;simp only[ntmps13,List.size_toArray,List.length_cons,List.length_nil,Nat.reduceAdd,Nat.reduceSub,Array.replicate_succ,Array.replicate_zero,List.push_toArray,List.append_toArray,List.nil_append,List.cons_append];go_wp2_with fail;rw[ah.out];go_wp2_with fail;refine sH.out.mono ?_;rintro e w2 ⟨rfl,af⟩;clear sH ah q0 q1 q2 q3 q4 q5 q6;have D0:=zH (La af bD.out);have D1:=zH (La af cH.out);have D2:=zH (La af iF.out);have B2:=zH (bg.out.trans (af.mono (by omega)));have ee:=af.size;clear af
 by_cases iq:zL p=0
 case neg=>
  have CZ:jJ p=(0,zL p):=Lo iq;rw[CZ,aq.out iq];have e0:(zL p != 0)=Ar:=by simpa using iq
  obtain⟨pe,Ek⟩:=Kh (zL p);rw[Ek] at e0 ⊢;have x0:w2.cell? ⟨w.heap.size+1,0,Z⟩=J (O U 0):=za D1.out 0 rfl;have f0:=zb D1.out 0;have x1:w2.cell? ⟨w.heap.size+1,1,Z⟩=J (O U 0):=za D1.out 1 rfl;have f1:=zb D1.out 1;have x2:w2.cell? ⟨w.heap.size+1,2,Z⟩=J (O U 0):=za D1.out 2 rfl;have f2:=zb D1.out 2;have x3:w2.cell? ⟨w.heap.size+1,3,Z⟩=J (I Z 0 0):=za D1.out 3 rfl;have f3:=zb D1.out 3;have x4:w2.cell? ⟨w.heap.size+1,4,Z⟩=J (O U 0):=za D1.out 4 rfl;have f4:=zb D1.out 4;have x5:w2.cell? ⟨w.heap.size+1,5,Z⟩=J (I Z 0 0):=za D1.out 5 rfl;have f5:=zb D1.out 5;have x6:w2.cell? ⟨w.heap.size+1,6,Z⟩=J (O U 0):=za D1.out 6 rfl;have f6:=zb D1.out 6;have x7:w2.cell? ⟨w.heap.size+1,7,Z⟩=J (O U 0):=za D1.out 7 rfl;have f7:=zb D1.out 7;have x8:w2.cell? ⟨w.heap.size+1,8,Z⟩=J (I Z 0 0):=za D1.out 8 rfl;have f8:=zb D1.out 8;have x9:w2.cell? ⟨w.heap.size+1,9,Z⟩=J (I Z 0 0):=za D1.out 9 rfl;have f9:=zb D1.out 9;have y0:w2.cell? ⟨w.heap.size+1+1,0,Z⟩=J (O U 0):=za D2.out 0 rfl;have g0:=zb D2.out 0;go_wp2_with fail;obtain⟨k1,k2,k3,_,_⟩:=kR (O U 0) (O U 0) (O U 0) (I Z 0 0) (O U 0) (I Z 0 0) (O U 0) (O U 0) (I Z 0 0) (I Z 0 0) (O U pe) D1.out D2.out (by omega) B2.out (by omega:w.heap.size<=w.heap.size+1) (by omega:w.heap.size<=w.heap.size+1+1);refine yD (B:=w.heap.size) (Marks.nil _ _) ?_
  intro W hX;have c0:W.cell? ⟨w.heap.size+1,0,Z⟩=J (O U 0):=hX.cell (za k1 0 rfl);have c1:W.cell? ⟨w.heap.size+1,1,Z⟩=J (O U 0):=hX.cell (za k1 1 rfl);have c2:W.cell? ⟨w.heap.size+1,2,Z⟩=J (O U 0):=hX.cell (za k1 2 rfl);have c3:W.cell? ⟨w.heap.size+1,3,Z⟩=J (I Z 0 0):=hX.cell (za k1 3 rfl);have c4:W.cell? ⟨w.heap.size+1,4,Z⟩=J (O U 0):=hX.cell (za k1 4 rfl);have c5:W.cell? ⟨w.heap.size+1,5,Z⟩=J (I Z 0 0):=hX.cell (za k1 5 rfl);have c6:W.cell? ⟨w.heap.size+1,6,Z⟩=J (O U 0):=hX.cell (za k1 6 rfl);have c7:W.cell? ⟨w.heap.size+1,7,Z⟩=J (O U 0):=hX.cell (za k1 7 rfl);have c8:W.cell? ⟨w.heap.size+1,8,Z⟩=J (I Z 0 0):=hX.cell (za k1 8 rfl);have c9:W.cell? ⟨w.heap.size+1,9,Z⟩=J (I Z 0 0):=hX.cell (za k1 9 rfl);have BN:W.cell? ⟨w.heap.size+1+1,0,Z⟩=J (O U pe):=hX.cell (za k2 0 rfl);have hR:=RetSysFC.zero (L0:=L0) (B0:=B0) pe (k3.trans hX.below);rw[aq.out iq,Ek];exact⟨_,by simp[results,results13,go_sem,c0,c1,c2,c3,c4,c5,c6,c7,c8,c9,BN],hR⟩
 case pos=>
 have CZ:jJ p=jf 1048576 (zT p):=Li (by simpa using iq);rw[CZ]
 by_cases hT:4096<zT p
 case pos=>
  have HB:=zH (ai.out iq hT)
  by_cases Br:1048576<zT p
  case pos=>
   have te:jf 1048576 (zT p)=(0,17):=Lo Br;rw[te];clear aq ai au CZ hT Br te ia iq;have x0:w2.cell? ⟨w.heap.size+1,0,Z⟩=J (O U 0):=za D1.out 0 rfl;have f0:=zb D1.out 0;have x1:w2.cell? ⟨w.heap.size+1,1,Z⟩=J (O U 0):=za D1.out 1 rfl;have f1:=zb D1.out 1;have x2:w2.cell? ⟨w.heap.size+1,2,Z⟩=J (O U 0):=za D1.out 2 rfl;have f2:=zb D1.out 2;have x3:w2.cell? ⟨w.heap.size+1,3,Z⟩=J (I Z 0 0):=za D1.out 3 rfl;have f3:=zb D1.out 3;have x4:w2.cell? ⟨w.heap.size+1,4,Z⟩=J (O U 0):=za D1.out 4 rfl;have f4:=zb D1.out 4;have x5:w2.cell? ⟨w.heap.size+1,5,Z⟩=J (I Z 0 0):=za D1.out 5 rfl;have f5:=zb D1.out 5;have x6:w2.cell? ⟨w.heap.size+1,6,Z⟩=J (O U 0):=za D1.out 6 rfl;have f6:=zb D1.out 6;have x7:w2.cell? ⟨w.heap.size+1,7,Z⟩=J (O U 0):=za D1.out 7 rfl;have f7:=zb D1.out 7;have x8:w2.cell? ⟨w.heap.size+1,8,Z⟩=J (I Z 0 0):=za D1.out 8 rfl;have f8:=zb D1.out 8;have x9:w2.cell? ⟨w.heap.size+1,9,Z⟩=J (I Z 0 0):=za D1.out 9 rfl;have f9:=zb D1.out 9;have y0:w2.cell? ⟨w.heap.size+1+1,0,Z⟩=J (O U 0):=za D2.out 0 rfl;have g0:=zb D2.out 0;go_wp2_with fail
   obtain⟨k1,k2,k3,_,_⟩:=kR (O U 0) (O U 0) (O U 0) (I Z 0 0) (O U 0) (I Z 0 0) (O U 0) (O U 0) (I Z 0 0) (I Z 0 0) (O U 17) D1.out D2.out (by omega) B2.out (by omega:w.heap.size<=w.heap.size+1) (by omega:w.heap.size<=w.heap.size+1+1);refine yD (B:=w.heap.size) (Marks.nil _ _) ?_;intro W hX;have c0:W.cell? ⟨w.heap.size+1,0,Z⟩=J (O U 0):=hX.cell (za k1 0 rfl);have c1:W.cell? ⟨w.heap.size+1,1,Z⟩=J (O U 0):=hX.cell (za k1 1 rfl);have c2:W.cell? ⟨w.heap.size+1,2,Z⟩=J (O U 0):=hX.cell (za k1 2 rfl);have c3:W.cell? ⟨w.heap.size+1,3,Z⟩=J (I Z 0 0):=hX.cell (za k1 3 rfl);have c4:W.cell? ⟨w.heap.size+1,4,Z⟩=J (O U 0):=hX.cell (za k1 4 rfl);have c5:W.cell? ⟨w.heap.size+1,5,Z⟩=J (I Z 0 0):=hX.cell (za k1 5 rfl);have c6:W.cell? ⟨w.heap.size+1,6,Z⟩=J (O U 0):=hX.cell (za k1 6 rfl);have c7:W.cell? ⟨w.heap.size+1,7,Z⟩=J (O U 0):=hX.cell (za k1 7 rfl);have c8:W.cell? ⟨w.heap.size+1,8,Z⟩=J (I Z 0 0):=hX.cell (za k1 8 rfl);have c9:W.cell? ⟨w.heap.size+1,9,Z⟩=J (I Z 0 0):=hX.cell (za k1 9 rfl);have BN:W.cell? ⟨w.heap.size+1+1,0,Z⟩=J (O U 17):=hX.cell (za k2 0 rfl);have hR:=RetSysFC.zero (L0:=L0) (B0:=B0) 17 (k3.trans hX.below);rw[HB.out];exact⟨_,by simp[results,results13,go_sem,c0,c1,c2,c3,c4,c5,c6,c7,c8,c9,BN],hR⟩
  have te:jf 1048576 (zT p)=((zT p:Int),0):=Li Br;rw[te];obtain⟨T,nK⟩:=Kh (zT p);rw[nK] at hT Br ⊢;have Mf:(4096:Int)<(T:Int):=by omega
  clear aq ai au CZ te ia iq nK;have x0:w2.cell? ⟨w.heap.size+1,0,Z⟩=J (O U 0):=za D1.out 0 rfl;have f0:=zb D1.out 0;have x1:w2.cell? ⟨w.heap.size+1,1,Z⟩=J (O U 0):=za D1.out 1 rfl;have f1:=zb D1.out 1;have x2:w2.cell? ⟨w.heap.size+1,2,Z⟩=J (O U 0):=za D1.out 2 rfl;have f2:=zb D1.out 2;have x3:w2.cell? ⟨w.heap.size+1,3,Z⟩=J (I Z 0 0):=za D1.out 3 rfl;have f3:=zb D1.out 3;have x4:w2.cell? ⟨w.heap.size+1,4,Z⟩=J (O U 0):=za D1.out 4 rfl;have f4:=zb D1.out 4;have x5:w2.cell? ⟨w.heap.size+1,5,Z⟩=J (I Z 0 0):=za D1.out 5 rfl;have f5:=zb D1.out 5;have x6:w2.cell? ⟨w.heap.size+1,6,Z⟩=J (O U 0):=za D1.out 6 rfl;have f6:=zb D1.out 6;have x7:w2.cell? ⟨w.heap.size+1,7,Z⟩=J (O U 0):=za D1.out 7 rfl;have f7:=zb D1.out 7;have x8:w2.cell? ⟨w.heap.size+1,8,Z⟩=J (I Z 0 0):=za D1.out 8 rfl;have f8:=zb D1.out 8;have x9:w2.cell? ⟨w.heap.size+1,9,Z⟩=J (I Z 0 0):=za D1.out 9 rfl;have f9:=zb D1.out 9;have y0:w2.cell? ⟨w.heap.size+1+1,0,Z⟩=J (O U 0):=za D2.out 0 rfl;have g0:=zb D2.out 0;go_wp2_with fail;obtain⟨k1,k2,k3,_,_⟩:=kR (O U 0) (O U 0) (O U 0) (I Z 0 0) (O U 0) (I Z 0 0) (O U 0) (O U 0) (I Z 0 0) (I Z 0 0) (O U 17) D1.out D2.out (by omega) B2.out (by omega:w.heap.size<=w.heap.size+1) (by omega:w.heap.size<=w.heap.size+1+1);refine yD (B:=w.heap.size) (Marks.nil _ _) ?_
  intro W hX;have c0:W.cell? ⟨w.heap.size+1,0,Z⟩=J (O U 0):=hX.cell (za k1 0 rfl);have c1:W.cell? ⟨w.heap.size+1,1,Z⟩=J (O U 0):=hX.cell (za k1 1 rfl);have c2:W.cell? ⟨w.heap.size+1,2,Z⟩=J (O U 0):=hX.cell (za k1 2 rfl);have c3:W.cell? ⟨w.heap.size+1,3,Z⟩=J (I Z 0 0):=hX.cell (za k1 3 rfl);have c4:W.cell? ⟨w.heap.size+1,4,Z⟩=J (O U 0):=hX.cell (za k1 4 rfl);have c5:W.cell? ⟨w.heap.size+1,5,Z⟩=J (I Z 0 0):=hX.cell (za k1 5 rfl);have c6:W.cell? ⟨w.heap.size+1,6,Z⟩=J (O U 0):=hX.cell (za k1 6 rfl);have c7:W.cell? ⟨w.heap.size+1,7,Z⟩=J (O U 0):=hX.cell (za k1 7 rfl);have c8:W.cell? ⟨w.heap.size+1,8,Z⟩=J (I Z 0 0):=hX.cell (za k1 8 rfl);have c9:W.cell? ⟨w.heap.size+1,9,Z⟩=J (I Z 0 0):=hX.cell (za k1 9 rfl);have BN:W.cell? ⟨w.heap.size+1+1,0,Z⟩=J (O U 17):=hX.cell (za k2 0 rfl);have hR:=RetSysFC.zero (L0:=L0) (B0:=B0) 17 (k3.trans hX.below);rw[HB.out];exact⟨_,by simp[results,results13,go_sem,c0,c1,c2,c3,c4,c5,c6,c7,c8,c9,BN],hR⟩
 case neg=>
 have te:jf 1048576 (zT p)=((zT p:Int),0):=Li (by omega);rw[te];have HB:=zH (au.out iq (by omega));have dt:zT p<=60:=by have:=ia.out.2 iq;omega
 obtain⟨dI,nF,oI,oJ,Ay⟩:=zM iq;obtain⟨K,hK⟩:=Lr oJ;obtain⟨nf,en,pL⟩:=yv dI;have Fq:K<=6:=by omega
 have nd:zT p=zU p.a K 0*p.t.cases.length:=by unfold zT;rw[hK];rfl
 have A8:zU p.a K 0<=60:=by
  have:=P1 (zU p.a K 0) nf;omega
 have fE:=B2.out;have TR:=zH (Jl p.a ia.out.1.2 nF K (by omega) (by omega) SV ks w2 ((HS.out.keep fE).more fE.size));have pu:=zH hK;obtain⟨T,nK⟩:=Kh (zT p);rw[nK] at dt nd ⊢;have ri:=zH nK;have Gf:=zH nd;have Mf:¬(4096:Int)<(T:Int):=by omega
 have q4:=za D0.out 4 rfl;have q5:=za D0.out 5 rfl;have q6:w2.cell? ⟨w.heap.size,6,Z⟩=J (O U (K:Int)):=by rw[<-hK];exact za D0.out 6 rfl
 obtain⟨N,hN⟩:=Lr (show 0<=p.t.n by omega);have dU:=zH hN;have Cb:=zH nF;have Dl:=zH oI;have M9:=zH (uL dI);clear aq ai au CZ te hT nK nd hK iq dI nF oI oJ Ay fE hN;go_wp2_with fail;refine TR.out.mono ?_;rintro e w3 ⟨AW,cw,rfl,dE,am⟩;clear q4 q5 q6 TR;have lM:=am.size;have OM:=zH (La am D0.out);have UH:=zH (La am D1.out);have UG:=zH (La am D2.out);have B3:=zH (B2.out.trans (am.mono (by omega)));have nP:=zH dE;have aA:=(yG ia.out.1.2 Cb.out).2.1;have OD:=zH (Qy p ia.out.1 nf aA A kc SV ks w3 L0 B0 (LE bX B3.out.size) (Ih.out.keep (B3.out.mono bX)) (ft.out.keep (B3.out.mono bX)));unfold Pb.vs at OD;obtain⟨q0,q1,q2,q3,q4,q5,q6,_⟩:=Kf OM.out;clear am dE D0 D1 D2 B2;go_wp2_with fail;refine OD.out.mono ?_;rintro e w4 ⟨g4,pG,Ha,pF,rfl,Tu,S0,Sk,VL,bq⟩;obtain⟨A4,BI⟩:∃A4:Bb,A4=J ⟨g4,0,Z⟩:=⟨_,rfl⟩;obtain⟨rf,Bv⟩:∃S4:Bb,S4=J ⟨Ha,0,Z⟩:=⟨_,rfl⟩;rw[<-BI,<-Bv];have OL:=zH BI;have Nn:=zH Bv;clear BI Bv;have tY:=bq.size;have pC:=zH (La bq OM.out);have Ii:=zH (La bq UH.out);have D24:=zH (La bq UG.out);have B4:=zH (B3.out.trans (bq.mono (by omega)));have CB:=zH Tu;have su:=zH S0;have ns:=zH ((nP.out.keep bq).more bq.size);unfold Pb.vs
 have p0:w4.cell? ⟨w.heap.size,0,Z⟩=J (O U p.t.n):=za pC.out 0 rfl;have p1:w4.cell? ⟨w.heap.size,1,Z⟩=J (O U p.t.ins):=za pC.out 1 rfl;have p2:w4.cell? ⟨w.heap.size,2,Z⟩=J (O U p.t.outs):=za pC.out 2 rfl;have p3:w4.cell? ⟨w.heap.size,3,Z⟩=J (I A p.t.cases.length kc):=za pC.out 3 rfl;have p4:w4.cell? ⟨w.heap.size,4,Z⟩=J (O U p.a.n):=za pC.out 4 rfl;have p5:w4.cell? ⟨w.heap.size,5,Z⟩=J (I SV p.a.sts.length ks):=za pC.out 5 rfl;have p6:w4.cell? ⟨w.heap.size,6,Z⟩=J (O U p.k):=za pC.out 6 rfl;have mw:w.heap.size<w4.heap.size:=by omega
 clear Tu S0 bq q0 q1 q2 q3 q4 q5 q6 OD OM UH UG nP;have lU:=@run_makeMap Al;have cm:w.heap.size<w4.heap.size+1:=by omega
 have fy:w.heap.size<w4.heap.size+1+1:=by omega
 have nB:w.heap.size<w4.heap.size+1+1+1:=by omega
 have rI:w.heap.size<w4.heap.size+1+1+1+1:=by omega
 go_wp2_with fail;obtain⟨W5,mM,x5,iV,lA⟩:=ZR w4 (Ag #[O U p.t.n,O U p.t.ins,O U p.t.outs,I A4 p.t.cases.length pG,O U p.a.n,I rf p.a.sts.length pF,O U p.k,O U 0,I Z 0 0,I Z 0 0] 39);rw[mM];obtain⟨W6,pW,x6,mB,nm⟩:=ZR W5 (.map #[] 0);rw[pW];obtain⟨W7,ni,x7,fP,tt⟩:=ZR W6 (Ag #[O U p.t.n,I Z 0 0,.map (J (w4.heap.size+1))] 116);rw[ni];obtain⟨W8,SS,x8,mA,De⟩:=ZR W7 (Ag #[Aj (J ⟨w4.heap.size+1+1,0,Z⟩)] 113);rw[SS];have iY:MapOf (fun v:Vw=>.agg v.cells) W6 W5.heap.size 0 (jY []):=by rw[<-pW,numF_nil];exact MapOf.made W5
 have sk:Am w4.heap.size w4 W8:=lA.trans ((nm.mono (by omega)).trans ((tt.mono (by omega)).trans (De.mono (by omega))));have D08:=zH (Lb sk (by omega) pC.out);clear mM pW ni SS lU p0 p1 p2 p3 p4 p5 p6 cm fy nB rI;have CX:=execs_any p A kc SV ks AW (zC p.a K 0).length cw W8;unfold Pb.vs at CX;refine CX.mono ?_;rintro e W9 ⟨rfl,nI⟩;have oC:W9.heap.size=w4.heap.size+6:=by rw[<-nI];simp;omega
 have nk:Am W8.heap.size W8 W9:=by rw[<-nI];exact qt W8 _ _
 have sk:Am w4.heap.size w4 W8:=lA.trans ((nm.mono (by omega)).trans ((tt.mono (by omega)).trans (De.mono (by omega))));have sj:Am w4.heap.size w4 W9:=sk.trans (nk.mono (by omega));have I6:W9.heap[W8.heap.size]?=J (Ag (p.vs A kc SV ks) 29 (0,0)):=by rw[<-nI];exact yo (zj W8 _) _
 have IX:W9.heap[W8.heap.size+1]?=J (Ag #[.slice AW (zC p.a K 0).length cw] 109 (0,0)):=by
  rw[<-nI];have:=zj (W8.alloc (Ag (p.vs A kc SV ks) 29)) (Ag #[.slice AW (zC p.a K 0).length cw] 109);rwa[Nm] at this
 have y5:=Lb nk (by omega) (Lb De (by omega) (Lb tt (by omega) (Lb nm (by omega) x5)));have y7:=Lb nk (by omega) (Lb De (by omega) x7);have y8:=Lb nk (by omega) x8;have ym:=((iY.same (tt.block _ (by omega))).same (De.block _ (by omega))).same (nk.block _ (by omega));rw[iV] at ym;rw[mB,iV] at y7;rw[fP,mB,iV] at y8;have Hl:=zH y8;have HP9:=zH I6;have Tv:W8.heap.size=w4.heap.size+1+1+1+1:=by omega
 -- the words' slices
 obtain⟨sl,mz⟩:∃sl:Nat->Aq,sl=fun j=>match AW with | some ad=>(w4.cell? ⟨ad.block,ad.off+j,Z⟩).getD undef | none=>undef:=⟨_,rfl⟩
 have HSL:Ap (∀(j:Nat) (hj:j<(zC p.a K 0).length),∃A' c,sl j=.slice A' (zC p.a K 0)[j].length c/\RAt w4 w4.heap.size A' (zC p.a K 0)[j]):=fun j hj=>by
  obtain⟨b,off,A',c,e,_,hc,hr⟩:=ns.out.at_ j hj;subst e;refine⟨A',c,?_,hr⟩;rw[mz];show(w4.cell? ⟨b,off+j,Z⟩).getD undef=_;rw[hc];rfl
 have ma:SlAt w4 w4.heap.size AW (zC p.a K 0).length sl:=fun j hj=>by
  obtain⟨b,off,A',c,e,hb,hc,hr⟩:=ns.out.at_ j hj;subst e;refine⟨b,off,rfl,hb,?_⟩;rw[mz];show _=J ((w4.cell? ⟨b,off+j,Z⟩).getD undef);rw[hc];rfl
 have lk:(zC p.a K 0).length<=60:=by rw[yj];exact A8
 have fJ:=zH (Xe (p.vs A kc SV ks) p.t.cases.length ia.out.1.1.1 A kc rfl AW (zC p.a K 0).length cw (by omega) sl w4.heap.size W8.heap.size (W8.heap.size+1) W9 I6 IX (ma.same fun k hk=>sj.block k hk) sj.size);obtain⟨SC,Bs⟩:∃SC:Aq->Array Aq,SC=fun E=>#[O U p.t.n,O U p.t.ins,O U p.t.outs,I A4 p.t.cases.length pG,O U p.a.n,I rf p.a.sts.length pF,O U p.k,O U 0,I Z 0 0,E]:=⟨_,rfl⟩
 have H0:Ap (BlIn p W9.heap.size w4.heap.size (w4.heap.size+1+1) (w4.heap.size+1) w4.heap.size SC W9 [] (I Z 0 0) (I Z 0 0) W9):=
  ⟨Wrote.refl _ _,⟨y7,⟨0,ym⟩,OwnV.nil _ _,fun k e=>(by cases e),by omega,by omega,by omega⟩,by rw[Bs];exact y5,OwnX.nil _ _ _ _,fun k e=>(by cases e)⟩
 have bE:Ap (BlB W9.heap.size w4.heap.size (w4.heap.size+1+1) (w4.heap.size+1) w4.heap.size W9):=⟨rfl,by omega,by omega,by omega,⟨by omega,by omega,by omega⟩,by omega,by omega⟩;have nQ:=zH Bs;have Cz:=zH sj;have FS:=zH IX;clear CX nI nk sk sj I6 IX y5 y7 y8 ym mz ma Bs iY x5 x6 x7 x8 lA nm tt De;rw[Tv];rw[Tv] at fJ HP9 FS;go_wp2_with fail
 refine Ye rfl (NV func85 (by kernel_rfl) rfl) fJ.out (by rintro k (h | rfl | rfl)<;>omega) (fun _=>rfl)
  (fun (pre:List { x:Nat×Nat // x∈zi (zC p.a K 0).length 0 p.t.cases.length }) (X:Ba)=>∃V E,BlIn p W9.heap.size w4.heap.size (w4.heap.size+1+1) (w4.heap.size+1) w4.heap.size SC W9 (jc (zC p.a K 0) (pre.map (·.1))) V E X)
  (fun _ _ _=>False) ?hI (fun _ _ _ _ _ h _ _=>h) ⟨_,_,H0.out⟩ ?a1 ?assign ?body ?done ?stop
 case hI=>
  rintro s X X' row ⟨V,E,h⟩ hg hr;exact⟨V,E,h.turn bE.out hg hr⟩
 case assign=>
  intro l x X K' hK;gi_wp2;exact hK
 case body=>
  rintro l pre x X ⟨V,E,hI⟩ aa;obtain⟨ot,oo,Gr⟩:=xT _ _ _ x.2;have i5:=Cz.out;have l8:=hI.bel bE.out;have cB:Am w.heap.size w X:=B4.out.trans ((i5.trans l8).mono (by omega));have hM:x.1.1<p.t.cases.length:=by omega
  obtain⟨bc,oc,A0,c0,A1,c1,A2,c2,eA,lw,i0,_,_,I0,_,_⟩:=(HA.out.keep cB).row x.1.1 hM;subst eA;obtain⟨AL,TJ,TB,Bz⟩:=HSL.out x.1.2 Gr;have lJ:=Ld (l:=zC p.a K 0) Gr;have ew:(zC p.a K 0).getD x.1.2 []=(zC p.a K 0)[x.1.2]:=by rw[Le,Lf Gr];rfl
  have oR:yc p x.1.1=p.t.cases[x.1.1].inp:=by unfold yc;rw[Le,Lf hM];rfl
  obtain⟨word,fN⟩:=Kh ((zC p.a K 0)[x.1.2]);rw[fN] at TB Bz lJ ew;have tT:=yK p.a K 0 word lJ;have HWM:=zH (qY p.a K 0 word lJ);obtain⟨AV,kv,rfl⟩:=hI.bd.own.lit;obtain⟨AE,ke,rfl,_,_,_⟩:=hI.out.form zJ;have mt:=zH hI;have aD:(jc (zC p.a K 0) (pre.map (·.1))).length=pre.length:=by simp[jc]
  have nc:=uU p (by omega) (jc (zC p.a K 0) (pre.map (·.1))) (fun y hy=>by
   obtain⟨z,hz,rfl⟩:=LO.1 hy;obtain⟨z2,cK,rfl⟩:=LO.1 hz;have h2:=(xT _ _ _ z2.2).2.2;have e2:(zC p.a K 0).getD z2.1.2 []=(zC p.a K 0)[z2.1.2]:=by rw[Le,Lf h2];rfl
   show((zC p.a K 0).getD z2.1.2 []).length<=6;rw[e2,yK p.a K 0 _ (Ld h2)]
   exact Fq)
  rw[aD] at nc
  have Ax:pre.length<60:=by
   have h6:(zi (zC p.a K 0).length 0 p.t.cases.length).length<=60:=by
    rw[kE,yj,Pa];have:=Gf.out;omega
   omega
  obtain⟨PL,Mn⟩:=Kh (jc (zC p.a K 0) (pre.map (·.1)));have FU:=zH Mn;rw[Mn] at hI mt nc aD;have WT:=hI.big bE.out;have e7:X.cell? ⟨w4.heap.size,9,Z⟩=J (.slice AE (zx p PL).2.length ke):=za hI.sys 9 (by rw[nQ.out];rfl);have f7:=zb hI.sys 9;have e8:X.cell? ⟨w4.heap.size+1+1+1,0,Z⟩=J (Aj (J ⟨w4.heap.size+1+1,0,Z⟩)):=za ((hI.same bE.out (by omega) (by omega) (by omega) (by omega)).trans Hl.out) 0 rfl;have e3:X.cell? ⟨w.heap.size,3,Z⟩=J (I (J ⟨bc,oc,Z⟩) p.t.cases.length kc):=za (Lb l8 (by omega) (Lb i5 (by omega) pC.out)) 3 rfl;have si:((x.1.1:Nat):Int)<(p.t.cases.length:Int):=by omega
  have iB:(0:Int)<=((x.1.1:Nat):Int):=by omega
  have eK:Ap (∀W,Am X.heap.size X W->W.cell? ⟨w4.heap.size,9,Z⟩=J (.slice AE (zx p PL).2.length ke)/\W.cell? ⟨w4.heap.size+1+1+1,0,Z⟩=J (Aj (J ⟨w4.heap.size+1+1,0,Z⟩))/\W.cell? ⟨w.heap.size,3,Z⟩=J (I (J ⟨bc,oc,Z⟩) p.t.cases.length kc)/\W.cell? ⟨bc,oc+x.1.1*3,Z⟩=J (I A0 p.t.cases[x.1.1].inp.length c0)):=fun W hW=>
   ⟨(hW.cell (p:=⟨w4.heap.size,9,Z⟩) (by show w4.heap.size<_;omega)).trans e7,(hW.cell (p:=⟨w4.heap.size+1+1+1,0,Z⟩) (by show w4.heap.size+1+1+1<_;omega)).trans e8,(hW.cell (p:=⟨w.heap.size,3,Z⟩) (by show w.heap.size<_;omega)).trans e3,(hW.cell (p:=⟨bc,_,Z⟩) (by show bc<_;omega)).trans i0⟩
  have Ge:=zH nc;have FG:=zH tT;have Ow:=zH ew;have Ot:=zH oR;have Ov:=zH I0;have nR:=zH Bz;have bj:=zH l8;clear hI l8 cB ew oR tT nc aD fN lJ I0 Bz Mn
  try dsimp only
  rw[TB];gi_wp2_with fail
  refine qM [(0,Ar),(1,Ar),(2,Ar),(3,Ar),(5,Ar),(6,Ar),(7,Ar),(8,Ar),(9,Ar),(10,Ar),(11,Ar),(12,Ar),(13,Ar),(4,As),(14,As),(15,As),(16,As),(17,As),(18,As),(19,As)]
   (fun W=>W.cell? ⟨w4.heap.size,9,Z⟩=J (.slice AE (zx p PL).2.length ke)/\W.cell? ⟨w4.heap.size+1+1+1,0,Z⟩=J (Aj (J ⟨w4.heap.size+1+1,0,Z⟩))/\W.cell? ⟨w.heap.size,3,Z⟩=J (I (J ⟨bc,oc,Z⟩) p.t.cases.length kc)/\W.cell? ⟨bc,oc+x.1.1*3,Z⟩=J (I A0 p.t.cases[x.1.1].inp.length c0))
   (by kernel_rfl) (by kernel_rfl) (by kernel_rfl) (by rintro⟨_,_,h⟩;exact h) (eK.out _ (Ll _ _).drew) ?_
  clear e7 e8 e3 i0
  repeat
   apply zy rfl
   . rintro K' ae W ⟨y0,y1,y2,y3⟩
     go_simp;exact ae
  have Mj:RAt X w4.heap.size AL word:=nR.out.keep (Cz.out.trans bj.out)
  -- the word's copy
  refine zt rfl ?_;intro K' ae;go_simp;refine(Zr AL word.length TJ (yq word) X.drew (yX word) (wk (w:=X.drew) (Mj.more (by show w4.heap.size<=X.heap.size;omega))) (jB word) (by have:=FG.out;omega)).mono ?_;rintro e w5 ⟨v5,rfl,mX,ap⟩;have ap:Am X.heap.size X w5:=Xm ap;have mX:OwnR kRd w5 X.heap.size v5 word.length (yq word):=mX;obtain⟨A5,c5,rfl,tf,_,mH⟩:=jA mX;have OC:=zH tf;clear tf;refine ae _ _ (eK.out _ ap) ?_;clear ae K' mX
  -- the views
  refine zt rfl ?_;intro K' ae;go_simp;have Bh:=mt.out.bd.on ap;rw[dU.out] at Bh;have iV:=ap.size;have dK:(p.t.cases[x.1.1].inp).length=N:=by have:=M9.out _ (Ld hM);have:=dU.out;omega
  have Tj:IAt w5 w4.heap.size A0 p.t.cases[x.1.1].inp:=(Ov.out.keep (ap.mono (by omega:w.heap.size<=X.heap.size))).more (by omega)
  have rk:=zH (play_any w4.heap.size (w4.heap.size+1+1) (w4.heap.size+1) N (by have:=dU.out;omega) (by have:=dU.out;omega) (.slice AV (zx p PL).1.length kv) (zx p PL).1 (by have:=Ge.out;omega) p.t.cases[x.1.1].inp dK word (by have:=FG.out;omega) (fun r hr=>by
   obtain⟨m,hm,rfl⟩:=HWM.out r hr;obtain⟨z1,z2,_⟩:=yY (yG ia.out.1.2 Cb.out).1 m hm
   exact⟨z1,by rw[z2,<-Dl.out,dU.out]⟩) A0 AL c0 TJ w5 (by omega) Bh Tj (Mj.keep (ap.mono (by omega))))
  refine rk.out.mono ?_;rintro e w6 ⟨v6,V6,rfl,GN,AD,tS,Kl⟩;obtain⟨Ik,Gn,rfl⟩:=GN.own.lit;obtain⟨VV,Bp⟩:=Kh ((zr (zx p PL).1 N p.t.cases[x.1.1].inp word word.length).1);have tz:=zH Bp
  have Ww:VV.length<=4000:=by
   have h2:=qN (zx p PL).1 N p.t.cases[x.1.1].inp word word.length;have h4:(word.length+1)*N<=7*5:=L3 (by have:=FG.out;omega) (by have:=dU.out;omega);have h5:=Ge.out;rw[Bp] at h2;omega
  rw[Bp] at GN AD tS Kl;clear Bp;clear rk Bh Mj Tj dK;obtain⟨A6,c6,rfl,_,_,GE⟩:=Zv tS;have Pq:=fun k hk=>(tS.lt k hk).1
  have aW:=zH ap;have Ol:=zH mH;have nW:=zH GN;have mQ:=zH AD;have Ds:=zH GE;have Ua:=zH Kl;have TS:=zH Pq;have U4:=AD.1.size
  have Du:Ap (∀(k o:Nat) (u:Aq),k≠w4.heap.size+1+1->k≠w4.heap.size+1->k<W9.heap.size->w5.cell? ⟨k,o,Z⟩=J u->w6.cell? ⟨k,o,Z⟩=J u):=fun k o u h1 h2 h3 hc=>
   (LR (AD.1.block k (by omega) fun hr=>by
    rcases hr with e | e | e
    . exact h1 e
    . exact h2 e
    . have:=(mt.out.no k e).1;omega)).trans hc
  have k5:=eK.out _ ap
  have k6:w6.cell? ⟨w4.heap.size,9,Z⟩=J (.slice AE (zx p PL).2.length ke)/\w6.cell? ⟨w4.heap.size+1+1+1,0,Z⟩=J (Aj (J ⟨w4.heap.size+1+1,0,Z⟩))/\w6.cell? ⟨w.heap.size,3,Z⟩=J (I (J ⟨bc,oc,Z⟩) p.t.cases.length kc)/\w6.cell? ⟨bc,oc+x.1.1*3,Z⟩=J (I A0 p.t.cases[x.1.1].inp.length c0):=
   ⟨Du.out _ _ _ (by omega) (by omega) (by omega) k5.1,Du.out _ _ _ (by omega) (by omega) (by omega) k5.2.1,Du.out _ _ _ (by omega) (by omega) (by omega) k5.2.2.1,Du.out _ _ _ (by omega) (by omega) (by omega) k5.2.2.2⟩
  refine ae _ _ k6 ?_;clear ae K' ap mH GN AD tS GE Kl Pq k5;have F8:=zH k6;obtain⟨VS,Me⟩:=Kh ((zr (zx p PL).1 N p.t.cases[x.1.1].inp word word.length).2);have Hn:=zH Me;rw[Me] at Ds TS Ua ⊢;clear Me k6
  -- the execution
  refine zt rfl ?_;intro K' ae;go_simp;refine ae _ _ F8.out ?_;clear ae K';refine zt rfl ?_;intro K' ae;go_simp;obtain⟨Df,Fd,d7,U3,me⟩:=zh w6 #[O U x.1.1,I A5 word.length c5,I A6 VS.length c6] 49;rw[Fd];clear Fd
  have k7:Df.cell? ⟨w4.heap.size,9,Z⟩=J (.slice AE (zx p PL).2.length ke)/\Df.cell? ⟨w4.heap.size+1+1+1,0,Z⟩=J (Aj (J ⟨w4.heap.size+1+1,0,Z⟩))/\Df.cell? ⟨w.heap.size,3,Z⟩=J (I (J ⟨bc,oc,Z⟩) p.t.cases.length kc)/\Df.cell? ⟨bc,oc+x.1.1*3,Z⟩=J (I A0 p.t.cases[x.1.1].inp.length c0):=
   ⟨(me.cell (p:=⟨w4.heap.size,9,Z⟩) (by show w4.heap.size<_;omega)).trans F8.out.1,(me.cell (p:=⟨w4.heap.size+1+1+1,0,Z⟩) (by show w4.heap.size+1+1+1<_;omega)).trans F8.out.2.1,(me.cell (p:=⟨w.heap.size,3,Z⟩) (by show w.heap.size<_;omega)).trans F8.out.2.2.1,(me.cell (p:=⟨bc,_,Z⟩) (by show bc<_;omega)).trans F8.out.2.2.2⟩
  refine ae _ _ k7 ?_;clear ae K';refine zt rfl ?_;intro K' ae;rw[Lo (by rfl)];have dm:=mt.out.outn bE.out aW.out mQ.out;have lP:=xm p PL;have aD:PL.length=pre.length:=by rw[<-FU.out];simp[jc]
  obtain⟨aI,aw,fW,bJ⟩:=dm.1.below zJ me (Lh _);refine jP kXn_ok (.tmp 50) (.tmp 65) (by rfl) W9.heap.size (.slice AE (zx p PL).2.length ke) (zx p PL).2.length aI.flatten (by rfl) fW w6.heap.size #[O U x.1.1,I A5 word.length c5,I A6 VS.length c6] (by rfl) d7 rfl (by simp[Value.oneCell']) (by omega) (by omega) _ rfl ?_;intro g' cap w8 hr hg bK Vs;clear lP aD;have hX:=mt.out.lies (i:=x.1.1) (c2:=c5) (c3:=c6) bE.out aW.out mQ.out me Ol.out Ds.out TS.out Ua.out OC.out
  have Mm:zr (zx p PL).1 p.t.n.toNat (yc p x.1.1) word word.length=zr (zx p PL).1 N p.t.cases[x.1.1].inp word word.length:=by
   rw[Ot.out,show p.t.n.toNat=N by have:=dU.out;omega]
  have Sp:BdIn w4.heap.size (w4.heap.size+1+1) (w4.heap.size+1) p.t.n (I Ik VV.length Gn) (zr (zx p PL).1 p.t.n.toNat (yc p x.1.1) word word.length).1 w6:=by
   rw[Mm,tz.out,dU.out];exact nW.out
  have SN:Z6.lies (fun k=>(W9.heap.size<=k/\(I Ik VV.length Gn).ownBlock≠J k)/\(I AE (zx p PL).2.length ke).ownBlock≠J k) Df [O U x.1.1,I A5 word.length c5,I A6 VS.length c6] ⟨x.1.1,word,(zr (zx p PL).1 p.t.n.toNat (yc p x.1.1) word word.length).2⟩:=by rw[Mm,Hn.out];exact hX
  have Dn:=mt.out.next (x:=(x.1.1,word)) bE.out aW.out mQ.out me Sp (fun E'=>by rw[nQ.out];rfl) aw bJ SN hr hg bK;have Dn:=zH Dn;have tr:=mt.out.out.lt
  have k8:∀(k o:Nat) (u:Aq),k<W9.heap.size->Df.cell? ⟨k,o,Z⟩=J u->w8.cell? ⟨k,o,Z⟩=J u:=fun k o u h3 hc=>
   (LR (hg.block k (by omega) fun e=>by have:=(tr k e.symm).1;omega)).trans hc
  have mA:=hg.size;have N0:=zH (⟨k8 _ _ _ (by omega) k7.1,k8 _ _ _ (by omega) k7.2.1,k8 _ _ _ (by omega) k7.2.2.1,k8 _ _ _ (by omega) k7.2.2.2⟩:w8.cell? ⟨w4.heap.size,9,Z⟩=J (.slice AE (zx p PL).2.length ke)/\w8.cell? ⟨w4.heap.size+1+1+1,0,Z⟩=J (Aj (J ⟨w4.heap.size+1+1,0,Z⟩))/\w8.cell? ⟨w.heap.size,3,Z⟩=J (I (J ⟨bc,oc,Z⟩) p.t.cases.length kc)/\w8.cell? ⟨bc,oc+x.1.1*3,Z⟩=J (I A0 p.t.cases[x.1.1].inp.length c0))
  have f8:w8.frozen? ⟨w4.heap.size,9,Z⟩=As:=by
   have z:=Dn.out.1.sys;have z2:=zb z 9;rwa[World.frozen?_setCell] at z2
  refine ae _ _ N0.out ?_;clear ae K' hr hg bK hX SN aw fW bJ dm k7 k8 Sp Mm;refine zt rfl ?_;intro K' ae;go_simp;refine ae _ _ N0.out ?_;clear ae K';have e9:=N0.out.1;refine yN rfl (by kernel_rfl) ?_;intro K' ae;go_simp;refine ae (fun _=>True) _ _ trivial ?_;refine zE ?_;clear ae K' e9 f8
  try dsimp only
  obtain⟨WF,dy⟩:=Kh (w8.setCell ⟨w4.heap.size,9,Z⟩ (I (J ⟨g',0,Z⟩) ((zx p PL).2.length+1) cap));rw[dy] at Dn ⊢;clear dy;have tn:=Dn.out.1;have a8:WF.cell? ⟨w4.heap.size+1+1+1,0,Z⟩=J (Aj (J ⟨w4.heap.size+1+1,0,Z⟩)):=za ((tn.same bE.out (by omega) (by omega) (by omega) (by omega)).trans Hl.out) 0 rfl;have b8:WF.cell? ⟨w4.heap.size+1+1,1,Z⟩=J (I Ik VV.length Gn):=za tn.bd.hB 1 rfl;have hng:¬(8192:Int)<(VV.length:Int):=by omega
  clear tn;gi_wp2_with fail;have tn:=Dn.out;rw[oC] at tn;refine⟨tn.2.1,tn.2.2.keep fun k hk hs hr=>?_,⟨I Ik VV.length Gn,I (J ⟨g',0,Z⟩) ((zx p PL).2.length+1) cap,?_⟩⟩
  . have:=i5.size
    rcases hs with hs | hs | hs<;>rcases hr with e | e | e | e<;>omega
  rw[LF,List.map_singleton,JG,FU.out,Ow.out];exact tn.1
 case done=>
  rintro D ys X hD iS ⟨V,E,hI⟩ fG;rw[iS,Za p K pu.out] at hI;obtain⟨AV,kv,rfl⟩:=hI.bd.own.lit;obtain⟨AE,ke,rfl,VD,VC,_⟩:=hI.out.form zJ;have mt:=zH hI;have i5:=Cz.out;have l8:=hI.bel bE.out;have WT:=hI.big bE.out;have tL:=zH fG;have hDX:D<X.heap.size:=zc fG;have e8:X.cell? ⟨w4.heap.size+1+1+1,0,Z⟩=J (Aj (J ⟨w4.heap.size+1+1,0,Z⟩)):=za ((hI.same bE.out (by omega) (by omega) (by omega) (by omega)).trans Hl.out) 0 rfl;have tZ:=hI.sys;rw[nQ.out] at tZ;have t7:X.cell? ⟨w4.heap.size,7,Z⟩=J (O U 0):=za tZ 7 rfl;have t8:X.cell? ⟨w4.heap.size,8,Z⟩=J (I Z 0 0):=za tZ 8 rfl;have u7:=zb tZ 7;have u8:=zb tZ 8;have fd:=zH tZ;have bj:=zH l8;have aF:=hI.bd.hB;have TM:=(l8.block (w.heap.size+1) (by omega)).trans (Lb i5 (by omega) Ii.out);have TL:=(l8.block (w.heap.size+1+1) (by omega)).trans (Lb i5 (by omega) D24.out);have rq:=zH TM;have pm:=zH TL;clear hI l8 tZ fG iS H0 fJ TM TL;go_wp2_with fail
  refine zk [(0,Ar),(1,Ar),(2,Ar),(3,Ar),(4,Ar),(5,Ar),(6,Ar),(7,Ar),(8,As),(9,As),(10,As)]
   (fun W=>W.cell? ⟨w4.heap.size+1+1+1,0,Z⟩=J (Aj (J ⟨w4.heap.size+1+1,0,Z⟩))/\W.heap[w4.heap.size+1+1]?=J (Ag #[O U p.t.n,.slice AV (zx p (zu p)).1.length kv,.map (J (w4.heap.size+1))] 116 (0,0)))
   (by kernel_rfl) (by kernel_rfl) ⟨e8,aF⟩ ?_
  clear e8 aF
  repeat
   apply zy rfl
   . rintro K' ae W ⟨y0,y1⟩
     have z0:W.cell? ⟨w4.heap.size+1+1,0,Z⟩=J (O U p.t.n):=za y1 0 rfl;have z1:W.cell? ⟨w4.heap.size+1+1,1,Z⟩=J (.slice AV (zx p (zu p)).1.length kv):=za y1 1 rfl;clear y1;go_simp;exact ae
  have e8:X.cell? ⟨w4.heap.size+1+1+1,0,Z⟩=J (Aj (J ⟨w4.heap.size+1+1,0,Z⟩)):=za ((mt.out.same bE.out (by omega) (by omega) (by omega) (by omega)).trans Hl.out) 0 rfl;refine zt rfl ?_;intro K' ae;go_simp;refine ae _ _ ⟨e8,mt.out.bd.hB⟩ ?_;clear ae K';refine zt rfl ?_;intro K' ae;go_simp;refine ae _ _ ⟨e8,mt.out.bd.hB⟩ ?_;clear ae K';refine yN rfl (by kernel_rfl) ?_;intro K' ae;go_simp;refine ae (fun _=>True) _ _ trivial ?_;refine zE ?_;clear ae K' e8 t7 t8 u7 u8;obtain⟨W7,ni⟩:=Kh (((X.setCell ⟨w4.heap.size,7,Z⟩ (O U p.t.n)).setCell ⟨w4.heap.size,8,Z⟩ (.slice AV (zx p (zu p)).1.length kv)).drew)
  have fP:W7.heap[w4.heap.size]?=J (Ag #[O U p.t.n,O U p.t.ins,O U p.t.outs,I A4 p.t.cases.length pG,O U p.a.n,I rf p.a.sts.length pF,O U p.k,O U p.t.n,.slice AV (zx p (zu p)).1.length kv,.slice AE (zx p (zu p)).2.length ke] 39 (0,0)):=by
   rw[<-ni];have q1:(X.setCell ⟨w4.heap.size,7,Z⟩ (O U p.t.n)).heap[w4.heap.size]?=J (Ag #[O U p.t.n,O U p.t.ins,O U p.t.outs,I A4 p.t.cases.length pG,O U p.a.n,I rf p.a.sts.length pF,O U p.k,O U p.t.n,I Z 0 0,.slice AE (zx p (zu p)).2.length ke] 39 (0,0)):=Lk X w4.heap.size 7 _ _ _ fd.out;exact Lk _ w4.heap.size 8 _ _ _ q1
  have CP:∀k,k≠w4.heap.size->W7.heap[k]?=X.heap[k]?:=fun k hk=>by
   rw[<-ni];exact(Lg _ ⟨w4.heap.size,8,Z⟩ _ k hk).trans (Lg _ ⟨w4.heap.size,7,Z⟩ _ k hk)
  have cM:Am w.heap.size w W7:=by
   rw[<-ni];exact(((B4.out.trans ((i5.trans bj.out).mono (by omega))).setCell (p:=⟨w4.heap.size,7,Z⟩) (by show w.heap.size<=w4.heap.size;omega) _).setCell (p:=⟨w4.heap.size,8,Z⟩) (by show w.heap.size<=w4.heap.size;omega) _).drew
  have Iv:W7.heap.size=X.heap.size:=by rw[<-ni];show(World.setCell _ _ _).heap.size=_;simp
  have fm:=(CP (w.heap.size+1) (by omega)).trans rq.out;have Hh:=(CP (w.heap.size+1+1) (by omega)).trans pm.out;have s0:W7.cell? ⟨w4.heap.size,0,Z⟩=J (O U p.t.n):=za fP 0 rfl;have s1:W7.cell? ⟨w4.heap.size,1,Z⟩=J (O U p.t.ins):=za fP 1 rfl;have s2:W7.cell? ⟨w4.heap.size,2,Z⟩=J (O U p.t.outs):=za fP 2 rfl;have s3:W7.cell? ⟨w4.heap.size,3,Z⟩=J (I A4 p.t.cases.length pG):=za fP 3 rfl;have s4:W7.cell? ⟨w4.heap.size,4,Z⟩=J (O U p.a.n):=za fP 4 rfl;have s5:W7.cell? ⟨w4.heap.size,5,Z⟩=J (I rf p.a.sts.length pF):=za fP 5 rfl;have s6:W7.cell? ⟨w4.heap.size,6,Z⟩=J (O U p.k):=za fP 6 rfl;have s7:W7.cell? ⟨w4.heap.size,7,Z⟩=J (O U p.t.n):=za fP 7 rfl;have s8:W7.cell? ⟨w4.heap.size,8,Z⟩=J (.slice AV (zx p (zu p)).1.length kv):=za fP 8 rfl;have s9:W7.cell? ⟨w4.heap.size,9,Z⟩=J (.slice AE (zx p (zu p)).2.length ke):=za fP 9 rfl;have n0:W7.cell? ⟨w.heap.size+1,0,Z⟩=J (O U 0):=za fm 0 rfl;have m0:=zb fm 0;have n1:W7.cell? ⟨w.heap.size+1,1,Z⟩=J (O U 0):=za fm 1 rfl;have m1:=zb fm 1;have n2:W7.cell? ⟨w.heap.size+1,2,Z⟩=J (O U 0):=za fm 2 rfl;have m2:=zb fm 2;have n3:W7.cell? ⟨w.heap.size+1,3,Z⟩=J (I Z 0 0):=za fm 3 rfl;have m3:=zb fm 3;have n4:W7.cell? ⟨w.heap.size+1,4,Z⟩=J (O U 0):=za fm 4 rfl;have m4:=zb fm 4;have n5:W7.cell? ⟨w.heap.size+1,5,Z⟩=J (I Z 0 0):=za fm 5 rfl
  have m5:=zb fm 5;have n6:W7.cell? ⟨w.heap.size+1,6,Z⟩=J (O U 0):=za fm 6 rfl;have m6:=zb fm 6;have n7:W7.cell? ⟨w.heap.size+1,7,Z⟩=J (O U 0):=za fm 7 rfl;have m7:=zb fm 7;have n8:W7.cell? ⟨w.heap.size+1,8,Z⟩=J (I Z 0 0):=za fm 8 rfl;have m8:=zb fm 8;have n9:W7.cell? ⟨w.heap.size+1,9,Z⟩=J (I Z 0 0):=za fm 9 rfl;have m9:=zb fm 9;have UO:W7.cell? ⟨w.heap.size+1+1,0,Z⟩=J (O U 0):=za Hh 0 rfl;have m10:=zb Hh 0;have rn:=zH CP;have ec:=zH cM;have Oc:=zH fm;have Ob:=zH Hh;rw[ni];clear ni CP cM fm Hh fP;go_wp2_with fail;obtain⟨k1,k2,k3,k4,k5⟩:=kR (O U p.t.n) (O U p.t.ins) (O U p.t.outs) (I A4 p.t.cases.length pG) (O U p.a.n) (I rf p.a.sts.length pF) (O U p.k) (O U p.t.n) (.slice AV (zx p (zu p)).1.length kv) (.slice AE (zx p (zu p)).2.length ke) (O U 0) Oc.out Ob.out (by omega) ec.out (by omega:w.heap.size<=w.heap.size+1) (by omega:w.heap.size<=w.heap.size+1+1)
  obtain⟨WF,dy⟩:=Kh ((((((((((((W7.setCell ⟨w.heap.size+1,0,Z⟩ (O U p.t.n)).setCell ⟨w.heap.size+1,1,Z⟩ (O U p.t.ins)).setCell ⟨w.heap.size+1,2,Z⟩ (O U p.t.outs)).setCell ⟨w.heap.size+1,3,Z⟩ (I A4 p.t.cases.length pG)).setCell ⟨w.heap.size+1,4,Z⟩ (O U p.a.n)).setCell ⟨w.heap.size+1,5,Z⟩ (I rf p.a.sts.length pF)).setCell ⟨w.heap.size+1,6,Z⟩ (O U p.k)).setCell ⟨w.heap.size+1,7,Z⟩ (O U p.t.n)).setCell ⟨w.heap.size+1,8,Z⟩ (.slice AV (zx p (zu p)).1.length kv)).setCell ⟨w.heap.size+1,9,Z⟩ (.slice AE (zx p (zu p)).2.length ke)).setCell ⟨w.heap.size+1+1,0,Z⟩ (O U 0)));rw[dy] at k1 k2 k3 k4 k5 ⊢;clear dy;have aT:∀k,k≠w4.heap.size->k≠w.heap.size+1->k≠w.heap.size+1+1->WF.heap[k]?=X.heap[k]?:=fun k a b c=>(k5 k b c).trans (rn.out k a)
  have hsf:WF.heap.size=X.heap.size:=k4.trans Iv;have WS:WF.heap[D]?=J (.deferred (J [])):=(aT D (by omega) (by omega) (by omega)).trans tL.out
  have rV:∀k,k<w4.heap.size->k≠w.heap.size+1->k≠w.heap.size+1+1->WF.heap[k]?=w4.heap[k]?:=fun k a b c=>
   (aT k (by omega) b c).trans ((bj.out.block k a).trans (i5.block k a))
  have sU:w4.heap.size<=WF.heap.size:=by omega
  have RA:RowX cCs (fun b=>((L0<=b/\b<B0)\/w3.heap.size<=b)/\b<w4.heap.size) WF g4 p.t.cases:=(CB.out.mono xu fun b hb hs=>⟨hs,hb⟩).keep xu ⟨sU,fun k hk _=>rV k hk.1.2 (by have:=hk.1.1;omega) (by have:=hk.1.1;omega)⟩ (rV g4 CB.out.lt (by omega) (by omega));have RS:RowX cMl (fun b=>((L0<=b/\b<B0)\/w3.heap.size<=b)/\b<w4.heap.size) WF Ha p.a.sts:=(su.out.mono qo fun b hb hs=>⟨hs,hb⟩).keep qo ⟨sU,fun k hk _=>rV k hk.1.2 (by have:=hk.1.1;omega) (by have:=hk.1.1;omega)⟩ (rV Ha su.out.lt (by omega) (by omega))
  have RV:OwnV WF w4.heap.size (.slice AV (zx p (zu p)).1.length kv) (zx p (zu p)).1:=mt.out.bd.own.of_same fun k hk=>by
   have:=(mt.out.no k hk).1;exact aT k (by omega) (by omega) (by omega)
  have RX:OwnX Z6 (fun k=>W9.heap.size<=k/\(I AV (zx p (zu p)).1.length kv).ownBlock≠J k) WF W9.heap.size (.slice AE (zx p (zu p)).2.length ke) (zx p (zu p)).2:=
   mt.out.out.keep zJ ⟨by omega,fun k hk _=>aT k (by have:=hk.1;omega) (by have:=hk.1;omega) (by have:=hk.1;omega)⟩ fun k hk=>by
    have:=(mt.out.out.lt k hk).1;exact aT k (by omega) (by omega) (by omega)
  have Ax:(zu p).length<=60:=by
   have h1:=congrArg List.length (Za p K pu.out);rw[jc,LJ,kE,yj] at h1;have:=Gf.out;rw[<-h1,Pa];omega
  have nc:=uU p (by have:=dU.out;omega) (zu p) (fun y hy=>by
   unfold zu at hy;obtain⟨d,_,hy⟩:=Ny.1 hy;obtain⟨w',fi,rfl⟩:=LO.1 hy;show w'.length<=6;rw[yK p.a _ 0 w' fi,pu.out]
   exact Fq)
  refine yD (B:=W9.heap.size) (kH (by omega) WS) ?_;intro W hX;have c0:W.cell? ⟨w.heap.size+1,0,Z⟩=J (O U p.t.n):=hX.cell (za k1 0 rfl);have c1:W.cell? ⟨w.heap.size+1,1,Z⟩=J (O U p.t.ins):=hX.cell (za k1 1 rfl);have c2:W.cell? ⟨w.heap.size+1,2,Z⟩=J (O U p.t.outs):=hX.cell (za k1 2 rfl);have c3:W.cell? ⟨w.heap.size+1,3,Z⟩=J (I A4 p.t.cases.length pG):=hX.cell (za k1 3 rfl);have c4:W.cell? ⟨w.heap.size+1,4,Z⟩=J (O U p.a.n):=hX.cell (za k1 4 rfl);have c5:W.cell? ⟨w.heap.size+1,5,Z⟩=J (I rf p.a.sts.length pF):=hX.cell (za k1 5 rfl);have c6:W.cell? ⟨w.heap.size+1,6,Z⟩=J (O U p.k):=hX.cell (za k1 6 rfl);have c7:W.cell? ⟨w.heap.size+1,7,Z⟩=J (O U p.t.n):=hX.cell (za k1 7 rfl);have c8:W.cell? ⟨w.heap.size+1,8,Z⟩=J (.slice AV (zx p (zu p)).1.length kv):=hX.cell (za k1 8 rfl);have c9:W.cell? ⟨w.heap.size+1,9,Z⟩=J (.slice AE (zx p (zu p)).2.length ke):=hX.cell (za k1 9 rfl);have BN:W.cell? ⟨w.heap.size+1+1,0,Z⟩=J (O U 0):=hX.cell (za k2 0 rfl);have Fb:=hX.below.size;obtain⟨DB,CI,eV,GU⟩:=(show OwnV W w4.heap.size _ _ from hX.own RV).form (by omega)
  cases eV
  obtain⟨OR,Ir,eE,_,_,GS,_⟩:=kZ (RX.turn zJ Fb hX.same)
  cases eE
  refine⟨.tuple #[Ai #[O U p.t.n,O U p.t.ins,O U p.t.outs,I A4 p.t.cases.length pG,O U p.a.n,I rf p.a.sts.length pF,O U p.k,O U p.t.n,.slice AV (zx p (zu p)).1.length kv,.slice AE (zx p (zu p)).2.length ke],O U 0],by simp[results,results13,go_sem,c0,c1,c2,c3,c4,c5,c6,c7,c8,c9,BN],?_⟩;rw[HB.out];refine⟨A4,pG,rf,pF,AV,kv,AE,ke,rfl,fun W' Gp dH=>⟨⟨?_,?_,?_,?_⟩,?_⟩,GU.lec,GU.lem,k3.trans (hX.below.mono (by omega))⟩
  . rw[OL.out]
    have R:=RA.turnC xu Fb hX.same;have Sk:=CB.out.lt;exact(R.keep xu ⟨Gp,fun k hk hl=>dH k (by have:=hk.1.1;omega) hl⟩ (dH g4 (by omega) (by omega))).cat
  . rw[Nn.out]
    have R:=RS.turnC qo Fb hX.same;have Sk:=su.out.lt;exact(R.keep qo ⟨Gp,fun k hk hl=>dH k (by have:=hk.1.1;omega) hl⟩ (dH Ha (by omega) (by omega))).sat
  . have MQ:=(show OwnV W w4.heap.size _ _ from hX.own RV)
    obtain⟨DB,CI,eV,GU⟩:=(MQ.of_same (w':=W') fun k hk=>dH k (.inr (by have:=(OwnV.lt MQ k hk).1;omega)) (OwnV.lt MQ k hk).2).form (by omega)
    cases eV
    exact GU.rows
  . have BO:=RX.turn zJ Fb hX.same
    obtain⟨OR,Ir,eE,_,_,GS,_⟩:=kZ (BO.keep (w':=W') zJ ⟨Gp,fun k hk hl=>dH k (.inr (by have:=hk.1;omega)) hl⟩ fun k hk=>dH k (.inr (by have:=(BO.lt k hk).1;omega)) (BO.lt k hk).2)
    cases eE
    exact GS
  have BO:=RX.turn zJ Fb hX.same;obtain⟨OR,Ir,eE,_,_,_,Wu⟩:=kZ (BO.keep (w':=W') zJ ⟨Gp,fun k hk hl=>dH k (.inr (by have:=hk.1;omega)) hl⟩ fun k hk=>dH k (.inr (by have:=(BO.lt k hk).1;omega)) (BO.lt k hk).2)
  cases eE
  exact Wu
 intro D c pre W _ _ h;exact h.elim
theorem QA(p:Pb)(hf:xN p)(A:Bb)(kc:Nat)(SV:Bb)(ks:Nat)(w:Ba)(L0 B0:Nat)(bX:B0<=w.heap.size)(lB:CAt w B0 A p.t.cases)(pY:SAt w B0 SV p.a.sts)(sm:CAtL L0 B0 w A p.t.cases)(sf:SAtL L0 B0 w SV p.a.sts) :
  An Al 13 #[.agg (p.vs A kc SV ks)] w (RetSysF L0 B0 (zP p) w):=
 (Xl p hf A kc SV ks w L0 B0 bX lB pY sm sf).mono fun _ _ h=>h.f
theorem gi(p:Pb)(hf:xN p)(A:Bb)(kc:Nat)(SV:Bb)(ks:Nat)(w:Ba)(B0:Nat)(bX:B0<=w.heap.size)(sm:CAt w B0 A p.t.cases)(sf:SAt w B0 SV p.a.sts) :
  An Al 13 #[.agg (p.vs A kc SV ks)] w (RetSysF 0 B0 (zP p) w):=
 QA p hf A kc SV ks w 0 B0 bX sm sf (CAtL.of sm bX) (SAtL.of sf bX)
theorem Zw(p:Pb)(hf:xN p)(A:Bb)(kc:Nat)(SV:Bb)(ks:Nat)(w:Ba)(hA:CAt w w.heap.size A p.t.cases)(hS:SAt w w.heap.size SV p.a.sts) :
  An Al 13 #[.agg (p.vs A kc SV ks)] w (RetSys (zP p) w):=
 (gi p hf A kc SV ks w w.heap.size (Lh _) hA hS).mono fun _ _ h=>h.sys
end
section
open Go.RowKit
attribute [local go_sem] Oper.semAt_some
def hq(f:Nat->Int)(k j:Nat):Int:=if j<k then f j else 0
def vq(p r i:Int)(f:Nat->Int)(k:Nat):Array Aq:=#[O U p,O U r,O U i,O U (hq f k 0),O U (hq f k 1),O U (hq f k 2),O U (hq f k 3),O U (hq f k 4)]
theorem Xw(p r i:Int)(f:Nat->Int)(k:Nat)(hk:k<5):(vq p r i f k).setIfInBounds (3+k) (O U (f k))=vq p r i f (k+1):=by
 match k,hk with
 | 0,_=>rfl
 | 1,_=>rfl
 | 2,_=>rfl
 | 3,_=>rfl
 | 4,_=>rfl
theorem vq_set2(p r i:Int)(f:Nat->Int)(k:Nat)(hk:k<5)(u:Aq):((vq p r i f k).setIfInBounds (3+k) u).setIfInBounds (3+k) (O U (f k))=vq p r i f (k+1):=by
 match k,hk with
 | 0,_=>rfl
 | 1,_=>rfl
 | 2,_=>rfl
 | 3,_=>rfl
 | 4,_=>rfl
theorem vq_at(p r i:Int)(f:Nat->Int)(k:Nat)(hk:k<5):(vq p r i f k)[3+k]?=J (O U 0):=by
 match k,hk with
 | 0,_=>rfl
 | 1,_=>rfl
 | 2,_=>rfl
 | 3,_=>rfl
 | 4,_=>rfl
theorem first_any(p:Nat)(i:Int)(w:Ba):An Al 135 #[O U (p:Int),O U i] w fun e w'=>e=Ak (.agg (yi p i).cells)/\Am w.heap.size w w':=by
 obtain⟨w1,ac,d0,d1,aA,hB⟩:=yr w (#[O U 0,O U 0,O U 0,O U 0,O U 0,O U 0,O U 0,O U 0]) (vq p 0 i (fun _=>-1) 0) 144 144;have ah:=zH ac;go_enter func135,ntmps135;go_wp2_with fail;rw[show((w.alloc (Ag #[O U 0,O U 0,O U 0,O U 0,O U 0,O U 0,O U 0,O U 0] 144)).alloc (Ag #[O U p,O U 0,O U i,O U 0,O U 0,O U 0,O U 0,O U 0] 144))=w1 from ah.out];have H0:=zH d0;have H1:=zH d1;have HB:=zH hB
 go_loopw [6] (fun j wr=>∃k:Nat,k<=5/\j=O U (k:Int)/\Ap (wr.heap[w.heap.size]?=J (Ag #[O U 0,O U 0,O U 0,O U 0,O U 0,O U 0,O U 0,O U 0] 144 (0,0)))/\Ap (wr.heap[w.heap.size+1]?=J (Ag (vq p 0 i (fun _=>-1) k) 144 (0,0)))/\Ap (Am w.heap.size w wr)) (fun j _=>5-(Ao j).toNat)
 case atStart=>exact⟨0,by omega,rfl,H0.out,H1.out,HB.out⟩
 obtain⟨k,hk,rfl,H0,H1,pB⟩:=hrel
 by_cases mZ:k<5
 case neg=>
  obtain rfl:k=5:=by omega
  have x0:wr.cell? ⟨w.heap.size+1,0,Z⟩=J (O U p):=za H1.out 0 rfl;have x1:wr.cell? ⟨w.heap.size+1,1,Z⟩=J (O U 0):=za H1.out 1 rfl;have x2:wr.cell? ⟨w.heap.size+1,2,Z⟩=J (O U i):=za H1.out 2 rfl;have x3:wr.cell? ⟨w.heap.size+1,3,Z⟩=J (O U (-1)):=za H1.out 3 rfl;have x4:wr.cell? ⟨w.heap.size+1,4,Z⟩=J (O U (-1)):=za H1.out 4 rfl;have x5:wr.cell? ⟨w.heap.size+1,5,Z⟩=J (O U (-1)):=za H1.out 5 rfl;have x6:wr.cell? ⟨w.heap.size+1,6,Z⟩=J (O U (-1)):=za H1.out 6 rfl;have x7:wr.cell? ⟨w.heap.size+1,7,Z⟩=J (O U (-1)):=za H1.out 7 rfl;have y0:wr.cell? ⟨w.heap.size,0,Z⟩=J (O U 0):=za H0.out 0 rfl;have y1:wr.cell? ⟨w.heap.size,1,Z⟩=J (O U 0):=za H0.out 1 rfl;have y2:wr.cell? ⟨w.heap.size,2,Z⟩=J (O U 0):=za H0.out 2 rfl;have y3:wr.cell? ⟨w.heap.size,3,Z⟩=J (O U 0):=za H0.out 3 rfl;have y4:wr.cell? ⟨w.heap.size,4,Z⟩=J (O U 0):=za H0.out 4 rfl;have y5:wr.cell? ⟨w.heap.size,5,Z⟩=J (O U 0):=za H0.out 5 rfl;have y6:wr.cell? ⟨w.heap.size,6,Z⟩=J (O U 0):=za H0.out 6 rfl;have y7:wr.cell? ⟨w.heap.size,7,Z⟩=J (O U 0):=za H0.out 7 rfl;have f0:=zb H0.out 0;have f1:=zb H0.out 1;have f2:=zb H0.out 2;have f3:=zb H0.out 3;have f4:=zb H0.out 4;have f5:=zb H0.out 5;have f6:=zb H0.out 6;have f7:=zb H0.out 7;go_wp2_with fail
  refine L6 (v:=Ai #[O U p,O U 0,O U i,O U (-1),O U (-1),O U (-1),O U (-1),O U (-1)]) (by simp[results,results135,go_sem,y0,y1,y2,y3,y4,y5,y6,y7]) rfl ⟨rfl,?_⟩;exact(((((((pB.out.setCell (Lh _) _).setCell (Lh _) _).setCell (Lh _) _).setCell (Lh _) _).setCell (Lh _) _).setCell (Lh _) _).setCell (Lh _) _).setCell (Lh _) _
 have x0:=za H1.out (3+k) (vq_at _ _ _ _ k mZ);have f0:=zb H1.out (3+k);have cA:(0:Int)<=(k:Int):=by omega
 have bC:(k:Int)<5:=by omega
 go_wp2_with fail
 go_roundw
 case rel=>exact⟨k+1,by omega,by go_num,(Lg wr _ _ w.heap.size (by show w.heap.size≠w.heap.size+1;omega)).trans H0.out,by show _=_;rw[Lk wr _ (3+k) _ _ _ H1.out,Xw _ _ _ (fun _=>-1) k mZ],pB.out.setCell (by show w.heap.size<=w.heap.size+1;omega) _⟩
 simp[Ao];omega
theorem seen_any(r:Rd)(K p:Nat)(hp:p<5)(hs:0<=r.h p/\r.h p<32)(A:Bb)(ca:Nat)(row:List Int)(hn:r.n=(row.length:Int))(_h5:row.length<=5)(w:Ba)(hI:IAt w w.heap.size A row) :
  An Al 136 #[.agg r.gcells,O U (K:Int),O U (p:Int),I A row.length ca] w fun e w'=>e=Ak (.agg (xk r K p row).cells)/\Am w.heap.size w w':=by
 obtain⟨s,rL⟩:∃s:Nat,r.h p=(s:Int):=⟨(r.h p).toNat,by omega⟩;have IU:s<32:=by omega
 have HH:=zH (fun q hq w=>kX s q IU hq w);have Nk:=zH rL;have HN:=zH hn;clear hn rL hs;obtain⟨w1,ac,g0,d0,d1,aA,hB⟩:=qZ w r.gcells #[O U 0,O U 0,O U 0,O U 0,O U 0,O U 0,O U 0,O U 0] (vq p K 0 (zQ r p row) 0) 66 144 144;have ah:=zH ac;go_enter func136,ntmps136;unfold Rd.gcells;go_wp2_with fail;rw[show(((w.alloc (Ag #[O U r.n,O U r.h0,O U r.h1,O U r.h2,O U r.h3,O U r.h4] 66)).alloc (Ag #[O U 0,O U 0,O U 0,O U 0,O U 0,O U 0,O U 0,O U 0] 144)).alloc (Ag #[O U p,O U K,O U 0,O U 0,O U 0,O U 0,O U 0,O U 0] 144))=w1 from ah.out];have HG:=zH g0;have H0:=zH d0;have H1:=zH d1;have HB:=zH hB;have HI:=zH hI
 go_loopw [10] (fun j wr=>∃k:Nat,k<=5/\j=O U (k:Int)/\Ap (wr.heap[w.heap.size]?=J (Ag r.gcells 66 (0,0)))/\Ap (wr.heap[w.heap.size+1]?=J (Ag #[O U 0,O U 0,O U 0,O U 0,O U 0,O U 0,O U 0,O U 0] 144 (0,0)))/\Ap (wr.heap[w.heap.size+1+1]?=J (Ag (vq p K 0 (zQ r p row) k) 144 (0,0)))/\Ap (Am w.heap.size w wr)) (fun j _=>5-(Ao j).toNat)
 case atStart=>exact⟨0,by omega,rfl,HG.out,H0.out,H1.out,HB.out⟩
 obtain⟨k,hk,rfl,HG,H0,H1,pB⟩:=hrel
 by_cases mZ:k<5
 case neg=>
  obtain rfl:k=5:=by omega
  have x0:wr.cell? ⟨w.heap.size+1+1,0,Z⟩=J (O U p):=za H1.out 0 rfl;have x1:wr.cell? ⟨w.heap.size+1+1,1,Z⟩=J (O U K):=za H1.out 1 rfl;have x2:wr.cell? ⟨w.heap.size+1+1,2,Z⟩=J (O U 0):=za H1.out 2 rfl;have x3:wr.cell? ⟨w.heap.size+1+1,3,Z⟩=J (O U (zQ r p row 0)):=za H1.out 3 rfl;have x4:wr.cell? ⟨w.heap.size+1+1,4,Z⟩=J (O U (zQ r p row 1)):=za H1.out 4 rfl;have x5:wr.cell? ⟨w.heap.size+1+1,5,Z⟩=J (O U (zQ r p row 2)):=za H1.out 5 rfl;have x6:wr.cell? ⟨w.heap.size+1+1,6,Z⟩=J (O U (zQ r p row 3)):=za H1.out 6 rfl;have x7:wr.cell? ⟨w.heap.size+1+1,7,Z⟩=J (O U (zQ r p row 4)):=za H1.out 7 rfl;have y0:wr.cell? ⟨w.heap.size+1,0,Z⟩=J (O U 0):=za H0.out 0 rfl;have y1:wr.cell? ⟨w.heap.size+1,1,Z⟩=J (O U 0):=za H0.out 1 rfl;have y2:wr.cell? ⟨w.heap.size+1,2,Z⟩=J (O U 0):=za H0.out 2 rfl;have y3:wr.cell? ⟨w.heap.size+1,3,Z⟩=J (O U 0):=za H0.out 3 rfl;have y4:wr.cell? ⟨w.heap.size+1,4,Z⟩=J (O U 0):=za H0.out 4 rfl;have y5:wr.cell? ⟨w.heap.size+1,5,Z⟩=J (O U 0):=za H0.out 5 rfl;have y6:wr.cell? ⟨w.heap.size+1,6,Z⟩=J (O U 0):=za H0.out 6 rfl;have y7:wr.cell? ⟨w.heap.size+1,7,Z⟩=J (O U 0):=za H0.out 7 rfl;have f0:=zb H0.out 0;have f1:=zb H0.out 1;have f2:=zb H0.out 2;have f3:=zb H0.out 3;have f4:=zb H0.out 4;have f5:=zb H0.out 5;have f6:=zb H0.out 6;have f7:=zb H0.out 7;go_wp2_with fail
  refine L6 (v:=.agg (xk r K p row).cells) (by unfold xk Vw.cells;simp[results,results136,go_sem,y0,y1,y2,y3,y4,y5,y6,y7]) rfl ⟨rfl,?_⟩;exact((((((((pB.out.setCell (by show w.heap.size<=w.heap.size+1;omega) _).setCell (by show w.heap.size<=w.heap.size+1;omega) _).setCell (by show w.heap.size<=w.heap.size+1;omega) _).setCell (by show w.heap.size<=w.heap.size+1;omega) _).setCell (by show w.heap.size<=w.heap.size+1;omega) _).setCell (by show w.heap.size<=w.heap.size+1;omega) _).setCell (by show w.heap.size<=w.heap.size+1;omega) _).setCell (by show w.heap.size<=w.heap.size+1;omega) _)
 have x0:=za H1.out (3+k) (vq_at _ _ _ _ k mZ);have f0:=zb H1.out (3+k);have g0:wr.cell? ⟨w.heap.size,0,Z⟩=J (O U (row.length:Int)):=by rw[<-HN.out];exact za HG.out 0 rfl
 have gp:wr.cell? ⟨w.heap.size,1+p,Z⟩=J (O U (s:Int)):=by
  rw[<-Nk.out]
  match p,hp with
  | 0,_=>exact za HG.out 1 rfl
  | 1,_=>exact za HG.out 2 rfl
  | 2,_=>exact za HG.out 3 rfl
  | 3,_=>exact za HG.out 4 rfl
  | 4,_=>exact za HG.out 5 rfl
 have cA:(0:Int)<=(k:Int):=by omega
 have bC:(k:Int)<5:=by omega
 have iK:(0:Int)<=(p:Int):=by omega
 have RO:(p:Int)<5:=by omega
 have HS:Ap ((wr.setCell ⟨w.heap.size+1+1,3+k,Z⟩ (O U (-1))).heap[w.heap.size+1+1]?=J (Ag ((vq p K 0 (zQ r p row) k).setIfInBounds (3+k) (O U (-1))) 144 (0,0))):=Lk wr _ (3+k) _ _ _ H1.out
 by_cases hq:k<row.length
 case neg=>
  have hE:Ap (zQ r p row k=-1):=by unfold zQ;exact Li (fun h=>hq h.1)
  have mW:¬((k:Int)<(row.length:Int)):=by omega
  go_wp2_with fail
  go_roundw
  case rel=>exact⟨k+1,by omega,by go_num,((Lg wr _ _ w.heap.size (by show w.heap.size≠w.heap.size+1+1;omega)).trans HG.out),((Lg wr _ _ (w.heap.size+1) (by show w.heap.size+1≠w.heap.size+1+1;omega)).trans H0.out),(HS.out.trans (by have e:=Xw p K 0 (zQ r p row) k mZ;rw[hE.out] at e;rw[e])),(pB.out.setCell (by show w.heap.size<=w.heap.size+1+1;omega) _)⟩
  simp[Ao];omega
 have mW:((k:Int)<(row.length:Int)):=by omega
 by_cases hb:s.testBit k=Ar
 case neg=>
  have hE:Ap (zQ r p row k=-1):=by unfold zQ;exact Li (fun h=>hb (by have h2:=h.2;rw[Nk.out] at h2;exact h2))
  go_wp2_with (go_at_call 53;refine(HH.out k mZ _).mono ?_;rintro e w' ⟨rfl,fi⟩;obtain rfl:=fi.symm)
  go_roundw
  case rel=>exact⟨k+1,by omega,by go_num,((Lg wr _ _ w.heap.size (by show w.heap.size≠w.heap.size+1+1;omega)).trans HG.out),((Lg wr _ _ (w.heap.size+1) (by show w.heap.size+1≠w.heap.size+1+1;omega)).trans H0.out),(HS.out.trans (by have e:=Xw p K 0 (zQ r p row) k mZ;rw[hE.out] at e;rw[e])),(pB.out.setCell (by show w.heap.size<=w.heap.size+1+1;omega) _)⟩
  simp[Ao];omega
 have hE:Ap (zQ r p row k=row[k]):=by
  unfold zQ;rw[Lo ⟨hq,by rw[Nk.out];exact hb⟩,Le,Lf hq];rfl
 have HX:=zH ((HI.out.keep pB.out).at_ k hq);obtain⟨ba,off,rfl,aa,hc⟩:=HX.out;have f1:=zb HS.out (3+k);go_wp2_with (go_at_call 53;refine(HH.out k mZ _).mono ?_;rintro e w' ⟨rfl,fi⟩;obtain rfl:=fi.symm)
 go_roundw
 case rel=>exact⟨k+1,by omega,by go_num,((Lg _ _ _ w.heap.size (by show w.heap.size≠w.heap.size+1+1;omega)).trans ((Lg wr _ _ w.heap.size (by show w.heap.size≠w.heap.size+1+1;omega)).trans HG.out)),((Lg _ _ _ (w.heap.size+1) (by show w.heap.size+1≠w.heap.size+1+1;omega)).trans ((Lg wr _ _ (w.heap.size+1) (by show w.heap.size+1≠w.heap.size+1+1;omega)).trans H0.out)),(by show _=_;rw[Lk _ _ (3+k) _ _ _ HS.out,<-hE.out,vq_set2 _ _ _ (zQ r p row) k mZ]),((pB.out.setCell (by show w.heap.size<=w.heap.size+1+1;omega) _).setCell (by show w.heap.size<=w.heap.size+1+1;omega) _)⟩
 simp[Ao];omega
end
section
open Go.RowKit Go.Shelf
structure Bt(D bs:Nat)(SC:Aq->Aq->Array Aq)(WR:Ba)(vs:List Vw)(xs:List Exn)(V E:Aq)(X:Ba):Prop where
 wr:Wrote (fun k=>k=bs) WR X
 wd:WR.heap.size<=D
 big:D<=X.heap.size
 bsl:bs<D
 sys:X.heap[bs]?=J (Ag (SC V E) 39 (0,0))
 tb:OwnV X D V vs
 out:OwnX Z6 (fun k=>bs<k) X D E xs
 no:∀k,V.ownBlock=J k->E.ownBlock≠J k
structure Bq(D bs bx:Nat)(SC:Aq->Aq->Array Aq)(WR:Ba)(c:Int)(wv:Aq)(vs:List Vw)(xs:List Exn)(views:List (List Int))(row:List Int)(V E Y L:Aq)(X:Ba):Prop where
 wr:Wrote (fun k=>k=bs) WR X
 wd:WR.heap.size<=D
 big:D<=X.heap.size
 bsl:bs<D
 sys:X.heap[bs]?=J (Ag (SC V E) 39 (0,0))
 x:X.heap[bx]?=J (Ag #[O U c,wv,Y] 49 (0,0))
 hx:D<=bx
 tb:OwnV X D V vs
 out:OwnX Z6 (fun k=>bs<k/\k≠bx/\Y.ownBlock≠J k/\L.ownBlock≠J k) X D E xs
 vw:OwnX cIs (fun k=>D<=k/\k≠bx/\E.ownBlock≠J k/\L.ownBlock≠J k) X D Y views
 row:OwnR kIn X D L row.length (row.map (O U))
 nV:∀k,V.ownBlock=J k->k≠bx/\E.ownBlock≠J k/\Y.ownBlock≠J k/\L.ownBlock≠J k
 nE:∀k,E.ownBlock=J k->k≠bx/\Y.ownBlock≠J k/\L.ownBlock≠J k
 nY:∀k,Y.ownBlock=J k->k≠bx/\L.ownBlock≠J k
 nL:∀k,L.ownBlock=J k->k≠bx
section
variable {D bs bx:Nat} {SC:Aq->Aq->Array Aq} {WR X:Ba} {c:Int} {wv:Aq} {vs:List Vw} {xs:List Exn} {views:List (List Int)} {row:List Int} {V E Y L:Aq}
theorem OwnV.lt'{w:Ba}{base:Nat}{v:Aq}{vs:List Vw}(h:OwnV w base v vs):∀k,v.ownBlock=J k->base<=k/\k<w.heap.size:=PZ h
theorem Bq.bxl(h:Bq D bs bx SC WR c wv vs xs views row V E Y L X):bx<X.heap.size:=(Lq.1 h.x).1
theorem Bt.on(h:Bt D bs SC WR vs xs V E X){X':Ba}(hb:Am X.heap.size X X'):Bt D bs SC WR vs xs V E X':=
 ⟨h.wr.trans (Wrote.of_below (R:=fun _=>False) hb) (fun _ _ h=>h.elim),h.wd,by have:=hb.size;have:=h.big;omega,h.bsl,Lb hb (by have:=h.bsl;have:=h.big;omega) h.sys,
  h.tb.of_same fun k hk=>hb.block k (h.tb.lt' k hk).2,h.out.below zJ hb (Lh _),h.no⟩
theorem Bq.on(h:Bq D bs bx SC WR c wv vs xs views row V E Y L X){X':Ba}(hb:Am X.heap.size X X'):Bq D bs bx SC WR c wv vs xs views row V E Y L X':=
 ⟨h.wr.trans (Wrote.of_below (R:=fun _=>False) hb) (fun _ _ h=>h.elim),h.wd,by have:=hb.size;have:=h.big;omega,h.bsl,Lb hb (by have:=h.bsl;have:=h.big;omega) h.sys,
  Lb hb h.bxl h.x,h.hx,h.tb.of_same fun k hk=>hb.block k (h.tb.lt' k hk).2,h.out.below zJ hb (Lh _),h.vw.below yw hb (Lh _),h.row.below hb (Lh _),h.nV,h.nE,h.nY,h.nL⟩
theorem Bt.start(h:Bt D bs SC WR vs xs V E X){X':Ba}(hb:Am X.heap.size X X')(hx:X'.heap[X.heap.size]?=J (Ag #[O U c,wv,I Z 0 0] 49 (0,0))) :
  Bq D bs X.heap.size SC WR c wv vs xs [] [] V E (I Z 0 0) (I Z 0 0) X':=by
 have h':=h.on hb;refine⟨h'.wr,h'.wd,h'.big,h'.bsl,h'.sys,hx,h.big,h'.tb,?_,OwnX.nil _ _ _ _,OwnR.nil _ _ _,fun k hk=>?_,fun k hk=>?_,fun k hk=>?_,fun k hk=>?_⟩
 . refine OwnX.below zJ (OwnX.mono zJ h.out fun k hk hs=>⟨hs,by omega,?_,?_⟩) hb (Lh _)
   . simp[Value.ownBlock]
   simp[Value.ownBlock]
 . have:=(h.tb.lt' k hk).2
   exact⟨by omega,h.no k hk,by simp[Value.ownBlock],by simp[Value.ownBlock]⟩
 . have:=(h.out.lt k hk).2
   exact⟨by omega,by simp[Value.ownBlock],by simp[Value.ownBlock]⟩
 . simp[Value.ownBlock] at hk
 simp[Value.ownBlock] at hk
theorem Bq.put(h:Bq D bs bx SC WR c wv vs xs views row V E Y L X){W:Ba}(hb:Am X.heap.size X W){V' u:Aq}{tN:List Vw}(hT:OwnV W D V' tN)(hV:∀k,V'.ownBlock=J k->V.ownBlock=J k\/X.heap.size<=k)
  (h7:(SC V E).setIfInBounds 7 u=SC V E) (h8:(SC V E).setIfInBounds 8 V'=SC V' E) :
  Bq D bs bx SC WR c wv tN xs views row V' E Y L ((W.setCell ⟨bs,7,Z⟩ u).setCell ⟨bs,8,Z⟩ V'):=by
 have h1:=h.on hb;have bh:=h.bsl;have aV:=h.hx;obtain⟨W',nJ⟩:=Kh ((W.setCell ⟨bs,7,Z⟩ u).setCell ⟨bs,8,Z⟩ V')
 have hk:∀k,k≠bs->W'.heap[k]?=W.heap[k]?:=fun k hk=>by
  rw[<-nJ];exact(Lg _ ⟨bs,8,Z⟩ _ k hk).trans (Lg _ ⟨bs,7,Z⟩ _ k hk)
 have hz:W'.heap.size=W.heap.size:=by rw[<-nJ];simp
 have hs:W'.heap[bs]?=J (Ag (SC V' E) 39 (0,0)):=by
  rw[<-nJ];have q:=Lk W bs 7 _ _ u h1.sys;rw[h7] at q;have q2:=Lk _ bs 8 _ _ V' q;rwa[h8] at q2
 have hw:Wrote (fun k=>k=bs) W W':=by
  rw[<-nJ];exact⟨rfl,rfl,rfl,by simp,fun k _ hk=>(Lg _ ⟨bs,8,Z⟩ _ k hk).trans (Lg _ ⟨bs,7,Z⟩ _ k hk)⟩
 rw[nJ];refine⟨h1.wr.trans hw (fun k _ e=>e),h.wd,by have:=h1.big;omega,h.bsl,hs,(hk _ (by omega)).trans h1.x,h.hx,hT.of_same fun k e=>hk k (by have:=(hT.lt' k e).1;omega),?_,?_,?_,fun k e=>?_,h.nE,h.nY,h.nL⟩
 . exact h1.out.keep zJ ⟨by omega,fun k hs _=>hk k (by have:=hs.1;omega)⟩ fun k e=>hk k (by have:=(h1.out.lt k e).1;omega)
 . exact h1.vw.keep yw ⟨by omega,fun k hs _=>hk k (by have:=hs.1;omega)⟩ fun k e=>hk k (by have:=(h1.vw.lt k e).1;omega)
 . refine h1.row.kept (row:=J bs) ⟨hw.os,hw.tape,hw.output,hw.size,fun k _ hn=>hk k (fun e=>hn (by rw[e]))⟩ (Or.inr (h1.row.ne (by omega)))
 rcases hV k e with e | e
 . exact h.nV k e
 have az:=h.bxl;exact⟨by omega,fun e2=>by have:=(h.out.lt k e2).2;omega,fun e2=>by have:=(h.vw.lt k e2).2;omega,fun e2=>by have:=(h.row.lt k e2).2;omega⟩
theorem gO(W:Ba)(b o:Nat)(u:Aq):Wrote (fun k=>k=b) W (W.setCell ⟨b,o,Z⟩ u):=⟨rfl,rfl,rfl,by simp,fun k _ hn=>Lg W ⟨b,o,Z⟩ u k hn⟩
theorem OwnX.aside{α:Type}{C:Ct α}(ok:CtOk C){S:Nat->Prop}{W w5:Ba}{v L:Aq}{xs:List α}{g' n cap:Nat}(h:OwnX C S W D v xs)(hS:∀k,S k->L.ownBlock≠J k)(hg:W.grownBy w5 L.ownBlock)(aO:∀k,v.ownBlock=J k->L.ownBlock≠J k)
  (bK:L.ownBlock=J g'\/g'=W.heap.size):OwnX C (fun k=>S k/\(I (J ⟨g',0,Z⟩) n cap).ownBlock≠J k) w5 D v xs:=by
 have h1:OwnX C (fun k=>S k/\(I (J ⟨g',0,Z⟩) n cap).ownBlock≠J k) W D v xs:=OwnX.mono ok h fun k hk hs=>⟨hs,fun e=>by
  have e2:g'=k:=by simpa[Value.ownBlock] using e
  rcases bK with e3 | e3
  . exact hS k hs (by rw[e3,e2])
  . omega⟩
 refine h1.kept ok hg ?_ fun k hk=>.inl fun hs=>hS k hs.1 hk
 cases hv:v.ownBlock with
 | none=>exact .inl rfl
 | some k=>exact .inr fun e=>aO k hv e.symm
theorem OwnV.aside{W w5:Ba}{v L:Aq}{vs:List Vw}(h:OwnV W D v vs)(hg:W.grownBy w5 L.ownBlock)(aO:∀k,v.ownBlock=J k->L.ownBlock≠J k):OwnV w5 D v vs:=
 h.of_same fun k hk=>hg.block k (h.lt' k hk).2 fun e=>aO k hk e.symm
theorem xP{L:Aq}{W:Ba}{g' n cap:Nat}{P:Nat->Prop}(bK:L.ownBlock=J g'\/g'=W.heap.size)(h1:∀k,L.ownBlock=J k->P k)(h2:P W.heap.size):∀k,(I (J ⟨g',0,Z⟩) n cap).ownBlock=J k->P k:=fun k e=>by
 have e2:g'=k:=by simpa[Value.ownBlock] using e
 subst e2;rcases bK with e3 | e3
 . exact h1 g' e3
 . rw[e3];exact h2
theorem Bq.push(h:Bq D bs bx SC WR c wv vs xs views row V E Y L X){W w5:Ba}(hb:Am X.heap.size X W){i:Int}{g' cap:Nat}
  (hr:OwnR kIn w5 D (I (J ⟨g',0,Z⟩) (row.length+1) cap) (row.length+1) (row.map (O U)++[O U i])) (hg:W.grownBy w5 L.ownBlock) (bK:L.ownBlock=J g'\/g'=W.heap.size) :
  Bq D bs bx SC WR c wv vs xs views (row++[i]) V E Y (I (J ⟨g',0,Z⟩) (row.length+1) cap) w5:=by
 have h1:=h.on hb;have aD:=h1.row.lt;have bh:=h.bsl;have aV:=h.hx;have hbig:=h1.big;have C5:=h1.tb.lt';have tr:=h1.out.lt;have Mb:=h1.vw.lt;have az:=h1.bxl;have Si:=hg.size;refine⟨h1.wr.trans (Wrote.of_grown (R:=fun k=>D<=k) hg (fun k e _=>(aD k e).1)) (fun k hk e=>by have:=h.wd;omega),h.wd,by omega,h.bsl,?_,?_,h.hx,h1.tb.aside hg fun k e=>(h.nV k e).2.2.2,?_,?_,by simpa using hr,fun k e=>?_,fun k e=>?_,fun k e=>?_,?_⟩
 . exact(hg.block bs (by omega) fun e=>by have:=(aD bs e.symm).1;omega).trans h1.sys
 . exact(hg.block bx az fun e=>h.nL bx e.symm rfl).trans h1.x
 . exact OwnX.mono zJ (h1.out.aside zJ (n:=row.length+1) (cap:=cap) (fun k hs=>hs.2.2.2) hg (fun k e=>(h.nE k e).2.2) bK) fun k _ hs=>⟨hs.1.1,hs.1.2.1,hs.1.2.2.1,hs.2⟩
 . exact OwnX.mono yw (h1.vw.aside yw (n:=row.length+1) (cap:=cap) (fun k hs=>hs.2.2.2) hg (fun k e=>(h.nY k e).2) bK) fun k _ hs=>⟨hs.1.1,hs.1.2.1,hs.1.2.2.1,hs.2⟩
 . exact⟨(h.nV k e).1,(h.nV k e).2.1,(h.nV k e).2.2.1,fun e2=>xP (P:=fun j=>V.ownBlock≠J j) bK (fun j ej ev=>(h.nV j ev).2.2.2 ej) (fun ev=>by have:=(C5 _ ev).2;omega) k e2 e⟩
 . exact⟨(h.nE k e).1,(h.nE k e).2.1,fun e2=>xP (P:=fun j=>E.ownBlock≠J j) bK (fun j ej ev=>(h.nE j ev).2.2 ej) (fun ev=>by have:=(tr _ ev).2;omega) k e2 e⟩
 . exact⟨(h.nY k e).1,fun e2=>xP (P:=fun j=>Y.ownBlock≠J j) bK (fun j ej ev=>(h.nY j ev).2 ej) (fun ev=>by have:=(Mb _ ev).2;omega) k e2 e⟩
 exact xP bK h.nL (by omega)
theorem Bq.close(h:Bq D bs bx SC WR c wv vs xs views row V E Y L X){W w5:Ba}(hb:Am X.heap.size X W){g' cap:Nat}{aI:List (List Aq)}(aw:aI.length=views.length)
  (bJ:∀(i:Nat) (h1:i<aI.length) (h2:i<views.length),cIs.lies (fun k=>(D<=k/\k≠bx/\E.ownBlock≠J k/\L.ownBlock≠J k)/\Y.ownBlock≠J k) W aI[i] views[i])
  (hr:OwnR kIs w5 D (I (J ⟨g',0,Z⟩) (views.length+1) cap) (views.length+1) (aI.flatten++[L])) (hg:W.grownBy w5 Y.ownBlock) (bK:Y.ownBlock=J g'\/g'=W.heap.size) :
  Bq D bs bx SC WR c wv vs xs (views++[row]) [] V E (I (J ⟨g',0,Z⟩) (views.length+1) cap) (I Z 0 0) (w5.setCell ⟨bx,2,Z⟩ (I (J ⟨g',0,Z⟩) (views.length+1) cap)):=by
 have h1:=h.on hb;have aD:=h1.vw.lt;have bh:=h.bsl;have aV:=h.hx;have hbig:=h1.big;have C5:=h1.tb.lt';have tr:=h1.out.lt;have Wz:=h1.row.lt;have az:=h1.bxl;have Si:=hg.size;obtain⟨A,cL,eL,_,_,WI⟩:=h1.row.form
 have hX:cIs.lies (fun k=>(D<=k/\k≠bx/\E.ownBlock≠J k)/\Y.ownBlock≠J k) W [L] row:=by
  refine⟨A,cL,by rw[eL],fun h0=>?_⟩;obtain⟨g,hA,AT,dx,hc⟩:=WI h0;refine⟨g,0,hA,⟨⟨(Wz g AT).1,h.nL g AT,fun e=>(h.nE g e).2.2 AT⟩,fun e=>(h.nY g e).2 AT⟩,dx,fun i hi=>?_⟩;rw[LM];exact hc i _ (by simp[hi])
 have hv:=OwnX.app yw (S:=fun k=>D<=k/\k≠bx/\E.ownBlock≠J k) aw (fun i i1 i2=>yw.mono (bJ i i1 i2) fun k _ hs=>⟨⟨hs.1.1,hs.1.2.1,hs.1.2.2.1⟩,hs.2⟩) hX hr hg bK;have I7:=h1.out.aside zJ (n:=views.length+1) (cap:=cap) (fun k hs=>hs.2.2.1) hg (fun k e=>(h.nE k e).2.1) bK;have VI:w5.heap[bx]?=J (Ag #[O U c,wv,Y] 49 (0,0)):=(hg.block bx az fun e=>(h.nY bx e.symm).1 rfl).trans h1.x;have CW:w5.heap[bs]?=J (Ag (SC V E) 39 (0,0)):=(hg.block bs (by omega) fun e=>by have:=(aD bs e.symm).1;omega).trans h1.sys;have hk:∀k,k≠bx->(w5.setCell ⟨bx,2,Z⟩ (I (J ⟨g',0,Z⟩) (views.length+1) cap)).heap[k]?=w5.heap[k]?:=fun k hk=>Lg w5 ⟨bx,2,Z⟩ _ k hk
 have hw:Wrote (fun k=>D<=k) W (w5.setCell ⟨bx,2,Z⟩ (I (J ⟨g',0,Z⟩) (views.length+1) cap)):=
  (Wrote.of_grown (R:=fun k=>D<=k) hg (fun k e _=>(aD k e).1)).trans (gO w5 bx 2 _) (fun k _ e=>by omega)
 refine⟨h1.wr.trans hw (fun k hk e=>by have:=h.wd;omega),h.wd,by simp;omega,h.bsl,(hk bs (by omega)).trans CW,?_,h.hx,?_,?_,?_,OwnR.nil _ _ _,fun k e=>?_,fun k e=>?_,fun k e=>?_,fun k e=>?_⟩
 . rw[Lk w5 bx 2 _ _ _ VI];rfl
 . exact(h1.tb.aside hg fun k e=>(h.nV k e).2.2.1).of_same fun k e=>hk k (h.nV k e).1
 . exact OwnX.mono zJ (I7.keep zJ ⟨by simp,fun k hs _=>hk k hs.1.2.1⟩ fun k e=>hk k (h.nE k e).1) fun k _ hs=>⟨hs.1.1,hs.1.2.1,hs.2,by simp[Value.ownBlock]⟩
 . refine OwnX.mono yw (hv.keep yw ⟨by simp,fun k hs _=>hk k hs.2.1⟩ fun k e=>hk k ?_) fun k _ hs=>⟨hs.1,hs.2.1,hs.2.2,by simp[Value.ownBlock]⟩
   exact xP (P:=fun j=>j≠bx) bK (fun j e=>(h.nY j e).1) (by omega) k e
 . exact⟨(h.nV k e).1,(h.nV k e).2.1,fun e2=>xP (P:=fun j=>V.ownBlock≠J j) bK (fun j ej ev=>(h.nV j ev).2.2.1 ej) (fun ev=>by have:=(C5 _ ev).2;omega) k e2 e,by simp[Value.ownBlock]⟩
 . exact⟨(h.nE k e).1,fun e2=>xP (P:=fun j=>E.ownBlock≠J j) bK (fun j ej ev=>(h.nE j ev).2.1 ej) (fun ev=>by have:=(tr _ ev).2;omega) k e2 e,by simp[Value.ownBlock]⟩
 . exact⟨xP (P:=fun j=>j≠bx) bK (fun j e=>(h.nY j e).1) (by omega) k e,by simp[Value.ownBlock]⟩
 simp[Value.ownBlock] at e
theorem Bq.done(h:Bq D bs bx SC WR c wv vs xs views [] V E Y (I Z 0 0) X){W w5:Ba}(hb:Am X.heap.size X W){g' cap A2 c2 A3 c3:_}{aI:List (List Aq)}{word:List Rd}(aw:aI.length=xs.length)
  (bJ:∀(i:Nat) (h1:i<aI.length) (h2:i<xs.length),Z6.lies (fun k=>(bs<k/\k≠bx/\Y.ownBlock≠J k/\(I Z 0 0).ownBlock≠J k)/\E.ownBlock≠J k) W aI[i] xs[i])
  (US:wv=I A2 word.length c2) (SL:Y=I A3 views.length c3) (hw:RAtS (fun k=>bs<k/\k<D) WR A2 word) (nB:word.length<=c2)
  (hr:OwnR kXn w5 D (I (J ⟨g',0,Z⟩) (xs.length+1) cap) (xs.length+1) (aI.flatten++[O U c,wv,Y])) (hg:W.grownBy w5 E.ownBlock) (bK:E.ownBlock=J g'\/g'=W.heap.size)
  (h9:(SC V E).setIfInBounds 9 (I (J ⟨g',0,Z⟩) (xs.length+1) cap)=SC V (I (J ⟨g',0,Z⟩) (xs.length+1) cap)) :
  Bt D bs SC WR vs (xs++[⟨c,word,views⟩]) V (I (J ⟨g',0,Z⟩) (xs.length+1) cap) (w5.setCell ⟨bs,9,Z⟩ (I (J ⟨g',0,Z⟩) (xs.length+1) cap)):=by
 have h1:=h.on hb;have aD:=h1.out.lt;have bh:=h.bsl;have aV:=h.hx;have hbig:=h1.big;have C5:=h1.tb.lt';have Mb:=h1.vw.lt;have Si:=hg.size;obtain⟨A3',c3',e3,_,_,hL⟩:=Zv h1.vw;rw[SL] at e3
 cases e3
 have hX:Z6.lies (fun k=>bs<k/\E.ownBlock≠J k) W [O U c,wv,Y] ⟨c,word,views⟩:=by
  refine⟨A2,c2,A3,c3,by rw[US,SL],?_,?_,nB⟩
  . exact(hw.keep ⟨h1.wr.size,fun k hk hl=>h1.wr.block k hl (fun e=>by have:=hk.1;omega)⟩).mono fun k _ hs=>⟨hs.1,fun e=>by have:=(aD k e).1;have:=hs.2;omega⟩
  refine hL.mono fun k _ hs=>?_
  rcases hs with hs | hs
  . exact⟨by have:=hs.1;omega,hs.2.2.1⟩
  exact⟨by have:=(Mb k hs).1;omega,fun e=>(h.nE k e).2.1 hs⟩
 have hv:=OwnX.app zJ (S:=fun k=>bs<k) aw (fun i i1 i2=>zJ.mono (bJ i i1 i2) fun k _ hs=>⟨hs.1.1,hs.2⟩) hX hr hg bK;have CW:w5.heap[bs]?=J (Ag (SC V E) 39 (0,0)):=(hg.block bs (by omega) fun e=>by have:=(aD bs e.symm).1;omega).trans h1.sys;have hk:∀k,k≠bs->(w5.setCell ⟨bs,9,Z⟩ (I (J ⟨g',0,Z⟩) (xs.length+1) cap)).heap[k]?=w5.heap[k]?:=fun k hk=>Lg w5 ⟨bs,9,Z⟩ _ k hk
 have fw:Wrote (fun k=>k=bs\/D<=k) W (w5.setCell ⟨bs,9,Z⟩ (I (J ⟨g',0,Z⟩) (xs.length+1) cap)):=
  (Wrote.of_grown (R:=fun k=>k=bs\/D<=k) hg (fun k e _=>.inr (aD k e).1)).trans (gO w5 bs 9 _) (fun k _ e=>.inl e)
 refine⟨h1.wr.trans fw (fun k hk e=>by have:=h.wd;omega),h.wd,by simp;omega,h.bsl,?_,?_,?_,fun k e=>?_⟩
 . rw[Lk w5 bs 9 _ _ _ CW,h9]
 . exact(h1.tb.aside hg fun k e=>(h.nV k e).2.1).of_same fun k e=>hk k (by have:=(C5 k e).1;omega)
 . refine hv.keep zJ ⟨by simp,fun k hs _=>hk k (by omega)⟩ fun k e=>hk k ?_
   exact xP (P:=fun j=>j≠bs) bK (fun j e=>by have:=(aD j e).1;omega) (by omega) k e
 exact fun e2=>xP (P:=fun j=>V.ownBlock≠J j) bK (fun j ej ev=>(h.nV j ev).2.1 ej) (fun ev=>by have:=(C5 _ ev).2;omega) k e2 e
end
end
section
open Go.RowKit Go.Shelf
def stQ(vs:List Vw)(N:Nat)(inp:List Int)(word:List Rd):Nat->List Vw×List (List Int)
 | 0=>(vs,[])
 | k+1=>zr vs N inp word k
def fQ(inp:List Int)(word:List Rd)(views:List (List Int)):Nat->Nat->Vw
 | 0=>f0 inp
 | k+1=>fk word k (views.getD k [])
theorem stQ_succ(vs:List Vw)(N:Nat)(inp:List Int)(word:List Rd)(k:Nat) :
  stQ vs N inp word (k+1)=((zY (fQ inp word (stQ vs N inp word k).2 k) (stQ vs N inp word k).1 N).1,(stQ vs N inp word k).2++[(zY (fQ inp word (stQ vs N inp word k).2 k) (stQ vs N inp word k).1 N).2]):=by
 cases k<;>rfl
theorem stQ_len(vs:List Vw)(N:Nat)(inp:List Int)(word:List Rd)(k:Nat):(stQ vs N inp word k).2.length=k:=by
 cases k
 . rfl
 exact yg _ _ _ _ _
theorem QK(vs:List Vw)(N:Nat)(inp:List Int)(word:List Rd)(k:Nat):(stQ vs N inp word k).1.length<=vs.length+k*N:=by
 cases k
 . simp[stQ]
 exact qN _ _ _ _ _
theorem stQ_row(vs:List Vw)(N:Nat)(inp:List Int)(word:List Rd)(k j:Nat)(hj:j<(stQ vs N inp word k).2.length):((stQ vs N inp word k).2[j]).length=N:=by
 cases k with
 | zero=>exact absurd hj (by simp[stQ])
 | succ k=>exact qh _ _ _ _ k _ (Ld hj)
def pcs(ab:List (List Rd))(c:Nat):List (Nat×List Rd):=(List.range c).flatMap fun i=>ab.map fun w=>(i,w)
theorem YP(ab:List (List Rd))(c:Nat):pcs ab (c+1)=pcs ab c++ab.map fun w=>(c,w):=by
 unfold pcs;rw[RI,PB];simp
theorem ZO(p:Pb):zu p=pcs (zC p.a p.k.toNat 0) p.t.cases.length:=rfl
def pcw(ab:List (List Rd))(c j:Nat):List (Nat×List Rd):=pcs ab c++(ab.take j).map fun w=>(c,w)
theorem YO(ab:List (List Rd))(c:Nat):pcw ab c 0=pcs ab c:=by simp[pcw]
theorem pcw_succ(ab:List (List Rd))(c j:Nat)(hj:j<ab.length):pcw ab c (j+1)=pcw ab c j++[(c,ab[j])]:=by
 unfold pcw;rw[Ls hj,LF,List.map_singleton,L7]
theorem pcw_end(ab:List (List Rd))(c:Nat):pcw ab c ab.length=pcs ab (c+1):=by
 unfold pcw;rw[LC,YP]
theorem uy(ab:List (List Rd)):∀c,(pcs ab c).length=c*ab.length
 | 0=>by simp[pcs]
 | c+1=>by rw[YP,Lu,uy ab c,LJ,PU];omega
theorem QS(ab:List (List Rd))(c j:Nat)(hj:j<=ab.length):(pcw ab c j).length=c*ab.length+j:=by
 unfold pcw;rw[Lu,uy,LJ,NS,Pz hj]
theorem pcw_mem(ab:List (List Rd))(c j:Nat):∀x∈pcw ab c j,x.2∈ab:=fun x hx=>by
 unfold pcw at hx;rcases L8.1 hx with hx | hx
 . unfold pcs at hx
   obtain⟨_,_,hx⟩:=Ny.1 hx;obtain⟨_,h,rfl⟩:=LO.1 hx;exact h
 . obtain⟨_,h,rfl⟩:=LO.1 hx
   exact List.mem_of_mem_take h
theorem gZ(p:Pb)(ab:List (List Rd))(hn:p.t.n.toNat<=5)(hw:∀w∈ab,w.length<=6)(c j:Nat)(hj:j<=ab.length)(dt:c*ab.length+j<=60):(zx p (pcw ab c j)).1.length<=2100/\(zx p (pcw ab c j)).2.length=c*ab.length+j:=by
 have h1:=uU p hn (pcw ab c j) fun x hx=>hw _ (pcw_mem ab c j x hx)
 rw[QS ab c j hj] at h1;refine⟨by omega,?_⟩;rw[xm,QS ab c j hj]
theorem uT(p:Pb)(ab:List (List Rd))(hn:p.t.n.toNat<=5)(hw:∀w∈ab,w.length<=6)(c:Nat)(dt:c*ab.length<=60):(zx p (pcs ab c)).1.length<=2100:=by
 have:=(gZ p ab hn hw c 0 (Nw _) (by omega)).1;rwa[YO] at this
theorem put_out{n:Int}{AV:Bb}{kv:Nat}{vs:List Vw}{v:Vw}{W w':Ba}{e:Ending}{D:Nat}(h:RetPut n AV kv vs v W e w')(hO:OwnV W D (I AV vs.length kv) vs)(hD:D<=W.heap.size) :
  ∃A3 k3,e=Ak (.tuple #[Ai #[O U n,.slice A3 (xn vs v).1.length k3],O U (xn vs v).2])/\OwnV w' D (.slice A3 (xn vs v).1.length k3) (xn vs v).1 /\
   (∀k,(I A3 (xn vs v).1.length k3).ownBlock=J k->(I AV vs.length kv).ownBlock=J k\/W.heap.size<=k)/\Am W.heap.size W w':=by
 obtain⟨hb,h1,h2⟩:=h
 by_cases hm:v∈vs
 . rw[YG hm]
   exact⟨AV,kv,h1 hm,hO.of_same fun k hk=>hb.block k (hO.lt' k hk).2,fun k hk=>.inl hk,hb⟩
 rw[QR hm];obtain⟨A3,k3,e3,ho⟩:=h2 hm;have hl:(vs++[v]).length=vs.length+1:=by simp
 dsimp only;rw[hl];exact⟨A3,k3,e3,ho.low hD,fun k hk=>.inr (ho.lt' k hk).1,hb⟩
theorem qw{w X:Ba}{g B:Nat}{a0 a1 a2 a3 a4 a5 a6 a7 a8 a9:Aq}(v0 v1 v2 v3 v4 v5 v6 v7 v8 v9:Aq)(hg:X.heap[g]?=J (Ag #[a0,a1,a2,a3,a4,a5,a6,a7,a8,a9] 39 (0,0)))(hB:Am B w X)(h1:B<=g) :
  ((((((((((X.setCell ⟨g,0,Z⟩ v0).setCell ⟨g,1,Z⟩ v1).setCell ⟨g,2,Z⟩ v2).setCell ⟨g,3,Z⟩ v3).setCell ⟨g,4,Z⟩ v4).setCell ⟨g,5,Z⟩ v5).setCell ⟨g,6,Z⟩ v6).setCell ⟨g,7,Z⟩ v7).setCell ⟨g,8,Z⟩ v8).setCell ⟨g,9,Z⟩ v9).heap[g]?=J (Ag #[v0,v1,v2,v3,v4,v5,v6,v7,v8,v9] 39 (0,0))/\Am B w ((((((((((X.setCell ⟨g,0,Z⟩ v0).setCell ⟨g,1,Z⟩ v1).setCell ⟨g,2,Z⟩ v2).setCell ⟨g,3,Z⟩ v3).setCell ⟨g,4,Z⟩ v4).setCell ⟨g,5,Z⟩ v5).setCell ⟨g,6,Z⟩ v6).setCell ⟨g,7,Z⟩ v7).setCell ⟨g,8,Z⟩ v8).setCell ⟨g,9,Z⟩ v9)/\Am g X ((((((((((X.setCell ⟨g,0,Z⟩ v0).setCell ⟨g,1,Z⟩ v1).setCell ⟨g,2,Z⟩ v2).setCell ⟨g,3,Z⟩ v3).setCell ⟨g,4,Z⟩ v4).setCell ⟨g,5,Z⟩ v5).setCell ⟨g,6,Z⟩ v6).setCell ⟨g,7,Z⟩ v7).setCell ⟨g,8,Z⟩ v8).setCell ⟨g,9,Z⟩ v9)/\(∀k,k≠g->((((((((((X.setCell ⟨g,0,Z⟩ v0).setCell ⟨g,1,Z⟩ v1).setCell ⟨g,2,Z⟩ v2).setCell ⟨g,3,Z⟩ v3).setCell ⟨g,4,Z⟩ v4).setCell ⟨g,5,Z⟩ v5).setCell ⟨g,6,Z⟩ v6).setCell ⟨g,7,Z⟩ v7).setCell ⟨g,8,Z⟩ v8).setCell ⟨g,9,Z⟩ v9).heap[k]?=X.heap[k]?)/\((((((((((X.setCell ⟨g,0,Z⟩ v0).setCell ⟨g,1,Z⟩ v1).setCell ⟨g,2,Z⟩ v2).setCell ⟨g,3,Z⟩ v3).setCell ⟨g,4,Z⟩ v4).setCell ⟨g,5,Z⟩ v5).setCell ⟨g,6,Z⟩ v6).setCell ⟨g,7,Z⟩ v7).setCell ⟨g,8,Z⟩ v8).setCell ⟨g,9,Z⟩ v9).heap.size=X.heap.size:=by
 have k0:(X.setCell ⟨g,0,Z⟩ v0).heap[g]?=J (Ag #[v0,a1,a2,a3,a4,a5,a6,a7,a8,a9] 39 (0,0)):=Lk _ g 0 _ _ v0 hg;have k1:((X.setCell ⟨g,0,Z⟩ v0).setCell ⟨g,1,Z⟩ v1).heap[g]?=J (Ag #[v0,v1,a2,a3,a4,a5,a6,a7,a8,a9] 39 (0,0)):=Lk _ g 1 _ _ v1 k0;have k2:(((X.setCell ⟨g,0,Z⟩ v0).setCell ⟨g,1,Z⟩ v1).setCell ⟨g,2,Z⟩ v2).heap[g]?=J (Ag #[v0,v1,v2,a3,a4,a5,a6,a7,a8,a9] 39 (0,0)):=Lk _ g 2 _ _ v2 k1;have k3:((((X.setCell ⟨g,0,Z⟩ v0).setCell ⟨g,1,Z⟩ v1).setCell ⟨g,2,Z⟩ v2).setCell ⟨g,3,Z⟩ v3).heap[g]?=J (Ag #[v0,v1,v2,v3,a4,a5,a6,a7,a8,a9] 39 (0,0)):=Lk _ g 3 _ _ v3 k2;have k4:(((((X.setCell ⟨g,0,Z⟩ v0).setCell ⟨g,1,Z⟩ v1).setCell ⟨g,2,Z⟩ v2).setCell ⟨g,3,Z⟩ v3).setCell ⟨g,4,Z⟩ v4).heap[g]?=J (Ag #[v0,v1,v2,v3,v4,a5,a6,a7,a8,a9] 39 (0,0)):=Lk _ g 4 _ _ v4 k3;have k5:((((((X.setCell ⟨g,0,Z⟩ v0).setCell ⟨g,1,Z⟩ v1).setCell ⟨g,2,Z⟩ v2).setCell ⟨g,3,Z⟩ v3).setCell ⟨g,4,Z⟩ v4).setCell ⟨g,5,Z⟩ v5).heap[g]?=J (Ag #[v0,v1,v2,v3,v4,v5,a6,a7,a8,a9] 39 (0,0)):=Lk _ g 5 _ _ v5 k4;have k6:(((((((X.setCell ⟨g,0,Z⟩ v0).setCell ⟨g,1,Z⟩ v1).setCell ⟨g,2,Z⟩ v2).setCell ⟨g,3,Z⟩ v3).setCell ⟨g,4,Z⟩ v4).setCell ⟨g,5,Z⟩ v5).setCell ⟨g,6,Z⟩ v6).heap[g]?=J (Ag #[v0,v1,v2,v3,v4,v5,v6,a7,a8,a9] 39 (0,0)):=Lk _ g 6 _ _ v6 k5
 have k7:((((((((X.setCell ⟨g,0,Z⟩ v0).setCell ⟨g,1,Z⟩ v1).setCell ⟨g,2,Z⟩ v2).setCell ⟨g,3,Z⟩ v3).setCell ⟨g,4,Z⟩ v4).setCell ⟨g,5,Z⟩ v5).setCell ⟨g,6,Z⟩ v6).setCell ⟨g,7,Z⟩ v7).heap[g]?=J (Ag #[v0,v1,v2,v3,v4,v5,v6,v7,a8,a9] 39 (0,0)):=Lk _ g 7 _ _ v7 k6;have k8:(((((((((X.setCell ⟨g,0,Z⟩ v0).setCell ⟨g,1,Z⟩ v1).setCell ⟨g,2,Z⟩ v2).setCell ⟨g,3,Z⟩ v3).setCell ⟨g,4,Z⟩ v4).setCell ⟨g,5,Z⟩ v5).setCell ⟨g,6,Z⟩ v6).setCell ⟨g,7,Z⟩ v7).setCell ⟨g,8,Z⟩ v8).heap[g]?=J (Ag #[v0,v1,v2,v3,v4,v5,v6,v7,v8,a9] 39 (0,0)):=Lk _ g 8 _ _ v8 k7;have k9:((((((((((X.setCell ⟨g,0,Z⟩ v0).setCell ⟨g,1,Z⟩ v1).setCell ⟨g,2,Z⟩ v2).setCell ⟨g,3,Z⟩ v3).setCell ⟨g,4,Z⟩ v4).setCell ⟨g,5,Z⟩ v5).setCell ⟨g,6,Z⟩ v6).setCell ⟨g,7,Z⟩ v7).setCell ⟨g,8,Z⟩ v8).setCell ⟨g,9,Z⟩ v9).heap[g]?=J (Ag #[v0,v1,v2,v3,v4,v5,v6,v7,v8,v9] 39 (0,0)):=Lk _ g 9 _ _ v9 k8;refine⟨k9,?_,?_,fun k hk=>?_,by simp⟩
 . refine Ly (p:=⟨g,9,Z⟩) ?_ h1 _
   refine Ly (p:=⟨g,8,Z⟩) ?_ h1 _;refine Ly (p:=⟨g,7,Z⟩) ?_ h1 _;refine Ly (p:=⟨g,6,Z⟩) ?_ h1 _;refine Ly (p:=⟨g,5,Z⟩) ?_ h1 _;refine Ly (p:=⟨g,4,Z⟩) ?_ h1 _;refine Ly (p:=⟨g,3,Z⟩) ?_ h1 _;refine Ly (p:=⟨g,2,Z⟩) ?_ h1 _;refine Ly (p:=⟨g,1,Z⟩) ?_ h1 _;refine Ly (p:=⟨g,0,Z⟩) ?_ h1 _;exact hB
 . refine Ly (p:=⟨g,9,Z⟩) ?_ (Lh _) _
   refine Ly (p:=⟨g,8,Z⟩) ?_ (Lh _) _;refine Ly (p:=⟨g,7,Z⟩) ?_ (Lh _) _;refine Ly (p:=⟨g,6,Z⟩) ?_ (Lh _) _;refine Ly (p:=⟨g,5,Z⟩) ?_ (Lh _) _;refine Ly (p:=⟨g,4,Z⟩) ?_ (Lh _) _;refine Ly (p:=⟨g,3,Z⟩) ?_ (Lh _) _;refine Ly (p:=⟨g,2,Z⟩) ?_ (Lh _) _;refine Ly (p:=⟨g,1,Z⟩) ?_ (Lh _) _;refine Ly (p:=⟨g,0,Z⟩) ?_ (Lh _) _;exact Ll _ _
 exact((Lg _ ⟨g,9,Z⟩ v9 k hk).trans ((Lg _ ⟨g,8,Z⟩ v8 k hk).trans ((Lg _ ⟨g,7,Z⟩ v7 k hk).trans ((Lg _ ⟨g,6,Z⟩ v6 k hk).trans ((Lg _ ⟨g,5,Z⟩ v5 k hk).trans ((Lg _ ⟨g,4,Z⟩ v4 k hk).trans ((Lg _ ⟨g,3,Z⟩ v3 k hk).trans ((Lg _ ⟨g,2,Z⟩ v2 k hk).trans ((Lg _ ⟨g,1,Z⟩ v1 k hk).trans (Lg _ ⟨g,0,Z⟩ v0 k hk))))))))))
theorem Jm{w X:Ba}{g B:Nat}{a0 a1 a2 a3 a4 a5 a6 a7:Aq}(v:Vw)(hg:X.heap[g]?=J (Ag #[a0,a1,a2,a3,a4,a5,a6,a7] 144 (0,0)))(hB:Am B w X)(h1:B<=g) :
  ((((((((X.setCell ⟨g,0,Z⟩ (O U v.p)).setCell ⟨g,1,Z⟩ (O U v.r)).setCell ⟨g,2,Z⟩ (O U v.i)).setCell ⟨g,3,Z⟩ (O U v.h0)).setCell ⟨g,4,Z⟩ (O U v.h1)).setCell ⟨g,5,Z⟩ (O U v.h2)).setCell ⟨g,6,Z⟩ (O U v.h3)).setCell ⟨g,7,Z⟩ (O U v.h4)).heap[g]?=J (Ag v.cells 144 (0,0))/\Am B w ((((((((X.setCell ⟨g,0,Z⟩ (O U v.p)).setCell ⟨g,1,Z⟩ (O U v.r)).setCell ⟨g,2,Z⟩ (O U v.i)).setCell ⟨g,3,Z⟩ (O U v.h0)).setCell ⟨g,4,Z⟩ (O U v.h1)).setCell ⟨g,5,Z⟩ (O U v.h2)).setCell ⟨g,6,Z⟩ (O U v.h3)).setCell ⟨g,7,Z⟩ (O U v.h4)):=by
 have k0:(X.setCell ⟨g,0,Z⟩ (O U v.p)).heap[g]?=J (Ag #[O U v.p,a1,a2,a3,a4,a5,a6,a7] 144 (0,0)):=Lk _ g 0 _ _ _ hg;have k1:((X.setCell ⟨g,0,Z⟩ (O U v.p)).setCell ⟨g,1,Z⟩ (O U v.r)).heap[g]?=J (Ag #[O U v.p,O U v.r,a2,a3,a4,a5,a6,a7] 144 (0,0)):=Lk _ g 1 _ _ _ k0;have k2:(((X.setCell ⟨g,0,Z⟩ (O U v.p)).setCell ⟨g,1,Z⟩ (O U v.r)).setCell ⟨g,2,Z⟩ (O U v.i)).heap[g]?=J (Ag #[O U v.p,O U v.r,O U v.i,a3,a4,a5,a6,a7] 144 (0,0)):=Lk _ g 2 _ _ _ k1;have k3:((((X.setCell ⟨g,0,Z⟩ (O U v.p)).setCell ⟨g,1,Z⟩ (O U v.r)).setCell ⟨g,2,Z⟩ (O U v.i)).setCell ⟨g,3,Z⟩ (O U v.h0)).heap[g]?=J (Ag #[O U v.p,O U v.r,O U v.i,O U v.h0,a4,a5,a6,a7] 144 (0,0)):=Lk _ g 3 _ _ _ k2;have k4:(((((X.setCell ⟨g,0,Z⟩ (O U v.p)).setCell ⟨g,1,Z⟩ (O U v.r)).setCell ⟨g,2,Z⟩ (O U v.i)).setCell ⟨g,3,Z⟩ (O U v.h0)).setCell ⟨g,4,Z⟩ (O U v.h1)).heap[g]?=J (Ag #[O U v.p,O U v.r,O U v.i,O U v.h0,O U v.h1,a5,a6,a7] 144 (0,0)):=Lk _ g 4 _ _ _ k3
 have k5:((((((X.setCell ⟨g,0,Z⟩ (O U v.p)).setCell ⟨g,1,Z⟩ (O U v.r)).setCell ⟨g,2,Z⟩ (O U v.i)).setCell ⟨g,3,Z⟩ (O U v.h0)).setCell ⟨g,4,Z⟩ (O U v.h1)).setCell ⟨g,5,Z⟩ (O U v.h2)).heap[g]?=J (Ag #[O U v.p,O U v.r,O U v.i,O U v.h0,O U v.h1,O U v.h2,a6,a7] 144 (0,0)):=Lk _ g 5 _ _ _ k4;have k6:(((((((X.setCell ⟨g,0,Z⟩ (O U v.p)).setCell ⟨g,1,Z⟩ (O U v.r)).setCell ⟨g,2,Z⟩ (O U v.i)).setCell ⟨g,3,Z⟩ (O U v.h0)).setCell ⟨g,4,Z⟩ (O U v.h1)).setCell ⟨g,5,Z⟩ (O U v.h2)).setCell ⟨g,6,Z⟩ (O U v.h3)).heap[g]?=J (Ag #[O U v.p,O U v.r,O U v.i,O U v.h0,O U v.h1,O U v.h2,O U v.h3,a7] 144 (0,0)):=Lk _ g 6 _ _ _ k5;have k7:((((((((X.setCell ⟨g,0,Z⟩ (O U v.p)).setCell ⟨g,1,Z⟩ (O U v.r)).setCell ⟨g,2,Z⟩ (O U v.i)).setCell ⟨g,3,Z⟩ (O U v.h0)).setCell ⟨g,4,Z⟩ (O U v.h1)).setCell ⟨g,5,Z⟩ (O U v.h2)).setCell ⟨g,6,Z⟩ (O U v.h3)).setCell ⟨g,7,Z⟩ (O U v.h4)).heap[g]?=J (Ag #[O U v.p,O U v.r,O U v.i,O U v.h0,O U v.h1,O U v.h2,O U v.h3,O U v.h4] 144 (0,0)):=Lk _ g 7 _ _ _ k6;refine⟨k7,?_⟩;refine Ly (p:=⟨g,7,Z⟩) ?_ h1 _;refine Ly (p:=⟨g,6,Z⟩) ?_ h1 _;refine Ly (p:=⟨g,5,Z⟩) ?_ h1 _
 refine Ly (p:=⟨g,4,Z⟩) ?_ h1 _;refine Ly (p:=⟨g,3,Z⟩) ?_ h1 _;refine Ly (p:=⟨g,2,Z⟩) ?_ h1 _;refine Ly (p:=⟨g,1,Z⟩) ?_ h1 _;refine Ly (p:=⟨g,0,Z⟩) ?_ h1 _;exact hB
def WdsAt(bs D:Nat)(WR:Ba)(AW:Bb)(ab:List (List Rd)):Prop:=∀(i:Nat) (h:i<ab.length),∃g A c,AW=J ⟨g,0,Z⟩/\bs<g/\g<D/\WR.cell? ⟨g,i,Z⟩=J (I A ab[i].length c)/\RAtS (fun k=>bs<k/\k<D) WR A ab[i]/\ab[i].length<=c
theorem WdsAt.of{bs D:Nat}{w w':Ba}{v:Aq}{ab:List (List Rd)}(h:OwnX cWd (fun b=>w.heap.size<=b) w' w.heap.size v ab)(hb:bs<w.heap.size)(hD:w'.heap.size=D) :
  ∃AW cw,v=I AW ab.length cw/\WdsAt bs D w' AW ab:=by
 obtain⟨A,cap,e,_,_,h3⟩:=h.form xL;refine⟨A,cap,e,fun i hi=>?_⟩;obtain⟨g,hA,hg,hl,hc⟩:=h3 (by omega);obtain⟨cs,⟨A2,c2,e2,hR,WA⟩,hu⟩:=hc i hi;subst e2;refine⟨g,A2,c2,hA,by omega,by omega,?_,hR.mono fun k hk hs=>⟨by have:=hs.1;omega,by omega⟩,WA⟩;have:=hu 0 _ rfl;simpa[cWd,kWd] using this
end
section
open Go.RowKit
attribute [local go_sem] Oper.semAt_some
theorem eqI_any(A A':Bb)(cap cap':Nat)(xs ys:List Int)(w:Ba)(B:Nat)(hA:IAt w B A xs)(mf:IAt w B A' ys)(hl:xs.length<=17592186044416)(EA:ys.length<=17592186044416) :
  An Al 119 #[I A xs.length cap,I A' ys.length cap'] w fun e w'=>e=Ak (Ah (decide (xs=ys)))/\∃n,w'=w.drewN n:=by
 by_cases aD:xs.length=ys.length
 . by_cases h0:xs.length=0
   . have e1:xs=[]:=LA h0
     have e2:ys=[]:=LA (by omega);subst e1;subst e2;exact(Tryz.slices_Equal_int_empty A A' cap 0 cap' w (by omega)).mono fun e w' h=>⟨by simpa using h.1,0,h.2⟩
   obtain⟨b,o,rfl,hb,hc⟩:=hA (by omega);obtain⟨b',o',rfl,dn,Wd⟩:=mf (by omega);refine(Tryz.slices_Equal_int b o xs.length cap b' o' ys.length cap' xs ys w (Lh _) (Lh _) (by omega) (by omega) (fun j hj=>?_) (fun j hj=>?_)).mono fun e w' h=>⟨?_,h.2⟩
   . rw[Le,Lf hj];exact hc j hj
   . rw[Le,Lf hj];exact Wd j hj
   rw[h.1,LC,LC];exact ze (by rw[NG];simp)
 exact(Tryz.slices_Equal_int_lens A A' xs.length cap ys.length cap' w aD).mono fun e w' h=>⟨by rw[h.1,Ln (by rintro rfl;exact aD rfl)],0,h.2⟩
theorem eqV_any(A A':Bb)(cap cap':Nat)(vs us:List Vw)(w:Ba)(B:Nat)(_hB:B<=w.heap.size)(hA:VAt w B A vs)(mf:VAt w B A' us)(_hl:vs.length<=2199023255552)(EA:us.length<=2199023255552) :
  An Al 68 #[I A vs.length cap,I A' us.length cap'] w fun e w'=>e=Ak (Ah (decide (vs=us)))/\∃n,w'=w.drewN n:=by
 have HE:Ap (∀k (hk:k<vs.length) (dw:k<us.length) (X:Ba),(binOp .neq 144 (.agg vs[k].cells) (.agg us[k].cells)).run Al X=.ok (Ah (decide (vs[k]≠us[k]))) X):=fun k hk dw X=>YS vs[k] us[k] X
 unfold Vw.cells at HE
 by_cases aD:vs.length=us.length
 . have HL:=zH aD
   have iu:((vs.length:Int) != (us.length:Int))=As:=by simp[aD]
   go_enter func68,ntmps68;go_wp2
   go_loopw [13] (fun i wr=>∃k m:Nat,k<=vs.length/\i=O U k/\wr=w.drewN m/\Ap (vs.take k=us.take k)) (fun i _=>vs.length-(Ao i).toNat)
   case atStart=>exact⟨0,0,by omega,rfl,rfl,by show vs.take 0=us.take 0;simp⟩
   obtain⟨k,m,hk,rfl,rfl,aT⟩:=hrel;have dQ:k<=us.length:=by have:=HL.out;omega
   by_cases aa:k<vs.length
   . have cp:k<us.length:=by have:=HL.out;omega
     obtain⟨b,off,rfl,aH,c0,c1,c2,c3,c4,c5,c6,c7⟩:=hA.row k aa;obtain⟨b',ie,rfl,rZ,d0,d1,d2,d3,d4,d5,d6,d7⟩:=mf.row k cp;have iZ:=HE.out k aa cp
     by_cases hv:vs[k]=us[k]
     . have lW:∀X:Ba,_:=fun X=>(iZ X).trans (by rw[Ln (by simpa using hv)])
       have hz:Ap (vs.take (k+1)=us.take (k+1)):=vd aa cp aT.out hv;clear iZ hv;go_wp2;go_quiet (fail);go_wp2
       go_roundw
       case rel=>exact⟨k+1,_,by omega,by go_num,rfl,hz⟩
       simp[Ao];omega
     have lW:∀X:Ba,_:=fun X=>(iZ X).trans (by rw[Lm hv])
     have hz:Ap (decide (vs=us)=As):=Ln (qi aa cp hv);go_wp2;go_quiet (fail);go_wp2;go_ret;exact⟨ze hz.out.symm,_,kP _ _ _⟩
   obtain rfl:k=vs.length:=by omega
   have hz:Ap (decide (vs=us)=Ar):=Lm (qn HL.out aT.out);go_wp2;go_ret;exact⟨ze hz.out.symm,_,rfl⟩
 have hz:Ap (decide (vs=us)=As):=Ln (by rintro rfl;exact aD rfl);have iu:((vs.length:Int) != (us.length:Int))=Ar:=by simp;omega
 go_enter func68,ntmps68;go_wp2;go_ret;exact⟨ze hz.out.symm,0,rfl⟩
theorem eqR_any(A A':Bb)(cap cap':Nat)(vs us:List Rd)(w:Ba)(B:Nat)(_hB:B<=w.heap.size)(hA:RAt w B A vs)(mf:RAt w B A' us)(_hl:vs.length<=17592186044416)(EA:us.length<=17592186044416) :
  An Al 117 #[I A vs.length cap,I A' us.length cap'] w fun e w'=>e=Ak (Ah (decide (vs=us)))/\∃n,w'=w.drewN n:=by
 have HE:Ap (∀k (hk:k<vs.length) (dw:k<us.length) (X:Ba),(binOp .neq 68 (.agg vs[k].cells) (.agg us[k].cells)).run Al X=.ok (Ah (decide (vs[k]≠us[k]))) X):=fun k hk dw X=>Zd vs[k] us[k] X
 unfold Rd.cells at HE
 by_cases aD:vs.length=us.length
 . have HL:=zH aD
   have iu:((vs.length:Int) != (us.length:Int))=As:=by simp[aD]
   go_enter func117,ntmps117;go_wp2
   go_loopw [13] (fun i wr=>∃k m:Nat,k<=vs.length/\i=O U k/\wr=w.drewN m/\Ap (vs.take k=us.take k)) (fun i _=>vs.length-(Ao i).toNat)
   case atStart=>exact⟨0,0,by omega,rfl,rfl,by show vs.take 0=us.take 0;simp⟩
   obtain⟨k,m,hk,rfl,rfl,aT⟩:=hrel;have dQ:k<=us.length:=by have:=HL.out;omega
   by_cases aa:k<vs.length
   . have cp:k<us.length:=by have:=HL.out;omega
     obtain⟨b,off,rfl,aH,c0,c1,c2,c3,c4,c5,c6⟩:=hA.row k aa;obtain⟨b',ie,rfl,rZ,d0,d1,d2,d3,d4,d5,d6⟩:=mf.row k cp;have iZ:=HE.out k aa cp
     by_cases hv:vs[k]=us[k]
     . have lW:∀X:Ba,_:=fun X=>(iZ X).trans (by rw[Ln (by simpa using hv)])
       have hz:Ap (vs.take (k+1)=us.take (k+1)):=vd aa cp aT.out hv;clear iZ hv;go_wp2;go_quiet (fail);go_wp2
       go_roundw
       case rel=>exact⟨k+1,_,by omega,by go_num,rfl,hz⟩
       simp[Ao];omega
     have lW:∀X:Ba,_:=fun X=>(iZ X).trans (by rw[Lm hv])
     have hz:Ap (decide (vs=us)=As):=Ln (qi aa cp hv);go_wp2;go_quiet (fail);go_wp2;go_ret;exact⟨ze hz.out.symm,_,kP _ _ _⟩
   obtain rfl:k=vs.length:=by omega
   have hz:Ap (decide (vs=us)=Ar):=Lm (qn HL.out aT.out);go_wp2;go_ret;exact⟨ze hz.out.symm,_,rfl⟩
 have hz:Ap (decide (vs=us)=As):=Ln (by rintro rfl;exact aD rfl);have iu:((vs.length:Int) != (us.length:Int))=Ar:=by simp;omega
 go_enter func117,ntmps117;go_wp2;go_ret;exact⟨ze hz.out.symm,0,rfl⟩
theorem eqLL_any(A A':Bb)(cap cap':Nat)(vs us:List (List Int))(w:Ba)(B:Nat)(_hB:B<=w.heap.size)(hA:LAt w B A vs)(mf:LAt w B A' us)(hl:vs.length<=17592186044416)(EA:us.length<=17592186044416)
  (hv:∀v∈vs,v.length<=17592186044416) (hu:∀v∈us,v.length<=17592186044416) :
  An Al 118 #[I A vs.length cap,I A' us.length cap',.func (.func 119) #[] #[]] w fun e w'=>e=Ak (Ah (decide (vs=us)))/\∃n,w'=w.drewN n:=by
 have HV:=zH hv;have HU:=zH hu
 by_cases aD:vs.length=us.length
 . have HL:=zH aD
   have iu:((vs.length:Int) != (us.length:Int))=As:=by simp[aD]
   clear aD;go_enter func118,ntmps118;go_wp2_with fail
   go_loopw [17] (fun i wr=>∃k m:Nat,k<=vs.length/\i=O U k/\wr=w.drewN m/\Ap (vs.take k=us.take k)) (fun i _=>vs.length-(Ao i).toNat)
   case atStart=>exact⟨0,0,by omega,rfl,rfl,by show vs.take 0=us.take 0;simp⟩
   obtain⟨k,m,hk,rfl,rfl,aT⟩:=hrel;have dQ:k<=us.length:=by have:=HL.out;omega
   by_cases aa:k<vs.length
   . have cp:k<us.length:=by have:=HL.out;omega
     obtain⟨b,off,A1,c1,rfl,aH,x0,hI⟩:=hA.at_ k aa;obtain⟨b',ie,A2,c2,rfl,rZ,y0,Db⟩:=mf.at_ k cp;have HC:=zH (eqI_any A1 A2 c1 c2 vs[k] us[k] (w.drewN m) B hI Db (HV.out _ (Ld aa)) (HU.out _ (Ld cp)));have x1:(w.drewN m).cell? ⟨b,off+k,Z⟩=J (I A1 vs[k].length c1):=x0;have y1:(w.drewN m).cell? ⟨b',ie+k,Z⟩=J (I A2 us[k].length c2):=y0;clear hA mf x0 y0 hI Db;have cA:(0:Int)<=(k:Int):=by omega
     have bC:(k:Int)<(vs.length:Int):=by omega
     have eG:(k:Int)<(us.length:Int):=by omega
     go_wp2_with fail;refine HC.out.mono ?_;rintro e w' ⟨rfl,n,rfl⟩
     by_cases hv:vs[k]=us[k]
     . have hz:Ap (vs.take (k+1)=us.take (k+1)):=yH aT.out aa cp hv
       rw[Lm hv];clear hv HC x1 y1;go_wp2_with fail
       go_roundw
       case rel=>exact⟨k+1,_,by omega,by go_num,rfl,hz⟩
       simp[Ao];omega
     have hz:Ap (decide (vs=us)=As):=Ln (qi aa cp hv);rw[Ln hv];go_wp2_with fail;go_ret;exact⟨ze hz.out.symm,_,rfl⟩
   obtain rfl:k=vs.length:=by omega
   have hz:Ap (decide (vs=us)=Ar):=Lm (qn HL.out aT.out);go_wp2_with fail;go_ret;exact⟨ze hz.out.symm,_,rfl⟩
 have hz:Ap (decide (vs=us)=As):=Ln (by rintro rfl;exact aD rfl);have iu:((vs.length:Int) != (us.length:Int))=Ar:=by simp;omega
 go_enter func118,ntmps118;go_wp2_with fail;go_ret;exact⟨ze hz.out.symm,0,rfl⟩
theorem Jj(x y:Exn)(hx:QG x)(hy:QG y)(A1 A2 B1 B2:Bb)(a1 a2 b1 b2:Nat)(w:Ba)(lB:RAt w w.heap.size A1 x.word)(Fu:LAt w w.heap.size A2 x.views)(aG:RAt w w.heap.size B1 y.word)(bP:LAt w w.heap.size B2 y.views) :
  An Al 70 #[Ai #[O U x.c,I A1 x.word.length a1,I A2 x.views.length a2],Ai #[O U y.c,I B1 y.word.length b1,I B2 y.views.length b2]] w fun e w'=>e=Ak (Ah (decide (x=y)))/\Am w.heap.size w w':=by
 obtain⟨w1,ac,d0,d1,aA,hB⟩:=yr w #[O U x.c,I A1 x.word.length a1,I A2 x.views.length a2] #[O U y.c,I B1 y.word.length b1,I B2 y.views.length b2] 49 49;have HR:=zH (eqR_any A1 B1 a1 b1 x.word y.word w1 w.heap.size (by omega) (lB.keep hB) (aG.keep hB) hx.1 hy.1);have HL:=zH (fun n=>eqLL_any A2 B2 a2 b2 x.views y.views (w1.drewN n) w.heap.size (by show w.heap.size<=w1.heap.size;omega) (Fu.keep (zO hB n)) (bP.keep (zO hB n)) hx.2.1 hy.2.1 hx.2.2 hy.2.2);have ah:=zH ac;have HB:=zH hB;have bD:=zH d0;have cH:=zH d1;obtain⟨p0,p1,p2,_⟩:=Kc d0;obtain⟨q0,q1,q2,_⟩:=Kc d1;have HE:=zH (@exn_eq x y);have pl:Ap (x≠y->decide (x=y)=As):=fun h=>Ln h
 have Hk:Ap (x=y->decide (x=y)=Ar):=fun h=>Lm h
 obtain⟨r,hr⟩:∃r,decide (x=y)=r:=⟨_,rfl⟩;rw[hr] at pl Hk ⊢;clear hr ac d0 d1 hB lB Fu aG bP hx hy;go_enter func70,ntmps70
 by_cases h1:x.c=y.c
 case neg=>
  have hR:=zH (pl.out (fun h=>h1 (congrArg Exn.c h)));have e0:(x.c==y.c)=As:=by simpa using h1
  clear pl Hk HE h1 HR HL;go_wp2_with fail;rw[ah.out];go_wp2_with fail
  all_goals
   go_ret;exact⟨ze hR.out.symm,HB.out⟩
 case pos=>
 have e0:(x.c==y.c)=Ar:=by simpa using h1
 have HC:=zH h1;clear h1;go_wp2_with fail;rw[ah.out];go_wp2_with fail;refine HR.out.mono ?_;rintro e w2 ⟨rfl,n,rfl⟩;have p2:(w1.drewN n).cell? ⟨w.heap.size,2,Z⟩=J (I A2 x.views.length a2):=za bD.out 2 rfl;have q2:(w1.drewN n).cell? ⟨w.heap.size+1,2,Z⟩=J (I B2 y.views.length b2):=za cH.out 2 rfl
 by_cases h2:x.word=y.word
 case neg=>
  have hR:=zH (pl.out (fun h=>h2 (congrArg Exn.word h)));rw[Ln h2];clear pl Hk HE h2 HR HL;go_wp2_with fail
  all_goals
   go_ret;exact⟨ze hR.out.symm,zO HB.out n⟩
 case pos=>
 rw[Lm h2];have HW:=zH h2;clear h2;go_wp2_with fail;refine(HL.out n).mono ?_;rintro e w3 ⟨rfl,m,rfl⟩
 have hR:Ap (decide (x.views=y.views)=r):=by
  by_cases h3:x.views=y.views
  . exact(Lm h3).trans (Hk.out (HE.out HC.out HW.out h3)).symm
  exact(Ln h3).trans (pl.out (fun h=>h3 (congrArg Exn.views h))).symm
 rw[hR.out];go_wp2_with fail
 all_goals
  go_ret;exact⟨rfl,zO HB.out _⟩
theorem eqX_any(A A':Bb)(cap cap':Nat)(vs us:List Exn)(w:Ba)(hA:XAt w w.heap.size A vs)(mf:XAt w w.heap.size A' us)(hl:vs.length<=17592186044416)(EA:us.length<=17592186044416)
  (hv:∀v∈vs,QG v) (hu:∀v∈us,QG v) :
  An Al 69 #[I A vs.length cap,I A' us.length cap',.func (.func 70) #[] #[]] w fun e w'=>e=Ak (Ah (decide (vs=us)))/\Am w.heap.size w w':=by
 have HV:=zH hv;have HU:=zH hu;have HA:=zH hA;have HA':=zH mf;clear hv hu hA mf
 by_cases aD:vs.length=us.length
 . have HL:=zH aD
   have iu:((vs.length:Int) != (us.length:Int))=As:=by simp[aD]
   clear aD;go_enter func69,ntmps69;go_wp2_with fail
   go_loopw [17] (fun i wr=>∃k:Nat,k<=vs.length/\i=O U k/\Ap (Am w.heap.size w wr)/\Ap (vs.take k=us.take k)) (fun i _=>vs.length-(Ao i).toNat)
   case atStart=>exact⟨0,by omega,rfl,Ll _ _,by show vs.take 0=us.take 0;simp⟩
   obtain⟨k,hk,rfl,hb,aT⟩:=hrel;have dQ:k<=us.length:=by have:=HL.out;omega
   by_cases aa:k<vs.length
   . have cp:k<us.length:=by have:=HL.out;omega
     obtain⟨b,off,A1,c1,A2,c2,eA,aH,x0,x1,x2,hW,hI⟩:=(HA.out.keep hb.out).row k aa;obtain⟨b',ie,B1,d1,B2,d2,eB,rZ,y0,y1,y2,nJ,Db⟩:=(HA'.out.keep hb.out).row k cp;subst eA;subst eB;obtain⟨x,hx⟩:=Kh (vs[k]);obtain⟨y,hy⟩:=Kh (us[k]);have dG:=HV.out _ (Ld aa);have ig:=HU.out _ (Ld cp);have aO:=zH (fun (h:x≠y)=>(Ln (qi aa cp (by rw[hx,hy];exact h)):decide (vs=us)=As));have fR:=zH (fun (h:x=y)=>yH aT.out aa cp (by rw[hx,hy];exact h));rw[hx] at x0 x1 x2 hW hI dG;rw[hy] at y0 y1 y2 nJ Db ig;have hsz:=hb.out.size;have cB:b<wr.heap.size:=by omega
     have Wg:b'<wr.heap.size:=by omega
     obtain⟨W2,dT,d0,TI,ef,bP⟩:=yr wr #[O U x.c,I A1 x.word.length c1,I A2 x.views.length c2] #[O U y.c,I B1 y.word.length d1,I B2 y.views.length d2] 49 49;have HC:=zH (Jj x y dG ig A1 A2 B1 B2 c1 c2 d1 d2 W2 (((hW.more hsz).keep bP).more bP.size) (((hI.more hsz).keep bP).more bP.size) (((nJ.more hsz).keep bP).more bP.size) (((Db.more hsz).keep bP).more bP.size));have aP:=zH (hb.out.trans (bP.mono hsz));have FK:=zH dT;obtain⟨p0,p1,p2,_⟩:=Kc d0;obtain⟨q0,q1,q2,_⟩:=Kc TI;clear hW hI nJ Db dG ig dT d0 TI bP hx hy aT;have cA:(0:Int)<=(k:Int):=by omega
     have bC:(k:Int)<(vs.length:Int):=by omega
     have eG:(k:Int)<(us.length:Int):=by omega
     go_wp2_with fail;rw[FK.out];go_wp2_with fail;refine HC.out.mono ?_;rintro e w3 ⟨rfl,am⟩;have bk:=zH (Lc aP.out am);clear am HC p0 p1 p2 q0 q1 q2 x0 x1 x2 y0 y1 y2
     by_cases hv:x=y
     . have hz:=zH (fR.out hv)
       rw[Lm hv];clear hv fR aO;go_wp2_with fail
       go_roundw
       case rel=>exact⟨k+1,by omega,by go_num,bk,hz⟩
       simp[Ao];omega
     have hz:=zH (aO.out hv);rw[Ln hv];go_wp2_with fail;go_ret;exact⟨ze hz.out.symm,bk.out⟩
   obtain rfl:k=vs.length:=by omega
   have hz:Ap (decide (vs=us)=Ar):=Lm (qn HL.out aT.out);go_wp2_with fail;go_ret;exact⟨ze hz.out.symm,hb.out⟩
 have hz:Ap (decide (vs=us)=As):=Ln (by rintro rfl;exact aD rfl);have iu:((vs.length:Int) != (us.length:Int))=Ar:=by simp;omega
 clear aD;go_enter func69,ntmps69;go_wp2_with fail;go_ret;exact⟨ze hz.out.symm,Ll _ _⟩
theorem Yv(a:Ad)(hf:FewA a)(hz:zB a a.sts=0)(h1:1<=a.sts.length)(K L:Nat)(hK:K<=6)(hL:L<=1048576)(SV:Bb)(ks:Nat)(w:Ba)(hS:SAt w w.heap.size SV a.sts) :
  An Al 133 #[Ai #[O U a.n,I SV a.sts.length ks],O U K,O U L] w fun e w'=>e=Ak (O U ((yy L (zU a K 0):Nat):Int))/\Am w.heap.size w w':=by
 have dZ:=hf.1;have mu:=zH (fun l hl=>hf.each (l:=l) hl);have HZ:=zH (@yY a hz);go_enter func133,ntmps133;go_wp2_with fail;obtain⟨w1,ac⟩:=Kh (w.alloc (Ag #[O U a.n,I SV a.sts.length ks] 27));have aM:=zj w (Ag #[O U a.n,I SV a.sts.length ks] 27);have al:Am w.heap.size w w1:=by rw[<-ac];exact zN w _
 have df:w1.heap.size=w.heap.size+1:=by rw[<-ac];simp
 rw[ac] at aM ⊢;have bE:=zH aM;have aZ:=zH al;have HS:=zH ((hS.keep al).more (by omega:w.heap.size<=w1.heap.size))
 go_loopw [7,8] (fun v i wr=>∃s:Nat,s<=a.sts.length/\i=O U (s:Int)/\Ap (Own wr w1.heap.size v (cl a L 0 s))/\Ap (Am w1.heap.size w1 wr)) (fun _ i _=>a.sts.length-(Ao i).toNat)
 case atStart=>exact⟨0,by omega,rfl,Own.nil _ _,Ll _ _⟩
 obtain⟨s,hs,rfl,HO,bh⟩:=hrel;have be:=La bh.out bE.out;have q1:=za be 1 rfl
 by_cases aa:s<a.sts.length
 case pos=>
  have fB:=kj a L 0 s;have HR:Ap (cl a L 0 (s+1)=cl a L 0 s++[1]):=by rw[Ap,Q5,show zU a 0 (s:Int)=1 from rfl,QL];rfl
  go_wp2_with (at_builtin;go_must (refine qu rfl _ _ rfl w1.heap.size u7 _ (1:Int) rfl HO.out rfl (by omega) bh.out.size ?_);intro v' w2 bG pS aH)
  go_roundw
  case rel=>exact⟨s+1,by omega,by go_num,by rw[HR.out];exact bG,bh.out.trans aH⟩
  simp[Ao];omega
 case neg=>
 obtain rfl:s=a.sts.length:=by omega
 go_wp2_with fail
 go_loopw [7,9] (fun v i wr=>∃k:Nat,k<=K/\i=O U (k:Int)/\Ap (Own wr w1.heap.size v (cl a L k a.sts.length))/\Ap (Am w1.heap.size w1 wr)) (fun _ i _=>K-(Ao i).toNat)
 case atStart=>exact⟨0,by omega,rfl,HO,bh⟩
 obtain⟨k,hk,rfl,HO,bh⟩:=hrel
 by_cases R8:k<K
 case neg=>
  obtain rfl:k=K:=by omega
  obtain⟨A,cap,hv,dQ,mL,hI⟩:=HO.out.form;subst hv;have fB:=kj a L k a.sts.length;obtain⟨b,o,rfl,dS,hc⟩:=hI (by omega);have c0:=hc 0 (by omega);rw[wY] at c0;rw[fB] at dQ;rw[show((0:Nat):Int)=0 from rfl,Pc] at c0;obtain⟨r,hr⟩:=Kh (yy L (zU a k 0));rw[hr] at c0;have HRr:=zH hr;go_wp2_with fail;go_ret;exact⟨zd (by rw[HRr.out]),aZ.out.trans (bh.out.mono (by omega))⟩
 case pos=>
 obtain⟨A,cap,hv,dQ,mL,hI⟩:=HO.out.form;subst hv;have fB:=kj a L k a.sts.length;obtain⟨b0,o0,e0,E3,hc⟩:=hI (by omega);subst e0;rw[fB] at dQ;obtain⟨W2,dT⟩:=Kh wr
 have Uy:Ap (∀X,Am W2.heap.size W2 X->∀j:Nat,j<a.sts.length->X.cell? ⟨b0,o0+j,Z⟩=J (O U ((yy L (zU a k (j:Int)):Nat):Int))):=fun X hX j hj=>by
  rw[<-dT] at hX;have:=hc j (by omega);rw[wY] at this;exact(hX.cell (p:=⟨b0,_,Z⟩) E3).trans this
 rw[dT] at HO bh E3 ⊢;have Gx:=bh.out.size;go_wp2_with fail;simp only[fB]
 go_loopw [10,11] (fun v i wx=>∃s:Nat,s<=a.sts.length/\i=O U (s:Int)/\Ap (Own wx W2.heap.size v (cl a L (k+1) s))/\Ap (Am W2.heap.size W2 wx)) (fun _ i _=>a.sts.length-(Ao i).toNat)
 case atStart=>exact⟨0,by omega,rfl,Own.nil _ _,Ll _ _⟩
 obtain⟨s,hs,rfl,HP,aV⟩:=hrel;have cB:=zH (bh.out.trans (aV.out.mono Gx));have be:=La cB.out bE.out;have q1:=za be 1 rfl
 by_cases mz:s<a.sts.length
 case neg=>
  obtain rfl:s=a.sts.length:=by omega
  go_wp2_with fail
  go_roundw
  case rel=>exact⟨k+1,by omega,by go_num,HP.out.low Gx,cB⟩
  simp[Ao];omega
 case pos=>
 obtain⟨b,o,A',k',e',dS,c1,hM⟩:=(HS.out.keep cB.out).at_ s mz;subst e';have dC:=mu.out _ (Ld mz);have Gw:=Jp a k mz;have F1:Ap (∀m∈a.sts[s],m∈a.mvs):=fun m hm=>Nq.2 ⟨_,Ld mz,hm⟩
 have nS:=zH hM;obtain⟨M,WE⟩:=Kh (a.sts[s]);rw[WE] at c1 dC F1 Gw nS;have nu:=zH Gw;have Ax:=kj a L (k+1) s;go_wp2_with fail
 go_loop [12,13] (fun n i=>∃j:Nat,j<=M.length/\i=O U (j:Int)/\n=O U ((yy L (qJ a k M j):Nat):Int)) (fun _ i=>M.length-(Ao i).toNat)
 case atStart=>exact⟨0,by omega,rfl,by rw[Xz,Yr];rfl⟩
 obtain⟨j,hj,rfl,rfl⟩:=hrel
 by_cases bQ:j<M.length
 case neg=>
  obtain rfl:j=M.length:=by omega
  have HR:Ap (cl a L (k+1) (s+1)=cl a L (k+1) s++[((yy L (qJ a k M M.length):Nat):Int)]):=by rw[Ap,Q5,nu.out]
  obtain⟨r,hr⟩:=Kh (yy L (qJ a k M M.length));rw[hr] at HR ⊢;go_wp2_with (at_builtin;go_must (refine qu rfl _ _ rfl W2.heap.size u10 _ (r:Int) rfl HP.out rfl (by omega) aV.out.size ?_);intro v' w3 bG pS aH)
  go_roundw
  case rel=>exact⟨s+1,by omega,by go_num,by rw[HR.out];exact bG,aV.out.trans aH⟩
  simp[Ao];omega
 case pos=>
 obtain⟨b2,o2,e2,bP,_,_,_,_,_,_,_,d7⟩:=nS.out.row j bQ;subst e2;obtain⟨_,_,z3,z4⟩:=HZ.out _ (F1.out _ (Ld bQ));have CL:=XA a k M bQ;obtain⟨t,et⟩:=Lr z3;rw[et] at d7 CL z4;have my:t<a.sts.length:=by omega
 have u0:=Uy.out _ aV.out t my;have y1:=vf L (qJ a k M j);have y2:=vf L (zU a k (t:Int));have y3:=QN L (qJ a k M j) (zU a k (t:Int));rw[<-CL] at y3;obtain⟨n1,en⟩:=Kh (yy L (qJ a k M j));obtain⟨n2,sZ⟩:=Kh (yy L (zU a k (t:Int)));rw[en] at y1 y3 ⊢;rw[sZ] at y2 y3 u0;have sr:=zH y3;go_wp2_with fail
 go_round
 case rel => 
  refine⟨j+1,by omega,by go_num,?_⟩;rw[<-sr.out];exact congrArg (O U) (by first | (split<;>omega) | omega)
 simp[Ao];omega
theorem hP(p:Pb)(hf:Ya p)(hz:zB p.a p.a.sts=0)(h1:1<=p.a.sts.length)(K L:Nat)(hk:p.k=(K:Int))(hK:K<=6)(hL:L<=1048576)(A:Bb)(kc:Nat)(SV:Bb)(ks:Nat)(w:Ba)(hS:SAt w w.heap.size SV p.a.sts) :
  An Al 91 #[.agg (p.vs A kc SV ks),O U L] w fun e w'=>e=Ak (O U ((p.t.cases.length*yy L (zU p.a K 0):Nat):Int))/\Am w.heap.size w w':=by
 have nh:=hf.1.1;have HN:=zH (fun (w':Ba) (h:SAt w' w'.heap.size SV p.a.sts)=>Yv p.a hf.2 hz h1 K L hK hL SV ks w' h);have rM:=vf L (zU p.a K 0);obtain⟨r,hr⟩:=Kh (yy L (zU p.a K 0));rw[hr] at HN rM ⊢;unfold Pb.vs;rw[hk];obtain⟨w1,ac⟩:=Kh (w.alloc (Ag (p.vs A kc SV ks) 29));have aM:=zj w (Ag (p.vs A kc SV ks) 29);have al:Am w.heap.size w w1:=by rw[<-ac];exact zN w _
 rw[ac] at aM;unfold Pb.vs at ac aM;rw[hk] at ac aM;have df:w1.heap.size=w.heap.size+1:=by rw[<-ac];simp
 have aZ:=zH al;have HS:=zH ((hS.keep al).more (by omega:w.heap.size<=w1.heap.size));have ah:=zH ac;have q3:=za aM 3 rfl;have q4:=za aM 4 rfl;have q5:=za aM 5 rfl;have q6:=za aM 6 rfl;obtain⟨cn,fl⟩:=Kh p.t.cases.length;rw[fl] at ah q3 nh ⊢;have hm:cn*r<=30*1048577:=L3 nh (by omega);have hw:IntKind.i64.wrap ((cn:Int)*(r:Int))=((cn*r:Nat):Int):=by rw[Lv,<-Int.natCast_mul];omega
 go_enter func91,ntmps91;go_wp2_with fail;rw[ah.out];have fy:w.heap.size<w1.heap.size:=by omega
 have eK:Ap (∀X,Am w1.heap.size w1 X->X.cell? ⟨w.heap.size,3,Z⟩=J (I A cn kc)/\X.cell? ⟨w.heap.size,4,Z⟩=J (O U p.a.n)/\X.cell? ⟨w.heap.size,5,Z⟩=J (I SV p.a.sts.length ks)/\X.cell? ⟨w.heap.size,6,Z⟩=J (O U K)):=fun X hX=>
  ⟨(hX.cell (p:=⟨_,_,Z⟩) fy).trans q3,(hX.cell (p:=⟨_,_,Z⟩) fy).trans q4,(hX.cell (p:=⟨_,_,Z⟩) fy).trans q5,(hX.cell (p:=⟨_,_,Z⟩) fy).trans q6⟩
 have mn:Ap (∀X,Am w1.heap.size w1 X->SAt X X.heap.size SV p.a.sts):=fun X hX=>(HS.out.keep hX).more hX.size
 go_region_held3 (fun w'=>w'.cell? ⟨w.heap.size,3,Z⟩=J (I A cn kc)/\w'.cell? ⟨w.heap.size,4,Z⟩=J (O U p.a.n)/\w'.cell? ⟨w.heap.size,5,Z⟩=J (I SV p.a.sts.length ks)/\w'.cell? ⟨w.heap.size,6,Z⟩=J (O U K))
  (first | exact⟨q3,q4,q5,q6⟩ | exact eK.out _ (Xm am) | exact eK.out _ am)
  ((go_at_call 133;refine(HN.out _ (mn.out _ (by repeat (first | exact Ll _ _ | refine Below.drew ?_ | refine zO ?_ _)))).mono ?_;rintro e w3 ⟨rfl,am⟩))
 have mT:=zH (aZ.out.trans ((Xm am).mono (by have:w1.drew.heap.size=w1.heap.size:=rfl;omega)));go_wp2_with fail;go_ret;exact⟨zd (by first | rfl | rw[hw]),mT.out⟩
def gE(p:Pb):Nat:=p.t.cases.length*yy 4096 (zU p.a p.k.toNat 0)
def wV(a:Ad):Bool:=decide (a.sts.length<=8)&&decide (a.mvs.length<=40)
def xA(p:Pb):Bool:=kL p.t&&wV p.a&&!(decide (3<p.t.n)&&decide (p.t.n<=5))&&(decide (zL p≠0)||(decide (gE p<=60)||decide (4096<gE p)))
theorem fewPB_t{p:Pb}(h:kL p.t=As):xA p=As:=by unfold xA;rw[h];rfl
theorem fewPB_a{p:Pb}(h:wV p.a=As):xA p=As:=by unfold xA;rw[h];simp
theorem fewPB_n{p:Pb}(h:3<p.t.n)(h2:p.t.n<=5):xA p=As:=by unfold xA;rw[Lm h,Lm h2];simp
theorem fewPB_e{p:Pb}(h:kL p.t=Ar)(h1:wV p.a=Ar)(h2:¬(3<p.t.n/\p.t.n<=5))(h3:zL p≠0):xA p=Ar:=by
 unfold xA;have e:(decide (3<p.t.n)&&decide (p.t.n<=5))=As:=by simpa[Bool.and_eq_false_imp] using fun x=>by omega
 rw[h,h1,e,Lm h3];rfl
theorem fewPB_m{p:Pb}(h:kL p.t=Ar)(h1:wV p.a=Ar)(h2:¬(3<p.t.n/\p.t.n<=5))(h3:zL p=0):xA p=(decide (gE p<=60)||decide (4096<gE p)):=by
 unfold xA;have e:(decide (3<p.t.n)&&decide (p.t.n<=5))=As:=by simpa[Bool.and_eq_false_imp] using fun x=>by omega
 rw[h,h1,e,h3];simp
theorem Zo{a:Ad}:wV a=Ar↔FewA a:=by unfold wV FewA;simp
theorem num_exec{p:Pb}(h:zL p=0):(gE p<=60\/4096<gE p)->(zT p<=60\/4096<zT p):=by
 obtain⟨dI,_⟩:=zM h;obtain⟨h1,_⟩:=yv dI;intro hn;have e:zT p=p.t.cases.length*zU p.a p.k.toNat 0:=by unfold zT;rw[Pa]
 have hm:=QM 4096 p.t.cases.length (zU p.a p.k.toNat 0) h1;rw[e];rcases hn with hn | hn
 . left
   unfold gE at hn;have dQ:yy 4096 (zU p.a p.k.toNat 0)<=60:=LE (Nat.le_mul_of_pos_left _ h1) hn;have hx:zU p.a p.k.toNat 0<=4096:=by unfold yy at dQ;omega
   rwa[sat_eq hx] at hn
 right;exact hm.1 hn
theorem few_x{p:Pb}(h:xA p=Ar):xN p/\¬(3<p.t.n/\p.t.n<=5):=by
 unfold xA at h;simp only[Bool.and_eq_true,Bool.not_eq_true',Bool.or_eq_true,decide_eq_true_eq] at h;obtain⟨⟨⟨h1,h2⟩,h3⟩,h4⟩:=h;refine⟨⟨⟨Xd.1 h1,Zo.1 h2⟩,fun h0=>?_⟩,fun hn=>?_⟩
 . rcases h4 with h4 | h4
   . exact absurd h0 h4
   exact num_exec h0 h4
 rw[Lm hn.1,Lm hn.2] at h3
 cases h3
theorem few_any(p:Pb)(hl:gu p)(A:Bb)(kc:Nat)(SV:Bb)(ks:Nat)(w:Ba)(hA:CAt w w.heap.size A p.t.cases)(hS:SAt w w.heap.size SV p.a.sts) :
  An Al 48 #[.agg (p.vs A kc SV ks)] w fun e w'=>e=Ak (Ah (xA p))/\Am w.heap.size w w':=by
 have HT:=zH (fun (w':Ba) (h:CAt w' w'.heap.size A p.t.cases)=>JD p.t A kc hl.1.1 hl.1.2 w' h);have HD:=zH (fun (w':Ba) (h:SAt w' w'.heap.size SV p.a.sts)=>JE p.a SV ks hl.2.1 hl.2.2 w' h);have HC:=zH (fun (hf:Ya p) (w':Ba) (h1:CAt w' w'.heap.size A p.t.cases) (h2:SAt w' w'.heap.size SV p.a.sts)=>vW p hf A kc SV ks w' h1 h2);have aq:=zH (@fewPB_t p);have ai:=zH (@fewPB_a p);have au:=zH (@fewPB_n p);have cJ:=zH (@fewPB_e p);have fL:=zH (@fewPB_m p);obtain⟨R,Da⟩:=Kh (xA p);rw[Da] at aq ai au cJ fL ⊢;obtain⟨w1,ac⟩:=Kh (w.alloc (Ag (p.vs A kc SV ks) 29));have aM:=zj w (Ag (p.vs A kc SV ks) 29);have al:Am w.heap.size w w1:=by rw[<-ac];exact zN w _
 have df:w1.heap.size=w.heap.size+1:=by rw[<-ac];simp
 rw[ac] at aM
 have HN:=zH (fun (w':Ba) (hf:Ya p) (h0:zL p=0) (h:SAt w' w'.heap.size SV p.a.sts)=>
  hP p hf (yG hf.2 (zM h0).2.1).1 (yG hf.2 (zM h0).2.1).2.1 p.k.toNat 4096 (by have:=(zM h0).2.2.2.1;omega) (by have:=(zM h0).2.2.2.2;omega) (by decide) A kc SV ks w' h)
 unfold Pb.vs at ac aM ⊢;have bE:=zH aM;have aZ:=zH al;have HA:=zH ((hA.keep al).more (by omega:w.heap.size<=w1.heap.size));have HS:=zH ((hS.keep al).more (by omega:w.heap.size<=w1.heap.size));have ah:=zH ac;obtain⟨q0,q1,q2,q3,_⟩:=Kb aM;clear hA hS ac al aM hl Da;obtain⟨bT,K7⟩:=Kh (kL p.t);obtain⟨bA,GQ⟩:=Kh (wV p.a);have Dz:Ap ((decide (p.a.sts.length<=8)&&decide (p.a.mvs.length<=40))=bA):=GQ;rw[K7] at HT aq cJ fL;rw[GQ] at ai cJ fL;have sw:=zH K7;have Cb:=zH GQ;clear K7 GQ;go_enter func48,ntmps48;go_wp2_with fail;rw[ah.out];go_wp2_with fail;refine(HT.out w1 HA.out).mono ?_;rintro e w2 ⟨rfl,af⟩;have B2:=zH (aZ.out.trans (af.mono (by omega)));have cI:=zH ((HS.out.keep af).more af.size);have CC:=zH ((HA.out.keep af).more af.size);have be:=La af bE.out;have aP:=zH be;have ef:=af.size;have q4:=za be 4 rfl;have q5:=za be 5 rfl;clear af be HT ah q0 q1 q2 q3
 cases bT with
 | false=>
  have hR:=zH (aq.out rfl);clear aq ai au cJ fL HD;go_wp2_with fail;go_ret;exact⟨ze hR.out.symm,B2.out⟩
 | true=>
 clear aq;go_wp2_with fail;refine(HD.out w2 cI.out).mono ?_;rw[Dz.out];rintro e w3 ⟨rfl,am⟩;have B3:=zH (B2.out.trans (am.mono (by omega)));have mP:=zH ((cI.out.keep am).more am.size);have sM:=zH ((CC.out.keep am).more am.size);have be:=La am aP.out;have bk:=zH be;have ij:=am.size;obtain⟨q0,q1,q2,q3,q4,q5,q6,_⟩:=Kf be;clear am be HD
 cases bA with
 | false=>
  have hR:=zH (ai.out rfl);clear ai au cJ fL;go_wp2_with fail;go_ret;exact⟨ze hR.out.symm,B3.out⟩
 | true=>
 clear ai;have Uq:Ap (Ya p):=⟨Xd.1 sw.out,Zo.1 Cb.out⟩;have F4:=zH (cJ.out (by simp) (by simp));have F5:=zH (fL.out (by simp) (by simp));clear cJ fL sw Cb Dz
 by_cases h3:3<p.t.n/\p.t.n<=5
 case pos=>
  have hR:=zH (au.out h3.1 h3.2);obtain⟨Tw,BM⟩:=h3;clear au F4 F5;go_wp2_with fail
  all_goals first | (exfalso;omega) | skip
  all_goals
   go_ret;exact⟨ze hR.out.symm,B3.out⟩
 case neg=>
 have G4:=zH (F4.out h3);have G5:=zH (F5.out h3);clear au F4 F5;obtain⟨E,hE⟩:=Kh (zL p);rw[hE] at HC G4 G5;have rm:=zH hE;clear hE;obtain⟨M,hM⟩:=Kh (p.t.cases.length*yy 4096 (zU p.a p.k.toNat 0));have nS:Ap (gE p=M):=hM;rw[hM] at HN;clear hM;have WY:¬(3<p.t.n)\/(3<p.t.n/\¬p.t.n<=5):=by omega
 clear h3;rcases WY with Tw | ⟨Tw,BM⟩
 all_goals
  go_wp2_with fail
  all_goals first | (exfalso;omega) | skip
  refine(HC.out Uq.out w3 sM.out mP.out).mono ?_;rintro e w4 ⟨rfl,bq⟩;have B4:=zH (B3.out.trans (bq.mono (by omega)));have su:=zH ((mP.out.keep bq).more bq.size);have be:=La bq bk.out;have mC:=bq.size;obtain⟨q0,q1,q2,q3,q4,q5,q6,_⟩:=Kf be;clear bq be HC
  by_cases h0:E=0
  case neg=>
   have hR:=zH (G4.out h0);have e0:(E != 0)=Ar:=by simpa using h0
   clear G4 G5 h0 HN;go_wp2_with fail;go_ret;exact⟨ze hR.out.symm,B4.out⟩
  case pos=>
   subst h0;have hR:=zH (G5.out rfl);rw[nS.out] at hR;clear G4 G5;go_wp2_with fail;refine(HN.out w4 Uq.out rm.out su.out).mono ?_;rintro e w5 ⟨rfl,ap⟩;have B5:=zH (B4.out.trans (ap.mono (by omega)));clear ap HN nS q0 q1 q2 q3 q4 q5 q6
   by_cases hm:M<=60
   . have nj:Ap (R=Ar):=hR.out.trans (by rw[Lm hm];rfl)
     clear hR;go_wp2_with fail
     all_goals first | (exfalso;omega) | skip
     go_ret;exact⟨ze nj.out.symm,B5.out⟩
   . have nj:Ap (R=decide (4096<M)):=hR.out.trans (by rw[Ln hm];rfl)
     clear hR;go_wp2_with fail
     all_goals first | (exfalso;omega) | skip
     go_ret;exact⟨ze (by rw[nj.out,Ln (show ¬((M:Int)<=60) by omega),Rk];exact Z3 (by omega)),B5.out⟩
def yb(s:Sy):Int:=if (zP s.p).2≠0 then (zP s.p).2 else if s=(zP s.p).1 then 0 else 3
theorem ZE(p:Pb)(h:zL p=0)(dt:zT p<=60):(zx p (zu p)).1.length<=2100/\(zx p (zu p)).2.length<=60:=by
 obtain⟨dI,_,_,cA,rW⟩:=zM h;obtain⟨h1,en,pL⟩:=yv dI
 have hl:p.t.cases.length*(zC p.a p.k.toNat 0).length<=60:=by
  rw[yj];unfold zT at dt;rw[Pa];exact dt
 rw[ZO p];refine⟨uT p _ (by omega) (fun w hw=>?_) _ hl,?_⟩
 . rw[yK p.a _ 0 w hw];omega
 rw[xm,uy];exact hl
theorem runW_mem(p:Pb)(l:List (Nat×List Rd)):∀x∈(zx p l).2,∃y∈l,∃vs,x=⟨y.1,y.2,(zr vs p.t.n.toNat (yc p y.1) y.2 y.2.length).2⟩:=by
 have key:∀n,n<=l.length->∀x∈(zx p (l.take n)).2,∃y∈l,∃vs,x=⟨y.1,y.2,(zr vs p.t.n.toNat (yc p y.1) y.2 y.2.length).2⟩:=by
  intro n
  induction n with
  | zero=>intro _ x hx;simp[kC] at hx
  | succ n ih=>
   intro hl x hx;rw[Ls (by omega),xH] at hx;rcases L8.1 hx with hx | hx
   . exact ih (by omega) x hx
   . rw[Nb] at hx
     exact⟨l[n],Ld _,_,hx⟩
 have:=key l.length (Lh _);rwa[LC] at this
theorem Yb:LowS xC:=⟨⟨⟨by decide,fun c h=>by simp[xC] at h⟩,by decide,fun c h=>by simp[xC] at h⟩,by decide,by decide,fun c h=>by simp[xC] at h⟩
theorem qU{p:Pb}(hp:gu p)(hf:xN p):LowS (zP p).1:=by
 by_cases h0:zL p=0
 case neg=>rw[yF h0];exact Yb
 case pos=>
 rcases hf.2 h0 with dt | dt
 case inr=>rw[yO h0 dt];exact Yb
 case inl=>
 rw[xM h0 (by omega)];obtain⟨r1,r2⟩:=ZE p h0 dt;obtain⟨dI,_,_,cA,rW⟩:=zM h0;obtain⟨h1,en,pL⟩:=yv dI;refine⟨hp,by show(zx p (zu p)).1.length<=_;omega,by show(zx p (zu p)).2.length<=_;omega,fun x hx=>?_⟩;obtain⟨y,hy,vs,rfl⟩:=runW_mem p (zu p) x hx
 have ig:y.2.length<=6:=by
  unfold zu at hy;obtain⟨d,_,hy⟩:=Ny.1 hy;obtain⟨w',fi,rfl⟩:=LO.1 hy;show w'.length<=6;rw[yK p.a _ 0 w' fi];omega
 refine⟨by show y.2.length<=_;omega,?_,fun v hv=>?_⟩
 . show(zr vs p.t.n.toNat (yc p y.1) y.2 y.2.length).2.length<=_
   rw[yg];omega
 rw[qh _ _ _ _ _ v hv];omega
theorem uv(s:Sy)(hs:LowS s)(hf:xN s.p)(A SV AV AX:Bb)(kc ks kv kx:Nat)(w:Ba)(hS:SyAt w w.heap.size A SV AV AX s) :
  An Al 27 #[.agg (s.vs_ A kc SV ks AV kv AX kx)] w fun e w'=>e=Ak (O U (yb s))/\Am w.heap.size w w':=by
 obtain⟨w1,ac⟩:=Kh (w.alloc (Ag (s.vs_ A kc SV ks AV kv AX kx) 39));have aM:=zj w (Ag (s.vs_ A kc SV ks AV kv AX kx) 39);have al:Am w.heap.size w w1:=by rw[<-ac];exact zN w _
 have df:w1.heap.size=w.heap.size+1:=by rw[<-ac];simp
 rw[ac] at aM;have d':=zH (hS.up al);have HB:=zH (Zw s.p hf A kc SV ks w1 (hS.up al).fc (hS.up al).fs);have po:=zH (qU hs.fp hf);have rr:=zH hs;have mm:Ap (yb s=if (zP s.p).2≠0 then (zP s.p).2 else if s=(zP s.p).1 then 0 else 3):=rfl
 have bL:=zH (fun (h:(zP s.p).2=0)=>(by
  by_cases h0:zL s.p=0
  case neg=>rw[yF h0] at h;exact absurd h h0
  case pos=>
   by_cases h1:4096<zT s.p
   . rw[yO h0 h1] at h;cases h
   . rw[xM h0 (by omega)];exact⟨rfl,rfl⟩:(zP s.p).1.p=s.p/\(zP s.p).1.n=s.p.t.n))
 unfold Sy.vs_ at ac aM ⊢;unfold Pb.vs at HB;have ah:=zH ac;have bE:=zH aM;have aZ:=zH al;have p6:=za aM 6 rfl;obtain⟨R,hR⟩:=Kh (zP s.p);rw[hR] at HB po mm bL;obtain⟨r,hr⟩:=Kh (yb s);rw[hr] at mm ⊢;clear ac aM al hS hs hf hR hr;go_enter func27,ntmps27;go_wp2_with fail;rw[ah.out];go_wp2_with fail;refine HB.out.mono ?_;rintro e w2 ⟨A2,dX,dz,dW,sP,rG,sO,rF,rfl,Bw,DQ,DP,af⟩;obtain⟨T,E⟩:=R;obtain⟨W3,dE,b3,ij,cW⟩:=zh w2 (T.vs_ A2 dX dz dW sP rG sO rF) 39;have mP:=zH (Bw.up cW);have bk:=zH (aZ.out.trans ((Lc af cW).mono (by omega)));have ef:=af.size;have d0:=Lb cW (by omega:w.heap.size<w2.heap.size) (Lb af (by omega:w.heap.size<w1.heap.size) bE.out);have sv:=zH ((d'.out.up af).up cW);unfold Sy.vs_ at dE b3 ⊢;have nP:=zH dE;have bD:=zH d0;have Cv:=zH b3;clear af Bw DQ DP cW dE HB ah p6 d' bE;dsimp only at mm bL po mP;go_simp;rename_i iO;refine iO _ _ ?_;clear iO;refine LU rfl fun K5 bU=>?_
 go_simp;refine bU _ _ ?_;clear bU K5;refine LU rfl fun K5 bU=>?_
 go_simp;refine bU _ _ ?_;clear bU K5;refine LU rfl fun K5 bU=>?_
 go_simp;refine bU _ _ ?_;clear bU K5;refine LU rfl fun K5 bU=>?_
 go_simp;refine bU _ _ ?_;clear bU K5;refine LU rfl fun K5 bU=>?_
 go_simp;rw[nP.out];refine bU _ _ ?_
 by_cases h0:E=0
 case neg=>
  have e0:(E != 0)=Ar:=by simpa using h0
  have hR:Ap (r=E):=mm.out.trans (Lo h0);clear mm bL h0 d0 b3;go_wp2_with fail;go_ret;exact⟨zd hR.out.symm,bk.out⟩
 case pos=>
 subst h0;obtain⟨Fg,tl⟩:=bL.out rfl;have pX:r=if s=T then 0 else 3:=mm.out.trans (Li (by simp));have H3:Ap (s≠T->r=3):=fun h=>pX.trans (Li h)
 have H0:Ap (s=T->r=0):=fun h=>pX.trans (Lo h)
 have M7:=zH Fg;have tK:=zH (@sy_eq s T);have x7:W3.cell? ⟨w.heap.size,7,Z⟩=J (O U s.n):=za d0 7 rfl;have x8:W3.cell? ⟨w.heap.size,8,Z⟩=J (I AV s.vs.length kv):=za d0 8 rfl;have y7:W3.cell? ⟨w2.heap.size,7,Z⟩=J (O U T.n):=za b3 7 rfl;have y8:W3.cell? ⟨w2.heap.size,8,Z⟩=J (I sP T.vs.length rG):=za b3 8 rfl;have tz:=zH (eqV_any AV sP kv rG s.vs T.vs W3 W3.heap.size (Lh _) sv.out.fv mP.out.fv rr.out.fv po.out.fv);have nO:=zH (fun n=>eqX_any AX sO kx rF s.xs T.xs (W3.drewN n) sv.out.fx mP.out.fx (LE rr.out.fx (by decide)) (LE po.out.fx (by decide)) rr.out.fe po.out.fe);clear Fg tl pX mm bL d0 b3 po rr
 by_cases h1:s.n=T.n
 case neg=>
  have hR:=zH (H3.out (fun h=>h1 (congrArg Sy.n h)));have e0:(s.n != T.n)=Ar:=by simpa using h1
  clear H3 H0 h1 tz nO tK;go_wp2_with fail
  all_goals
   go_ret;exact⟨zd hR.out.symm,bk.out⟩
 case pos=>
 have e0:(s.n != T.n)=As:=by simpa using h1
 have rq:=zH h1;go_wp2_with fail;refine tz.out.mono ?_;rintro e w4 ⟨rfl,n,rfl⟩;have x9:(W3.drewN n).cell? ⟨w.heap.size,9,Z⟩=J (I AX s.xs.length kx):=za bD.out 9 rfl;have y9:(W3.drewN n).cell? ⟨w2.heap.size,9,Z⟩=J (I sO T.xs.length rF):=za Cv.out 9 rfl
 by_cases h2:s.vs=T.vs
 case neg=>
  have hR:=zH (H3.out (fun h=>h2 (congrArg Sy.vs h)));rw[Ln h2];go_wp2_with fail
  all_goals
   go_ret;exact⟨zd hR.out.symm,zO bk.out n⟩
 case pos=>
 rw[Lm h2];have FL:=zH h2;go_wp2_with fail;refine(nO.out n).mono ?_;rintro e w5 ⟨rfl,ap⟩;have B5:=zH (bk.out.trans ((zO (Ll W3.heap.size W3) n).trans ap |>.mono (by omega)))
 by_cases h3:s.xs=T.xs
 case neg=>
  have hR:=zH (H3.out (fun h=>h3 (congrArg Sy.xs h)));rw[Ln h3];go_wp2_with fail
  all_goals
   go_ret;exact⟨zd hR.out.symm,B5.out⟩
 have hR:=zH (H0.out (tK.out M7.out.symm ⟨rq.out,FL.out⟩ h3));rw[Lm h3];go_wp2_with fail
 all_goals
  go_ret;exact⟨zd hR.out.symm,B5.out⟩
end
section
def At(vs:List Vw)(i:Int)(v:Vw):Prop:=0<=i/\vs[i.toNat]?=J v
theorem At.mono{vs us:List Vw}{i:Int}{v:Vw}(h:At vs i v):At (vs++us) i v:=
 ⟨h.1,by rw[LN (Lp.1 h.2).1];exact h.2⟩
theorem At.lt{vs:List Vw}{i:Int}{v:Vw}(h:At vs i v):0<=i/\i<vs.length:=⟨h.1,by have:=(Lp.1 h.2).1;have:=h.1;omega⟩
theorem YH(vs:List Vw)(v:Vw):∃us,(xn vs v).1=vs++us:=by
 unfold xn
 split
 . exact⟨[],by simp⟩
 exact⟨[v],rfl⟩
theorem putW_at(vs:List Vw)(v:Vw):At (xn vs v).1 (xn vs v).2 v:=by
 unfold xn
 split
 . rename_i h
   unfold qr;rw[Lo h];refine⟨by omega,?_⟩;have h1:=PE h;show vs[((vs.idxOf v:Nat):Int).toNat]?=_;rw[Lj,Lf h1,Rp]
 refine⟨by omega,?_⟩;show(vs++[v])[((vs.length:Nat):Int).toNat]?=_;rw[Lj];simp
theorem putW_mem(vs:List Vw)(v:Vw):∀u∈(xn vs v).1,u∈vs\/u=v:=by
 unfold xn
 split
 . exact fun u h=>.inl h
 intro u h;rcases L8.1 h with h | h
 . exact .inl h
 exact .inr (Nb.1 h)
theorem XQ{vs:List Vw}(v:Vw)(h:vs.Nodup):(xn vs v).1.Nodup:=by
 unfold xn
 split
 . exact h
 rename_i hn;exact List.nodup_append.2 ⟨h,by simp,fun a ha b hb=>by rw[Nb] at hb;subst hb;exact fun e=>hn (e▸ha)⟩
theorem jV(f:Nat->Vw)(vs:List Vw):∀p,∃us,(zY f vs p).1=vs++us
 | 0=>⟨[],by simp[zY]⟩
 | p+1=>by
  obtain⟨u1,h1⟩:=jV f vs p;obtain⟨u2,h2⟩:=YH (zY f vs p).1 (f p);exact⟨u1++u2,by rw[zY];dsimp only;rw[h2,h1,L7]⟩
theorem QO(f:Nat->Vw)(vs:List Vw):∀n p,p<n->At (zY f vs n).1 ((zY f vs n).2.getD p 0) (f p)
 | n+1,p,h=>by
  rw[zY];dsimp only;have hl:=yW f vs n
  by_cases hp:p<n
  . rw[Le,LN (by omega),<-Le]
    obtain⟨u2,h2⟩:=YH (zY f vs n).1 (f n);rw[h2];exact(QO f vs n p hp).mono
  . obtain rfl:p=n:=by omega
    rw[Le,LK (by omega),hl,NA];exact putW_at _ _
theorem uX(f:Nat->Vw)(vs:List Vw):∀n,∀u∈(zY f vs n).1,u∈vs\/∃p,p<n/\u=f p
 | 0,u,h=>.inl h
 | n+1,u,h=>by
  rw[zY] at h;rcases putW_mem _ _ u h with h | h
  . rcases uX f vs n u h with h | ⟨p,hp,e⟩
    . exact .inl h
    . exact .inr ⟨p,by omega,e⟩
  . exact .inr ⟨n,by omega,h⟩
theorem jy(f:Nat->Vw){vs:List Vw}(h:vs.Nodup):∀n,(zY f vs n).1.Nodup
 | 0=>h
 | n+1=>by rw[zY];exact XQ _ (jy f h n)
def uZ(vs:List Vw)(n:Nat)(inp:List Int)(word:List Rd)(k:Nat):List Int:=(zr vs n inp word k).2.getD k []
def fV(vs:List Vw)(n:Nat)(inp:List Int)(word:List Rd):Nat->Nat->Vw
 | 0,p=>yi p (inp.getD p 0)
 | k+1,p=>xk (word.getD k default) (k+1) p (uZ vs n inp word k)
section
variable (vs:List Vw) (n:Nat) (inp:List Int) (word:List Rd)
theorem vo:∀j,(∃us,(zr vs n inp word j).1=vs++us)/\∀k,k<=j->∃us,(zr vs n inp word j).1=(zr vs n inp word k).1++us
 | 0=>⟨by rw[zr];exact jV _ vs n,fun k hk=>⟨[],by obtain rfl:k=0:=(by omega);simp⟩⟩
 | j+1=>by
  obtain⟨⟨u1,h1⟩,h2⟩:=vo j;obtain⟨u3,h3⟩:=jV (fun p=>xk (word.getD j default) (j+1) p ((zr vs n inp word j).2.getD j [])) (zr vs n inp word j).1 n;have e:(zr vs n inp word (j+1)).1=(zr vs n inp word j).1++u3:=by rw[zr];exact h3
  refine⟨⟨u1++u3,by rw[e,h1,L7]⟩,fun k hk=>?_⟩
  by_cases CS:k<=j
  . obtain⟨u4,h4⟩:=h2 k CS
    exact⟨u4++u3,by rw[e,h4,L7]⟩
  . obtain rfl:k=j+1:=by omega
    exact⟨[],by simp⟩
theorem kg:∀j k,k<=j->(zr vs n inp word j).2.getD k []=uZ vs n inp word k
 | 0,k,h=>by obtain rfl:k=0:=(by omega);rfl
 | j+1,k,h=>by
  by_cases CS:k<=j
  . rw[<-kg j k CS,zr,Le,LN (by rw[yg];omega),<-Le]
  . obtain rfl:k=j+1:=by omega
    rfl
theorem kD(k:Nat):(uZ vs n inp word k).length=n:=by
 have h:k<(zr vs n inp word k).2.length:=by rw[yg];omega
 unfold uZ;rw[Le,Lf h];exact qh vs n inp word k _ (Ld h)
theorem rowK_eq:∀k,∃us,(zr vs n inp word k).1=(zY (fV vs n inp word k) us n).1/\uZ vs n inp word k=(zY (fV vs n inp word k) us n).2
 | 0=>⟨vs,rfl,rfl⟩
 | k+1=>⟨(zr vs n inp word k).1,rfl,by
   unfold uZ;rw[zr,Le,LK (by rw[yg];omega),yg,NA]
   rfl⟩
theorem ux(j k p:Nat)(hk:k<=j)(hp:p<n):At (zr vs n inp word j).1 ((uZ vs n inp word k).getD p 0) (fV vs n inp word k p):=by
 obtain⟨us,e1,e2⟩:=rowK_eq vs n inp word k;obtain⟨u4,h4⟩:=(vo vs n inp word j).2 k hk;rw[h4,e2,e1];exact(QO _ us n p hp).mono
theorem YK:∀j,∀u∈(zr vs n inp word j).1,u∈vs\/∃k p,k<=j/\p<n/\u=fV vs n inp word k p
 | 0,u,h=>by
  rw[zr] at h;rcases uX _ vs n u h with h | ⟨p,hp,e⟩
  . exact .inl h
  . exact .inr ⟨0,p,Lh _,hp,e⟩
 | j+1,u,h=>by
  rw[zr] at h;rcases uX _ _ n u h with h | ⟨p,hp,e⟩
  . rcases YK j u h with h | ⟨k,p,hk,hp,e⟩
    . exact .inl h
    . exact .inr ⟨k,p,by omega,hp,e⟩
  . exact .inr ⟨j+1,p,Lh _,hp,e⟩
theorem ws(h:vs.Nodup):∀j,(zr vs n inp word j).1.Nodup
 | 0=>by rw[zr];exact jy _ h n
 | j+1=>by rw[zr];exact jy _ (ws h j) n
end
structure XFin(p:Pb)(CH:List Vw)(c:Nat)(word:List Rd)(x:Exn)(vs:List Vw):Prop where
 hc:x.c=(c:Int)
 hw:x.word=word
 hv:x.views=(zr vs p.t.n.toNat (yc p c) word word.length).2
 ht:∃us,CH=(zr vs p.t.n.toNat (yc p c) word word.length).1++us
theorem Ys(p:Pb)(l:List (Nat×List Rd)) :
  (∀i (h:i<l.length),∃x vs,(zx p l).2[i]?=J x/\XFin p (zx p l).1 l[i].1 l[i].2 x vs)/\(∀u∈(zx p l).1,∃y∈l,∃vs k q,k<=y.2.length/\q<p.t.n.toNat/\u=fV vs p.t.n.toNat (yc p y.1) y.2 k q/\∃us,(zx p l).1=(zr vs p.t.n.toNat (yc p y.1) y.2 y.2.length).1++us)/\(zx p l).1.Nodup:=by
 have key:∀n,n<=l.length ->
   (∀i (h:i<n) (hl:i<l.length),∃x vs,(zx p (l.take n)).2[i]?=J x/\XFin p (zx p (l.take n)).1 l[i].1 l[i].2 x vs)/\(∀u∈(zx p (l.take n)).1,∃y∈l,∃vs k q,k<=y.2.length/\q<p.t.n.toNat/\u=fV vs p.t.n.toNat (yc p y.1) y.2 k q/\∃us,(zx p (l.take n)).1=(zr vs p.t.n.toNat (yc p y.1) y.2 y.2.length).1++us)/\(zx p (l.take n)).1.Nodup:=by
  intro n
  induction n with
  | zero=>intro _;exact⟨fun i h=>absurd h (by omega),fun u h=>by simp[kC] at h,by simp[kC]⟩
  | succ n ih=>
   intro hn;obtain⟨h1,h2,h3⟩:=ih (by omega);have eh:n<l.length:=by omega
   have e:zx p (l.take (n+1))=((zr (zx p (l.take n)).1 p.t.n.toNat (yc p l[n].1) l[n].2 l[n].2.length).1,(zx p (l.take n)).2++[⟨l[n].1,l[n].2,(zr (zx p (l.take n)).1 p.t.n.toNat (yc p l[n].1) l[n].2 l[n].2.length).2⟩]):=by
    rw[Ls eh,xH]
   obtain⟨⟨u0,Pt⟩,_⟩:=vo (zx p (l.take n)).1 p.t.n.toNat (yc p l[n].1) l[n].2 l[n].2.length;have an:(zx p (l.take n)).2.length=n:=by rw[xm,NS];omega
   rw[e];dsimp only;refine⟨fun i hi hl=>?_,fun u hu=>?_,ws _ _ _ _ h3 _⟩
   . by_cases dK:i<n
     . obtain⟨x,vs,hx,⟨a,b,c,⟨us,lm⟩⟩⟩:=h1 i dK hl
       refine⟨x,vs,by rw[LN (by omega)];exact hx,a,b,c,us++u0,?_⟩;rw[Pt,lm,L7]
     . obtain rfl:i=n:=by omega
       refine⟨_,(zx p (l.take i)).1,by rw[LK (by omega),an,NA];rfl,rfl,rfl,rfl,[],by simp⟩
   . rcases YK _ _ _ _ _ u hu with h | ⟨k,q,hk,hq,eu⟩
     . obtain⟨y,hy,vs,k,q,a,b,c,us,lm⟩:=h2 u h
       exact⟨y,hy,vs,k,q,a,b,c,us++u0,by rw[Pt,lm,L7]⟩
     . exact⟨l[n],Ld _,(zx p (l.take n)).1,k,q,hk,hq,eu,[],by simp⟩
 have h:=key l.length (Lh _);rw[LC] at h;exact⟨fun i hi=>h.1 i hi hi,h.2⟩
theorem own_bit{r:Rd}(h:yn r=0)(p:Nat)(hp:(p:Int)<r.n):(r.h p).toNat.testBit p=Ar:=by
 unfold yn at h
 split at h
 . cases h
 rename_i hn
 have key:∀k,k<=5->yh r (5-k) k=0->∀q,k<=q->q<5->yT r.n q (r.h q)=0:=by
  intro k hk
  induction hm:5-k generalizing k with
  | zero=>intro _ q h1 h2;omega
  | succ m ih=>
   intro hz q h1 h2;unfold yh at hz
   split at hz
   . rename_i aO;exact absurd hz aO
   . rename_i aO
     by_cases e:q=k
     . subst e;simpa using aO
     . exact ih (k+1) (by omega) (by omega) hz q (by omega) h2
 have h1:=key 0 (by omega) h p (by omega) (by omega);unfold yT at h1;rw[Li (by omega)] at h1
 split at h1
 . cases h1
 split at h1
 . assumption
 cases h1
theorem kS(r:Rd)(k p:Nat)(now:List Int)(q:Nat)(hq:q<5):(xk r k p now).h q=zQ r p now q:=by
 match q,hq with
 | 0,_=>rfl
 | 1,_=>rfl
 | 2,_=>rfl
 | 3,_=>rfl
 | 4,_=>rfl
structure Fine(s:Sy)(K N:Nat):Prop where
 n:s.n=(N:Int)
 pn:s.p.t.n=(N:Int)
 k:s.p.k=(K:Int)
 n1:1<=N
 n5:N<=5
 k6:K<=6
 lv:s.vs.length<=2100
 lx:s.xs.length<=60
 word:∀x∈s.xs,x.word.length=K/\∀r∈x.word,zS r=0/\r.n=(N:Int)
 views:∀x∈s.xs,x.views.length=K+1/\∀l∈x.views,l.length=N/\∀i∈l,0<=i/\i<s.vs.length
 vs:∀v∈s.vs,(∃q:Nat,v.p=(q:Int)/\q<N)/\(∃r:Nat,v.r=(r:Int)/\r<=K)/\(0<v.r->∃u,At s.vs (v.h v.p.toNat) u/\u.p=v.p/\u.r=v.r-1)
theorem gh{p:Pb}(hf:xN p)(h0:zL p=0)(dt:zT p<=60):∃K N,Fine (zz p) K N:=by
 obtain⟨dI,nF,oI,cA,rW⟩:=zM h0;obtain⟨h1,en,pL⟩:=yv dI;obtain⟨r1,r2⟩:=ZE p h0 dt;obtain⟨K,hK⟩:=Lr cA;obtain⟨N,hN⟩:=Lr (show 0<=p.t.n by omega);have Ta:p.t.n.toNat=N:=by omega
 obtain⟨f1,f2,f3⟩:=Ys p (zu p)
 have io:∀y∈zu p,y.2.length=K/\∀r∈y.2,zS r=0/\r.n=(N:Int):=fun y hy=>by
  unfold zu at hy;obtain⟨d,_,hy⟩:=Ny.1 hy;obtain⟨w',fi,rfl⟩:=LO.1 hy;refine⟨by show w'.length=K;rw[yK p.a _ 0 w' fi];omega,fun r hr=>?_⟩;obtain⟨m,hm,rfl⟩:=qY p.a _ 0 w' fi r hr;obtain⟨z1,z2,_⟩:=yY (yG hf.1.2 nF).1 m hm;exact⟨z1,by rw[z2,<-oI,hN]⟩
 have hx:∀x∈(zx p (zu p)).2,∃y∈zu p,∃vs,XFin p (zx p (zu p)).1 y.1 y.2 x vs:=fun x hx=>by
  obtain⟨i,hi,e⟩:=LG hx;rw[xm] at hi;obtain⟨x',vs,CJ,hh⟩:=f1 i hi
  have:x=x':=by
   rw[Lf (by rw[xm];exact hi),e] at CJ;exact Py CJ
  subst this;exact⟨_,Ld hi,vs,hh⟩
 refine⟨K,N,hN,hN,hK,by omega,by omega,by omega,r1,r2,fun x hm=>?_,fun x hm=>?_,fun v hv=>?_⟩
 . obtain⟨y,hy,vs,hh⟩:=hx x hm
   rw[hh.hw];exact io y hy
 . obtain⟨y,hy,vs,hh⟩:=hx x hm
   obtain⟨ig,_⟩:=io y hy;rw[hh.hv];refine⟨by rw[yg,ig],fun l hl=>?_⟩;obtain⟨k,hk,rfl⟩:=LG hl;rw[yg] at hk
   have e:(zr vs p.t.n.toNat (yc p y.1) y.2 y.2.length).2[k]'(by rw[yg];exact hk)=uZ vs p.t.n.toNat (yc p y.1) y.2 k:=by
    rw[<-kg vs p.t.n.toNat (yc p y.1) y.2 y.2.length k (by omega),Le,Lf (by rw[yg];exact hk)];rfl
   rw[e];refine⟨by rw[kD,Ta],fun i hi=>?_⟩;obtain⟨q,hq,rfl⟩:=LG hi;rw[kD] at hq;have ha:=ux vs p.t.n.toNat (yc p y.1) y.2 y.2.length k q (by omega) hq;obtain⟨us,lm⟩:=hh.ht;have hb:=(ha.mono (us:=us));rw[<-lm,Le,Lf (by rw[kD];exact hq)] at hb;exact hb.lt
 obtain⟨y,hy,vs,k,q,hk,hq,rfl,us,lm⟩:=f2 v hv;obtain⟨ig,DI⟩:=io y hy
 cases k with
 | zero=>exact⟨⟨q,rfl,by omega⟩,⟨0,rfl,by omega⟩,fun h=>absurd h (by show ¬((0:Int)<0);omega)⟩
 | succ k=>
  refine⟨⟨q,rfl,by omega⟩,⟨k+1,rfl,by omega⟩,fun _=>⟨fV vs p.t.n.toNat (yc p y.1) y.2 k q,?_,?_,?_⟩⟩
  . have aU:k<y.2.length:=by omega
    have hg:y.2.getD k default=y.2[k]:=by rw[Le,Lf aU];rfl
    have rO:=DI _ (Ld aU);have hb:=own_bit (xI rO.1).2.2.1 q (by rw[rO.2];omega)
    have e:(fV vs p.t.n.toNat (yc p y.1) y.2 (k+1) q).h ((fV vs p.t.n.toNat (yc p y.1) y.2 (k+1) q).p.toNat)=(uZ vs p.t.n.toNat (yc p y.1) y.2 k).getD q 0:=by
     show(xk (y.2.getD k default) (k+1) q (uZ vs p.t.n.toNat (yc p y.1) y.2 k)).h ((q:Int).toNat)=_;rw[Lj,kS _ _ _ _ _ (by omega),hg];unfold zQ;rw[Lo ⟨by rw[kD];exact hq,hb⟩]
    rw[e];show At (zx p (zu p)).1 _ _;rw[lm];exact(ux vs p.t.n.toNat (yc p y.1) y.2 y.2.length k q (by omega) hq).mono
  . cases k<;>rfl
  . cases k with
    | zero=>show(0:Int)=((0+1:Nat):Int)-1;rfl
    | succ k=>show((k+1:Nat):Int)=((k+1+1:Nat):Int)-1;omega
end
end Go.Proofs.YtjjcgpfljidbhaaGreat
