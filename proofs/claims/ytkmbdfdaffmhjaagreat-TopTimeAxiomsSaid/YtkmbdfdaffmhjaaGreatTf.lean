/- Merged. -/
import Derived.Test.YtkmbdfdaffmhjaaGreatTe
import Derived.Sort.CutIn
import Derived.Orders
open Go.Proofs.Tryz
open Go.Value renaming int->O,slice->I,bool->Ah,agg->Ai,pointer->Aj
open Go.IntKind renaming i64->U
open Option renaming none->Z,some->J
open Go.Obj renaming cells->Ag
open Go.Ending renaming returned->Ak
open Go.Proofs.Tryz renaming prog->Al
open Go.RowKit renaming Below->Am,intOf->Ap,Hid->Aq
open Go renaming Calls->An,Value->Ar
open Bool renaming true->Au,false->Aw
open List renaming filter_cons->Rq
namespace Go.Proofs.YtkmbdfdaffmhjaaGreat
abbrev N4:=@Classical.byContradiction
abbrev L9:=@Go.results_cell_row
abbrev Rt:=@Nat.testBit_lt_two_pow
abbrev Pv:=@Nat.mod_lt
abbrev Pw:=@List.length_eq_zero_iff
abbrev Si:=@Array.getD_eq_getD_getElem?
set_option maxRecDepth 100000
set_option maxHeartbeats 4000000
section
open Go.RowKit Go.Shelf
attribute [local go_sem] Oper.semAt_some
theorem zw{α:Type}{l:List α}{i:Nat}(h:i<l.length)(d:α):l.getD i d=l[i]:=by rw[Lh,Lm h];rfl
def jK(s:Sy)(q:Nat):List Int:=(zu (s.p.k.toNat+1) 0 s.xs.length).map fun x=>xw (s.xs.getD x.1 default) x.2 q
def yt(s:Sy)(q:Nat):List Int:=qg (jK s q)
def clsE(s:Sy)(p:Int):List Int×Int:=if zZ s≠0 then ([],zZ s) else if p<0\/s.n<=p then ([],2) else (yt s p.toNat,0)
def RetOE(xs:List Int)(n:Int)(w:Ba)(e:Ending)(w':Ba):Prop:=∃A c,e=Ak (.tuple #[I A xs.length c,O U n])/\Own w' w.heap.size (I A xs.length c) xs/\Am w.heap.size w w'
theorem Zs(s:Sy)(q:Nat):(jK s q).length=s.xs.length*(s.p.k.toNat+1):=by unfold jK;rw[LM,kE _ _ (by omega)]
theorem keyL_at(s:Sy)(q i:Nat)(h:i<(jK s q).length):(jK s q)[i]=xw (s.xs.getD (i / (s.p.k.toNat+1)) default) (i % (s.p.k.toNat+1)) q:=by
 have h2:i<(zu (s.p.k.toNat+1) 0 s.xs.length).length:=by have:=h;unfold jK at this;simpa using this
 have:(jK s q)[i]=xw (s.xs.getD ((zu (s.p.k.toNat+1) 0 s.xs.length)[i]).1 default) ((zu (s.p.k.toNat+1) 0 s.xs.length)[i]).2 q:=by unfold jK;exact Ns ..
 rw[this,prs_at _ _ (by omega)]
theorem cls1_any(s:Sy)(K N:Nat)(hF:Fine s K N)(e k q:Nat)(he:e<s.xs.length)(hk:k<=K)(hq:q<N)(A SV AV AX:Bb)(kc ks kv kx bs bp:Nat)(w:Ba)(hX:XAt w w.heap.size AX s.xs)
  (hb:w.heap[bs]?=J (Ag (s.vs_ A kc SV ks AV kv AX kx) 39 (0,0))) (hp:w.heap[bp]?=J (Ag #[O U (q:Int)] 3 (0,0))) :
  An Al 149 #[Ai #[O U (e:Int),O U (k:Int)],Aj (J ⟨bs,0,Z⟩),Aj (J ⟨bp,0,Z⟩)] w fun r w'=>r=Ak (O U (xw s.xs[e] k q))/\Am w.heap.size w w':=by
 obtain⟨w1,ae,d0,aw,hB⟩:=zm w #[O U (e:Int),O U (k:Int)] 178;have lk:=Le he;obtain⟨eq,an⟩:=hF.views _ lk;obtain⟨bx,ox,A1,c1,A2,c2,eX,ce,x0,x1,x2,ly,sE⟩:=(hX.keep hB).row e he;subst eX;obtain⟨x,hx⟩:∃x,x=s.xs[e]:=⟨_,rfl⟩;rw[<-hx] at eq an x2 sE ⊢;obtain⟨bl,ol,A3,c3,eL,cp,y1,hI⟩:=sE.at_ k (by omega);subst eL;obtain⟨hl,lY⟩:=an _ (Le (by omega:k<x.views.length));have Du:∀row,x.views[k]'(by omega)=row->xw x k q=row.getD q 0:=fun row hr=>by unfold xw;rw[zw (by omega:k<x.views.length),hr]
 obtain⟨row,pM⟩:=Kk (x.views[k]'(by omega));rw[Du row pM];rw[pM] at y1 hI hl;obtain⟨b4,o4,e4,aP,z4⟩:=hI.at_ q (by omega);subst e4;have dz:row[q]'(by omega)=row.getD q 0:=by rw[Lh,Lm (by omega)];rfl
 rw[dz] at z4;obtain⟨u,hu⟩:=Kk (row.getD q 0);rw[hu] at z4 ⊢;obtain⟨nv,DF⟩:=Kk x.views.length;rw[DF] at x2 eq;obtain⟨nr,KX⟩:=Kk row.length;rw[KX] at y1 hl;have ak:=zH ae;have HB:=zH hB;obtain⟨g0,g1,_⟩:=Ke d0;have p0:=zh (La hB hp) 0 rfl;have p9:w1.cell? ⟨bs,9,Z⟩=J (I (J ⟨bx,ox,Z⟩) s.xs.length kx):=zh (La hB hb) 9 rfl;have h1:(0:Int)<=(e:Int):=by omega
 have h2:(e:Int)<(s.xs.length:Int):=by omega
 have h3:(0:Int)<=(k:Int):=by omega
 have h4:(k:Int)<(nv:Int):=by omega
 have h5:(0:Int)<=(q:Int):=by omega
 have h6:(q:Int)<(nr:Int):=by omega
 clear ae d0 hB hX hb hp hF dz hu DF KX hx ly sE hI lY an lk Du pM x0 x1 hl eq;go_enter func149,ntmps149;go_wp2_with fail;rw[ak.out];go_quiet (fail);go_wp2_with fail;go_ret;exact⟨rfl,yv HB.out _⟩
theorem gx{w w':Ba}(h:Wrote (fun _=>False) w w'):Am w.heap.size w w':=⟨h.os,h.tape,h.output,h.size,fun k hk=>h.block k hk (fun h=>h)⟩
theorem Ju(s:Sy)(hs:LowS s)(hf:xu s.p)(p:Int)(A SV AV AX:Bb)(kc ks kv kx:Nat)(w:Ba)(hS:SyAt w w.heap.size A SV AV AX s) :
  An Al 125 #[.agg (s.vs_ A kc SV ks AV kv AX kx),O U p] w (RetOE (clsE s p).1 (clsE s p).2 w):=by
 obtain⟨w1,ae,d0,d1,aw,hB⟩:=xk w (s.vs_ A kc SV ks AV kv AX kx) #[O U p] 39 3;have HV:=zH (uv s hs hf A SV AV AX kc ks kv kx w1 (hS.up hB));have mI:=zH (hS.up hB);have HE:Aq (clsE s p=if zZ s≠0 then ([],zZ s) else if p<0\/s.n<=p then ([],2) else (yt s p.toNat,0)):=rfl;have mR:=zH (fun h=>yG hf h)
 have AT:=zH (fun (K N q:Nat) (hF:Fine s K N) (hq:q<N) (X:Ba) (hX:SyAt X X.heap.size A SV AV AX s) (bs bp:Nat) (hb:X.heap[bs]?=J (Ag (s.vs_ A kc SV ks AV kv AX kx) 39 (0,0))) (hp:X.heap[bp]?=J (Ag #[O U (q:Int)] 3 (0,0)))=>
  XU s K s.xs.length (by have:=hF.k6;omega) (by have:=hF.lx;omega) hF.k rfl A SV AV AX kc ks kv kx 149 #[Aj (J ⟨bs,0,Z⟩),Aj (J ⟨bp,0,Z⟩)]
   (NC func149 (by kernel_rfl) rfl) (fun x=>xw (s.xs.getD x.1 default) x.2 q) (fun _=>False)
   (fun W=>XAt W X.heap.size AX s.xs/\W.heap[bs]?=J (Ag (s.vs_ A kc SV ks AV kv AX kx) 39 (0,0))/\W.heap[bp]?=J (Ag #[O U (q:Int)] 3 (0,0))/\X.heap.size<=W.heap.size) X (fun _ h=>h.elim)
   ⟨hX.fx,hb,hp,Ld _⟩
   (fun W W' h hw=>by
    have cp:Am X.heap.size W W':=⟨hw.os,hw.tape,hw.output,hw.size,fun k hk=>hw.block k (by have:=h.2.2.2;omega) (fun h2=>by omega)⟩
    exact⟨h.1.keep cp,Lb cp (zk hb) h.2.1,Lb cp (zk hp) h.2.2.1,Lr h.2.2.2 hw.size⟩)
   (fun x hx W hJ hW=>by
    obtain⟨_,h1,h2⟩:=xW _ _ x hx;have he:x.1<s.xs.length:=by omega
    have:=cls1_any s K N hF x.1 x.2 q he (by omega) hq A SV AV AX kc ks kv kx bs bp W (hJ.1.more hJ.2.2.2) hJ.2.1 hJ.2.2.1;refine this.mono ?_;rintro r w' ⟨rfl,dZ⟩;rw[zw he]
    refine⟨rfl,⟨hJ.1.keep (dZ.mono hJ.2.2.2),La dZ hJ.2.1,La dZ hJ.2.2.1,Lr hJ.2.2.2 dZ.size⟩,Wrote.of_below dZ⟩))
 have oo:=zH (fun (K q:Nat) (h:s.p.k=(K:Int))=>(by unfold yt jK;rw[h];rfl:yt s q=qg ((zu (K+1) 0 s.xs.length).map fun x=>xw (s.xs.getD x.1 default) x.2 q)));obtain⟨R,hR⟩:=Kk (clsE s p);obtain⟨r,hr⟩:=Kk (zZ s);rw[hr] at HV HE mR;rw[hR] at HE ⊢;unfold Sy.vs_ at ae d0 HV AT ⊢;have ak:=zH ae;have HB:=zH hB;have HD:=zH d0;have eQ:=zH d1;have p5:=zh d0 5 rfl;have p6:=zh d0 6 rfl;have p7:=zh d0 7 rfl;have p8:=zh d0 8 rfl;have p9:=zh d0 9 rfl;clear ae d0 d1 hB hS hr hR hs hf;go_enter func125,ntmps125;go_wp2_with fail;rw[ak.out];go_wp2_with fail;refine HV.out.mono ?_;rintro e w2 ⟨rfl,ah⟩;have aT:=zH (HB.out.trans (ah.mono (by omega)));have fJ:=zH (mI.out.up ah);have d0:=Lb ah (by omega:w.heap.size<w1.heap.size) HD.out;have d1:=Lb ah (by omega:w.heap.size+1<w1.heap.size) eQ.out;clear p5 p6 p7 p8 p9 ah HV ak mI HD eQ
 by_cases h0:r=0
 case neg=>
  have hR:Aq (R=([],r)):=HE.out.trans (Lj h0);have e0:(r != 0)=Au:=by simpa using h0
  clear HE mR h0 d0 d1 AT oo;go_wp2_with fail
  go_ret2
  rw[hR.out];exact⟨Z,0,rfl,Own.nil _ _,aT.out⟩
 case pos=>
 subst h0;obtain⟨fM,K,N,hF⟩:=mR.out rfl;clear fM;have oE:R=if p<0\/s.n<=p then ([],2) else (yt s p.toNat,0):=HE.out.trans (Lg (by simp));have hn:=hF.n;have h5:=hF.n5;rw[hn] at oE;have am:=zH oE;have lT:=zH hF;have sc:=zH d0;have q0:=zh d1 0 rfl;have q7:w2.cell? ⟨w.heap.size,7,Z⟩=J (O U (N:Int)):=by rw[<-hn];exact zh d0 7 rfl
 have eQ:=zH d1;clear HE mR oE hF d0 d1 hn
 by_cases h1:p<0
 case pos=>
  have hR:Aq (R=([],2)):=am.out.trans (Lj (.inl h1));clear am AT oo;go_wp2_with fail
  go_ret2
  rw[hR.out];exact⟨Z,0,rfl,Own.nil _ _,aT.out⟩
 case neg=>
 obtain⟨q,rfl⟩:=Ls (show 0<=p by omega);have e1:(decide ((q:Int)<0))=Aw:=by simp
 by_cases h2:q<N
 case neg=>
  have hR:Aq (R=([],2)):=am.out.trans (Lj (.inr (by omega)));have e2:(decide ((N:Int)<=(q:Int)))=Au:=by simp;omega
  have h3:(N:Int)<=(q:Int):=by omega
  clear am AT oo;go_wp2_with fail
  go_ret2
  rw[hR.out];exact⟨Z,0,rfl,Own.nil _ _,aT.out⟩
 have hR:Aq (R=(yt s q,0)):=am.out.trans (Lg (by omega));have HC:=zH (AT.out K N q lT.out h2 w2 fJ.out w.heap.size (w.heap.size+1) sc.out eQ.out);have dy:=oo.out K q lT.out.k;have hn:=lT.out.n;rw[<-dy,hn] at HC;obtain⟨p0,p1,p2,p3,p4,p5,p6,_⟩:=Kg sc.out;have p8:=zh sc.out 8 rfl;have p9:=zh sc.out 9 rfl;clear am AT oo fJ dy lT hn;go_wp2_with fail
 all_goals first | (exfalso;omega) | skip
 refine HC.out.mono ?_;rintro e w3 ⟨v,rfl,ho,_,cO⟩;have HO:=zH ho;have al:=gx cO;have bK:=zH (Lc aT.out al);obtain⟨A6,k6,rfl,_,_,_⟩:=HO.out.form;go_wp2_with fail
 go_ret2
 rw[hR.out];exact⟨A6,k6,rfl,HO.out.low aT.out.size,bK.out⟩
end
section
def vA(ls:List Int)(set:List Bool):Nat->Int->Option Ar
 | 0=>fun _=>Z
 | k+1=>if set.getD k Aw then vA ls set k else ql (vA ls set k) (ls.getD k 0) (Ah Au)
theorem jF(ls:List Int)(set:List Bool)(v:Int):∀k,(vA ls set k v=J (Ah Au)/\∃i,i<k/\ls.getD i 0=v/\set.getD i Aw=Aw)\/(vA ls set k v=Z/\∀i,i<k->ls.getD i 0=v->set.getD i Aw=Au)
 | 0=>.inr ⟨rfl,fun i h=>by omega⟩
 | k+1=>by
  unfold vA
  cases hs:set.getD k Aw with
  | true=>
   rw[Lj rfl];rcases jF ls set v k with ⟨h1,i,h2,h3,h4⟩ | ⟨h1,h2⟩
   . exact .inl ⟨h1,i,by omega,h3,h4⟩
   . refine .inr ⟨h1,fun i hi he=>?_⟩
     by_cases e:i=k
     . subst e;exact hs
     . exact h2 i (by omega) he
  | false=>
   rw[Lg (by simp)];unfold ql
   by_cases e:v=ls.getD k 0
   . rw[Lj e];exact .inl ⟨rfl,k,by omega,e.symm,hs⟩
   . rw[Lg e]
     rcases jF ls set v k with ⟨h1,i,h2,h3,h4⟩ | ⟨h1,h2⟩
     . exact .inl ⟨h1,i,by omega,h3,h4⟩
     . refine .inr ⟨h1,fun i hi he=>?_⟩
       by_cases e2:i=k
       . subst e2;exact absurd he.symm e
       . exact h2 i (by omega) he
def yo(n:Nat)(ls:List Int)(set:List Bool):List Bool:=(List.range n).map fun i=>decide (∀j,j<n->ls.getD j 0=ls.getD i 0->set.getD j Aw=Au)
theorem yC(n:Nat)(ls:List Int)(set:List Bool):(yo n ls set).length=n:=by simp[yo]
theorem X6{n:Nat}{ls:List Int}{set:List Bool}{i:Nat}(h:i<n):(yo n ls set)[i]'(by rw[yC];exact h)=decide (∀j,j<n->ls.getD j 0=ls.getD i 0->set.getD j Aw=Au):=by simp[yo]
theorem insL_brk{n:Nat}{ls:List Int}{set:List Bool}{i:Nat}(h:i<n):(yo n ls set)[i]'(by rw[yC];exact h)=(vA ls set n (ls.getD i 0)).isNone:=by
 rw[X6 h];rcases jF ls set (ls.getD i 0) n with ⟨h1,j,h2,h3,h4⟩ | ⟨h1,h2⟩
 . rw[h1]
   refine Lu fun ha=>?_
   have:=ha j h2 h3;rw[h4] at this;cases this
 rw[h1];exact Lw h2
def qz(n:Nat)(a b:List Bool):List Bool:=(List.range n).map fun i=>a.getD i Aw&&b.getD i Aw
theorem yN(n:Nat)(a b:List Bool):(qz n a b).length=n:=by simp[qz]
theorem ZD{n:Nat}{a b:List Bool}{i:Nat}(h:i<n):(qz n a b)[i]'(by rw[yN];exact h)=(a.getD i Aw&&b.getD i Aw):=by simp[qz]
def evL(n:Nat)(aA:Nat->List Int)(ps:List Nat)(set:List Bool):List Bool:=ps.foldl (fun o p=>qz n o (yo n (aA p) set)) (List.replicate n Au)
theorem jC(n:Nat)(aA:Nat->List Int)(set:List Bool)(ps:List Nat):(evL n aA ps set).length=n:=by
 unfold evL;refine snocI (P:=fun ps=>(ps.foldl (fun o p=>qz n o (yo n (aA p) set)) (List.replicate n Au)).length=n) (by simp) (fun l x _=>?_) ps;rw[Pk];exact yN _ _ _
theorem Jo(n:Nat)(aA:Nat->List Int)(set:List Bool)(ps:List Nat)(p:Nat):evL n aA (ps++[p]) set=qz n (evL n aA ps set) (yo n (aA p) set):=by unfold evL;rw[Pk];rfl
theorem ZA{n:Nat}{aA:Nat->List Int}{set:List Bool}{i:Nat}(h:i<n)(ps:List Nat):(evL n aA ps set).getD i Aw=Au↔∀p∈ps,∀j,j<n->(aA p).getD j 0=(aA p).getD i 0->set.getD j Aw=Au:=by
 refine snocI (P:=fun ps=>(evL n aA ps set).getD i Aw=Au↔∀p∈ps,∀j,j<n->(aA p).getD j 0=(aA p).getD i 0->set.getD j Aw=Au) ?_ (fun l x ih=>?_) ps
 . simp[evL,List.getD_eq_getElem?_getD,h]
 rw[Jo,zw (by rw[yN];exact h),ZD h,LB,ih,zw (by rw[yC];exact h),X6 h,Pt];constructor
 . rintro⟨h1,h2⟩ p hp
   rcases Ng.1 hp with hp | hp
   . exact h1 p hp
   rw[LY] at hp;subst hp;exact h2
 exact fun h1=>⟨fun p hp=>h1 p (PJ _ hp),h1 x (by simp)⟩
end
section
open Go.RowKit
theorem IAt.sameB{w w':Ba}{B:Nat}{A:Bb}{xs:List Int}(h:IAt w B A xs)(hb:∀k,k<B->w'.heap[k]?=w.heap[k]?):IAt w' B A xs:=fun h0=>by
 obtain⟨b,off,e,ac,hc⟩:=h h0;exact⟨b,off,e,ac,fun i hi=>(LN (hb b ac)).trans (hc i hi)⟩
theorem cnt_pos{a:Ad}(h:zG a a.sts=0):∀(k:Nat) (s:Int),0<=s->s<a.sts.length->1<=yf a k s
 | 0,_,_,_=>Ld _
 | k+1,s,h0,h1=>by
  have hl:s.toNat<a.sts.length:=by omega
  have he:a.at_ s=a.sts[s.toNat]:=by unfold Ad.at_;rw[Lh,Lm hl];rfl
  obtain⟨z1,z2⟩:=jP h _ (Le hl)
  obtain⟨m,r,hm⟩:∃m r,a.sts[s.toNat]=m::r:=by
   cases hc:a.sts[s.toNat] with
   | nil=>rw[hc] at z1;simp at z1
   | cons m r=>exact⟨m,r,rfl⟩
  have hmv:m∈a.mvs:=Nw.2 ⟨_,Le hl,by rw[hm];simp⟩;obtain⟨_,_,z3,z4⟩:=xL h m hmv;have:=cnt_pos h k m.to z3 z4;unfold yf;rw[he,hm,L4,Ri];omega
theorem xs_pos{s:Sy}(hf:xu s.p)(h:zZ s=0):1<=s.xs.length:=by
 obtain⟨e,_⟩:=yG hf h
 have h0:zV s.p=0:=by
  unfold zZ at h
  by_cases h1:(zT s.p).2≠0
  . rw[Lj h1] at h;exact absurd h h1
  by_cases h0:zV s.p=0
  . exact h0
  rw[xm h0] at h1;exact absurd h0 h1
 obtain⟨nG,sX,_⟩:=yg h0;obtain⟨hc,_⟩:=xg nG;rw[e];show 1<=(zE s.p (zC s.p)).2.length;have ha:=sX;unfold qn at ha
 have iA:zG s.p.a s.p.a.sts=0/\1<=s.p.a.sts.length:=by
  split at ha
  . cases ha
  split at ha
  . cases ha
  rename_i h3
  split at ha
  . rename_i h4;exact absurd ha h4
  rename_i h4;exact⟨by simpa using h4,by omega⟩
 have:=cnt_pos iA.1 s.p.k.toNat 0 (Int.le_refl _) (by omega);rw[qc,XS,Zu,yK];exact LV hc this
end
section
def ptn(s:Sy):Nat:=s.xs.length*(s.p.k.toNat+1)
def psG(s:Sy)(g:Int):List Nat:=yp g.toNat s.n.toNat
def yd(s:Sy)(g:Int):Int:=if zZ s≠0 then zZ s else if g<0\/2^s.n.toNat<=g then 2 else 0
def yn(s:Sy)(g:Int)(set:List Bool):Int:=if yd s g≠0 then yd s g else if set.length≠ptn s then 15 else 0
theorem j9(s:Sy)(q:Nat):(yt s q).length=ptn s:=by unfold yt;rw[qF,Zs];rfl
theorem psG_len(s:Sy)(g:Int):(psG s g).length<=s.n.toNat:=by unfold psG yp;exact Lr (List.length_filter_le _ _) (by simp)
theorem Yu{s:Sy}{g:Int}{set:List Bool}(h:yn s g set=0):yd s g=0/\set.length=ptn s:=by
 unfold yn at h
 by_cases h1:yd s g=0
 . rw[Lg (by simpa using h1)] at h
   refine⟨h1,?_⟩
   by_cases h2:set.length=ptn s
   . exact h2
   rw[Lj h2] at h;cases h
 rw[Lj h1] at h;exact absurd h h1
theorem uG{s:Sy}{g:Int}(h:yd s g=0):zZ s=0/\0<=g/\g<2^s.n.toNat:=by
 unfold yd at h
 by_cases h1:zZ s=0
 . rw[Lg (by simpa using h1)] at h
   refine⟨h1,?_⟩
   by_cases h2:g<0\/2^s.n.toNat<=g
   . rw[Lj h2] at h;cases h
   omega
 rw[Lj h1] at h;exact absurd h h1
theorem wC{s:Sy}{g:Int}(hf:xu s.p)(h:yd s g=0):1<=ptn s/\ptn s<=700/\(psG s g).length<=5:=by
 obtain⟨h1,_,_⟩:=uG h;obtain⟨_,K,N,hF⟩:=yG hf h1;have hx:=xs_pos hf h1;have hn:=hF.n;have lp:=hF.n5;have hk:=hF.k;have DO:=hF.k6;have L5:=hF.lx;refine⟨?_,?_,?_⟩
 . have:=LV hx (show 1<=s.p.k.toNat+1 by omega)
   unfold ptn;omega
 . have:=LV L5 (show s.p.k.toNat+1<=7 by omega)
   unfold ptn;omega
 have:=psG_len s g;omega
end
section
open Go.RowKit Go.Shelf
attribute [local go_sem] Oper.semAt_some
theorem shl_one{N:Nat}(h:N<=5):(2^((N:Int)).toNat:Int)=((2^N:Nat):Int):=by
 obtain rfl | rfl | rfl | rfl | rfl | rfl:N=0\/N=1\/N=2\/N=3\/N=4\/N=5:=by omega
 all_goals rfl
theorem own_on{W W9:Ba}{ab:Nat}{A:Bb}{n c:Nat}{xs:List Int}(ho:Own W ab (I A n c) xs)(h:∀k,ab<=k->k<W.heap.size->W9.heap[k]?=W.heap[k]?):IAt W9 W.heap.size A xs:=fun h0=>by
 obtain⟨A',c',e',_,_,hI⟩:=ho.form;simp only[Value.slice.injEq] at e';obtain⟨e1',-,-⟩:=e';subst e1';obtain⟨b,off,e,ac,hc⟩:=hI h0;subst e;have hb:=(ho.lt b rfl).1;exact⟨b,off,rfl,ac,fun i hi=>(LN (h b hb ac)).trans (hc i hi)⟩
theorem oneboxr(w:Ba)(c1:Array Ar)(t1:TypeId):∃W0,(w.alloc (Ag c1 t1)).drew=W0/\W0.heap[w.heap.size]?=J (Ag c1 t1 (0,0))/\W0.heap.size=w.heap.size+1/\Am w.heap.size w W0:=
 ⟨_,rfl,zx w _,by show(w.alloc _).heap.size=_;simp,(zU w _).drew⟩
end
section
open Go.RowKit
theorem made_row(n:Nat):madeCells #[O U 0] (n*1)=((List.replicate n 0).map (O U)).toArray:=by
 unfold madeCells;apply Array.ext
 . simp
 intro i h1 h2;simp[Nat.mod_one]
theorem make_rowN(n:Nat)(hn:n<=100000)(W:Ba):(Instr.makeSlice 50 (O U n) (O U n)).run Al W=.ok (I (J ⟨W.heap.size,0,Z⟩) n n) (W.alloc (Ag ((List.replicate n 0).map (O U)).toArray 3)):=by
 obtain⟨i0,hi,eO,cY,ep⟩:=xe Yl;have hb:i0.bytes=8:=ep;have hs:i0.size=1:=cY;have h:=run_make (P:=Al) W 50 3 i0 (O U 0) NJ hi eO U U (n:Int) (n:Int) (by omega) (Int.le_refl _) (by rw[hb];omega) (by omega);rw[h,hs];simp only[Int.toNat_natCast];rw[show(O U 0).cells=#[O U 0] from rfl,made_row]
end
section
open Go.RowKit Go.Shelf
attribute [local go_sem] Oper.semAt_some
def RetB(xs:List Bool)(w:Ba)(e:Ending)(w':Ba):Prop:=∃g:Nat,e=Ak (I (J ⟨g,0,Z⟩) xs.length xs.length)/\w.heap.size<=g/\BRow w' g xs/\Am w.heap.size w w'
theorem Xm(A B:Bb)(ca cb n:Nat)(hn:n<=100000)(a b:List Bool)(ha:a.length=n)(hb:b.length=n)(w:Ba)(hA:BAt w w.heap.size A a)(hB:BAt w w.heap.size B b) :
  An Al 42 #[I A n ca,I B n cb] w (RetB (qz n a b) w):=by
 have HA:=zH hA;have HB:=zH hB;have np:=zH ha;have tn:=zH hb;have iD:=xy n hn;obtain⟨rs,oL⟩:=Kk (qz n a b);have eh:rs.length=n:=by rw[<-oL];exact yN _ _ _
 have eo:=zH eh
 have ef:Aq (∀k (h:k<n),rs[k]'(by rw[eo.out];exact h)=(a[k]'(by rw[np.out];exact h)&&b[k]'(by rw[tn.out];exact h))):=fun k h=>by
  subst oL;rw[ZD h,zw (by omega),zw (by omega)]
 unfold RetB;rw[oL,eh];go_enter func42,ntmps42;go_upto_region 2 with fail
 obtain⟨w3,cO,d3,dx,ck⟩:=zm w (xZ (List.replicate n Aw)) 4;rw[cO];have pi:=zH (HA.out.keep ck);have bK:=zH (HB.out.keep ck);have fI:=zH ck;have oG:Aq (BRow w3 w.heap.size (xG rs 0)):=by rw[vp,eo.out];exact d3
 go_wp2_with fail
 go_loopw [12] (fun i wr=>∃k:Nat,k<=n/\i=O U (k:Int)/\Aq (BRow wr w.heap.size (xG rs k))/\Aq (Am w.heap.size w3 wr)) (fun i _=>n-(Ap i).toNat)
 case atStart=>exact⟨0,by omega,rfl,oG,Li _ _⟩
 obtain⟨k,hk,rfl,bD,aO⟩:=hrel
 by_cases ac:k<n
 . obtain⟨b1,o1,rfl,aQ,z0⟩:=(pi.out.keep aO.out).at_ k (by rw[np.out];exact ac)
   obtain⟨b2,o2,rfl,ah,z1⟩:=(bK.out.keep aO.out).at_ k (by rw[tn.out];exact ac);have bG:=ef.out k ac;obtain⟨x,hx⟩:=Kk (a[k]'(by rw[np.out];exact ac));obtain⟨y,hy⟩:=Kk (b[k]'(by rw[tn.out];exact ac));rw[hx] at z0 bG;rw[hy] at z1 bG;have nI:k<rs.length:=by rw[eo.out];exact ac
   have rI:=uS rs (Ru nI);have y0:=zh bD.out k (qI (xG rs k) k (by omega));have f0:=zi bD.out k
   have od:Aq (BRow (wr.setCell ⟨w.heap.size,k,Z⟩ (Ah (x&&y))) w.heap.size (xG rs (k+1))):=by
    rw[<-bG,<-uR rs nI];show _=_;rw[Lk wr _ k _ _ _ bD.out,vr]
   have tt:=zH (aO.out.setCell (p:=⟨w.heap.size,k,Z⟩) (by show w.heap.size<=w.heap.size;omega) (Ah (x&&y)));obtain⟨u,hu⟩:=Kk ((xG rs k)[k]'(by omega));rw[hu] at y0;have dS:(0:Int)<=(k:Int):=by omega
   have aW:(k:Int)<(n:Int):=by omega
   cases x with
   | false=>
    go_wp2_with fail
    go_roundw
    case rel=>exact⟨k+1,by omega,by go_num,od,tt⟩
    case measure=>simp[Ap];omega
   | true=>
    go_wp2_with fail
    go_roundw
    case rel=>exact⟨k+1,by omega,by go_num,od,tt⟩
    case measure=>simp[Ap];omega
 obtain rfl:n=k:=by omega
 have HE:Aq (BRow wr w.heap.size rs):=by have:=bD.out;rwa[show xG rs n=rs by rw[<-eo.out];exact uT rs] at this
 have Dl:=zH (fI.out.trans aO.out);go_wp2_with fail;go_ret;exact⟨w.heap.size,rfl,Ld _,HE.out,Dl.out⟩
theorem Za(A B:Bb)(ca cb n:Nat)(hn:n<=100000)(ls:List Int)(set:List Bool)(ha:ls.length=n)(hb:set.length=n)(w:Ba)(hA:IAt w w.heap.size A ls)(hB:BAt w w.heap.size B set) :
  An Al 128 #[I A n ca,I B n cb] w (RetB (yo n ls set) w):=by
 have HA:=zH hA;have HB:=zH hB;have np:=zH ha;have tn:=zH hb;have iD:=xy n hn;have lZ:=@run_makeMap Al;have hz:∀W:Ba,(zeroValue 4).run Al W=.ok (Ah Aw) W:=fun W=>by kernel_rfl
 have ht:Al.underlying 224=J (.map 3 4):=underlying224;have HZ:=zH hz;have HT:=zH ht;obtain⟨rs,oL⟩:=Kk (yo n ls set);have eh:rs.length=n:=by rw[<-oL];exact yC _ _ _
 have eo:=zH eh
 have ef:Aq (∀k (h:k<n),rs[k]'(by rw[eo.out];exact h)=(vA ls set n (ls[k]'(by rw[np.out];exact h))).isNone):=fun k h=>by
  subst oL;rw[insL_brk h,X8 (by rw[np.out];exact h)]
 unfold RetB;rw[oL,eh];go_enter func128,ntmps128;go_upto_region 2 with fail
 obtain⟨w1,h1⟩:=Kk (w.alloc (.map #[] 0));have m1:MapOf (O U) w1 w.heap.size 0 (fun _=>Z):=by rw[<-h1];exact MapOf.made w
 have z1:Am w.heap.size w w1:=by rw[<-h1];exact zU _ _
 have oR:w.heap.size<w1.heap.size:=by rw[<-h1];simp
 rw[h1];have HM1:Aq (MapOf (O U) w1 w.heap.size 0 (vA ls set 0)):=m1;have mJ:=zH z1;have O8:=zH (HA.out.keep z1);have mI:=zH (HB.out.keep z1);go_wp2_with fail
 go_loopw [14] (fun i wr=>∃k m:Nat,k<=n/\i=O U (k:Int)/\Aq (MapOf (O U) wr w.heap.size m (vA ls set k))/\Aq (Am w.heap.size w1 wr)) (fun i _=>n-(Ap i).toNat)
 case atStart=>exact⟨0,0,by omega,rfl,HM1,Li _ _⟩
 obtain⟨k,m,hk,rfl,hm,aO⟩:=hrel
 by_cases ac:k<n
 . obtain⟨b1,o1,rfl,aQ,z0⟩:=(O8.out.keep aO.out).at_ k (by rw[np.out];exact ac)
   obtain⟨b2,o2,rfl,ah,z1⟩:=(mI.out.keep aO.out).at_ k (by rw[tn.out];exact ac);have Mh:ls.getD k 0=ls[k]'(by rw[np.out];exact ac):=X8 (by rw[np.out];exact ac) 0;have lr:set.getD k Aw=set[k]'(by rw[tn.out];exact ac):=zw (by rw[tn.out];exact ac) Aw;obtain⟨x,hx⟩:=Kk (ls[k]'(by rw[np.out];exact ac));obtain⟨y,hy⟩:=Kk (set[k]'(by rw[tn.out];exact ac));rw[hx] at z0 Mh;rw[hy] at z1 lr;have dS:(0:Int)<=(k:Int):=by omega
   have aW:(k:Int)<(n:Int):=by omega
   have hG:vA ls set (k+1)=if y then vA ls set k else ql (vA ls set k) x (Ah Au):=by rw[vA,Mh,lr]
   cases y with
   | true=>
    have mL:Aq (MapOf (O U) wr w.heap.size m (vA ls set (k+1))):=by rw[hG,Lj rfl];exact hm
    go_wp2_with fail
    go_roundw
    case rel=>exact⟨k+1,m,by omega,by go_num,mL,aO⟩
    case measure=>simp[Ap];omega
   | false=>
    obtain⟨W5,ft,pu,cK⟩:=hm.out.put yO HT.out x (Ah Au);have mL:Aq (MapOf (O U) W5 w.heap.size (m+1) (vA ls set (k+1))):=by rw[hG,Lg (by simp)];exact pu
    have aK:Aq (Am w.heap.size w1 W5):=aO.out.grown cK (by have:=aO.out.size;omega) (fun r e=>by cases e;omega);go_wp2_with fail
    go_roundw
    case rel=>exact⟨k+1,m+1,by omega,by go_num,mL,aK⟩
    case measure=>simp[Ap];omega
 obtain rfl:n=k:=by omega
 have oz:=aO.out.size;obtain⟨wE,rfl⟩:∃x,x=wr:=⟨_,rfl⟩;go_upto_region 9 with fail
 obtain⟨w3,cO,d3,dx,ck⟩:=zm wE (xZ (List.replicate n Aw)) 4;rw[cO];have pi:=zH ((O8.out.keep aO.out).keep (ck.mono (by omega)));have HM3:=zH (hm.out.same (ck.block _ (by omega)));have fI:=zH (mJ.out.trans (aO.out.trans (ck.mono (by omega))));have oG:Aq (BRow w3 wE.heap.size (xG rs 0)):=by rw[vp,eo.out];exact d3
 have hwE:w.heap.size<wE.heap.size:=by omega
 go_wp2_with fail
 go_loopw [32] (fun i wr=>∃k:Nat,k<=n/\i=O U (k:Int)/\Aq (BRow wr wE.heap.size (xG rs k))/\Aq (Am wE.heap.size w3 wr)) (fun i _=>n-(Ap i).toNat)
 case atStart=>exact⟨0,by omega,rfl,oG,Li _ _⟩
 obtain⟨k,hk,rfl,bD,aO⟩:=hrel
 by_cases ac:k<n
 . obtain⟨b1,o1,rfl,aQ,z0⟩:=(pi.out.keep (aO.out.mono (by omega))).at_ k (by rw[np.out];exact ac)
   have bG:=ef.out k ac;obtain⟨x,hx⟩:=Kk (ls[k]'(by rw[np.out];exact ac));rw[hx] at z0 bG;have hm:=HM3.out.same (aO.out.block _ hwE);have fF:=hm.look yO HT.out (HZ.out wr) x
   have ct:∃y:Bool,(vA ls set n x).getD (Ah Aw)=Ah y/\rs[k]'(by rw[eo.out];exact ac)=!y:=by
    rcases jF ls set x n with ⟨h1,_⟩ | ⟨h1,_⟩
    . exact⟨Au,by rw[h1];rfl,by rw[bG,h1];rfl⟩
    exact⟨Aw,by rw[h1];rfl,by rw[bG,h1];rfl⟩
   obtain⟨y,hy1,Uy⟩:=ct;rw[hy1] at fF;have nI:k<rs.length:=by rw[eo.out];exact ac
   have rI:=uS rs (Ru nI);have y0:=zh bD.out k (qI (xG rs k) k (by omega));have f0:=zi bD.out k
   have od:Aq (BRow (wr.setCell ⟨wE.heap.size,k,Z⟩ (Ah (!y))) wE.heap.size (xG rs (k+1))):=by
    rw[<-Uy,<-uR rs nI];show _=_;rw[Lk wr _ k _ _ _ bD.out,vr]
   have tt:=zH (aO.out.setCell (p:=⟨wE.heap.size,k,Z⟩) (by show wE.heap.size<=wE.heap.size;omega) (Ah (!y)));obtain⟨u,hu⟩:=Kk ((xG rs k)[k]'(by omega));rw[hu] at y0;have dS:(0:Int)<=(k:Int):=by omega
   have aW:(k:Int)<(n:Int):=by omega
   go_wp2_with fail
   go_roundw
   case rel=>exact⟨k+1,by omega,by go_num,od,tt⟩
   simp[Ap];omega
 obtain rfl:n=k:=by omega
 have HE:Aq (BRow wr wE.heap.size rs):=by have:=bD.out;rwa[show xG rs n=rs by rw[<-eo.out];exact uT rs] at this
 have Dl:=zH (fI.out.trans (aO.out.mono (by omega)));go_wp2_with fail;go_ret;exact⟨wE.heap.size,rfl,by omega,HE.out,Dl.out⟩
end
section
open Go.RowKit
theorem ZV:(Al.info? 4).map (·.size)=J 1:=by kernel_rfl
theorem gP(n b:Nat)(h1:1<=n)(h5:n<=100000)(u:Bool)(w:Ba)(hb:w.heap[b]?=J (Ag #[Ah u] 4 (0,0))) :
  An Al 121 #[I (J ⟨b,0,Z⟩) 1 1,O U n] w fun e w'=>∃g,e=Ak (I (J ⟨g,0,Z⟩) n n)/\w.heap.size<=g/\BRow w' g (List.replicate n u)/\Am w.heap.size w w':=by
 have iD:=xy n h5;obtain⟨ar,p'⟩:∃ar:List Ar,(List.replicate n Aw).map Ah=ar:=⟨_,rfl⟩;unfold xZ at iD;rw[p'] at iD;have Gs:ar.length=n:=by rw[<-p'];simp
 have hc:=zh hb 0 rfl;have cp:=zk hb;have hm:=Tryz.bits_Mul 1 n (by omega) (by omega) w;have e1:(1*n / 18446744073709551616:Nat)=0:=by omega
 have e2:(1*n % 18446744073709551616:Nat)=n:=by omega
 rw[e1,e2] at hm;have Il:¬(n:Int)<0:=by omega
 go_enter func121,ntmps121;go_wp2_with fail;refine hm.mono ?_;rintro e w1 ⟨rfl,ae⟩;obtain rfl:=ae;obtain⟨W0,eJ,b0,bL,dl⟩:=zm w1 ar.toArray 4;have hx:W0.cell? ⟨b,0,Z⟩=J (Ah u):=(dl.cell (p:=⟨b,0,Z⟩) cp).trans hc;have BB:=zH dl;have BX:=zH b0;have HX:=zH hx;go_wp2_with ((refine wpList_copy_splice rfl (.tmp 31) (.tmp 32) 58 58 rfl 4 Py ZV (J ⟨w1.heap.size,0,Z⟩) (J ⟨b,0,Z⟩) n n 1 1 rfl rfl w1.heap.size 0 ar 4 BX.out [Ah u] (by simp[Nat.min_def];omega) (fun _=>⟨rfl,_,rfl,one_src HX.out⟩) (by simp;omega) (by simp[Value.oneCell']) w1.heap.size w1 BB.out (Ld _) ?_);intro w2 iC ah);obtain⟨g,hg⟩:=Kk w1.heap.size;have s1:=js (cur:=ar) (x:=Ah u) (k:=0) (m:=1) (n:=n) Gs (by simp) (by omega);have S1:=zH s1;have Hj:=zH hg;rw[hg] at iC ah ⊢
 go_loopw [8] (fun l wr=>∃(k:Nat) (cur:List Ar),1<=k/\k<=n/\l=O U k/\Aq (cur.length=n)/\Aq (cur.take k=List.replicate k (Ah u))/\Aq (wr.heap[g]?=J (Ag cur.toArray 4 (0,0)))/\Am g w1 wr) (fun l _=>n-(Ap l).toNat)
 case atStart=>exact⟨1,splice ar 0 [Ah u],by omega,h1,rfl,S1.out.2,S1.out.1,iC,ah⟩
 obtain⟨k,cur,aW,hkn,rfl,bn,Gi,ap,pX⟩:=hrel
 by_cases ac:k<n
 . clear S1 iC ah
   have dS:(0:Int)<=(k:Int):=by omega
   have iZ:(k:Int)<=(n:Int):=by omega
   have bC:¬n=k:=by omega
   go_upto_region 9 with fail
   obtain⟨d,hd⟩:=Kk (n-k);obtain⟨m,hm⟩:=Kk (Nat.min k d);have s':min k d=m:=hm;have Vb:1<=m:=by omega
   have mL:k+m<=n:=by omega
   have hm3:m<=k:=by omega
   have tG:∀j v,(List.replicate m (Ah u))[j]?=J v->wr.cell? ((⟨g,0,Z⟩:Addr).add j)=J v:=by
    intro j v hj;have Vo:j<m:=by have:=(Lp.1 hj).1;simpa using this
    rw[Px,Lj Vo] at hj
    cases hj
    rw[Pf,LQ];refine zh ap.out j ?_;rw[List.getElem?_toArray];have h2:=congrArg (fun l=>l[j]?) Gi.out;simp only[List.getElem?_take,List.getElem?_replicate] at h2;rwa[Lj (by omega),Lj (by omega)] at h2
   have SP:=zH (js (cur:=cur) (x:=Ah u) (k:=k) (m:=m) (n:=n) bn.out Gi.out mL);have GU:=zH tG;have HM:=zH hm;have ot:=zH pX;have aw:IntKind.i64.wrap ((k:Int)+(m:Int))=(k:Int)+(m:Int):=IntWalk.i64_in _ (by omega);have mI:=zH aw;clear tG hm pX aw
   go_region_law ((refine step_copy_splice (by rfl) (.tmp 41) (.tmp 44) 58 58 (by rfl) 4 Py ZV (J ⟨g,k,Z⟩) (J ⟨g,0,Z⟩) d d k n (by simp[go_sem]) (by simp[go_sem]) g k cur 4 ap.out (List.replicate m (Ah u)) (by rw[LU];exact HM.out.symm) (fun _=>⟨rfl,_,rfl,GU.out⟩) (by rw[LU,bn.out];exact mL) (by intro v hv;rw[List.eq_of_mem_replicate hv];rfl) g w1 ot.out.drew (Ld _) ?_;intro w3 mK al;rw[LU]))
   all_goals
    rw[mI.out];go_wp2_with fail
    go_frame
    go_roundw
    case rel=>
     (repeat apply Exists.intro)
     exact⟨⟨k+m,splice cur k (List.replicate m (Ah u)),by omega,by omega,rfl,SP.out.2,SP.out.1,mK,al⟩,by first | rfl | (go_frame;rfl) | (simp[Act.put];done)⟩
    case measure=>simp[Ap];omega
 obtain rfl:k=n:=by omega
 go_wp2_with fail;go_ret;refine⟨g,rfl,by have:=Hj.out;omega,?_,by have:=Hj.out;rw[this];exact pX⟩;unfold BRow xZ;have e:=Gi.out;rw[NZ (by have:=bn.out;omega)] at e;rw[ap.out,e];simp
end
section
open Go.RowKit Go.Shelf
attribute [local go_sem] Oper.semAt_some
structure KwAt(w:Ba)(B bw n N:Nat)(aA:Nat->List Int):Prop where
 lt:bw<B
 size:w.cell? ⟨bw,10,Z⟩=J (O U (n:Int))
 rows:∃b off cC,w.cell? ⟨bw,11,Z⟩=J (I (J ⟨b,off,Z⟩) N cC)/\b<B/\∀q,q<N->∃A c,w.cell? ⟨b,off+q,Z⟩=J (I A n c)/\IAt w B A (aA q)
 len:∀q,(aA q).length=n
theorem KwAt.keep{w w':Ba}{B bw n N:Nat}{aA:Nat->List Int}(h:KwAt w B bw n N aA)(hb:Am B w w'):KwAt w' B bw n N aA:=by
 obtain⟨b,off,cC,h1,h2,h3⟩:=h.rows;refine⟨h.lt,(hb.cell (p:=⟨bw,10,Z⟩) h.lt).trans h.size,⟨b,off,cC,(hb.cell (p:=⟨bw,11,Z⟩) h.lt).trans h1,h2,fun q hq=>?_⟩,h.len⟩;obtain⟨A,c,h4,h5⟩:=h3 q hq;exact⟨A,c,(hb.cell (p:=⟨b,off+q,Z⟩) h2).trans h4,h5.keep hb⟩
theorem KwAt.more{w:Ba}{B B' bw n N:Nat}{aA:Nat->List Int}(h:KwAt w B bw n N aA)(hB:B<=B'):KwAt w B' bw n N aA:=by
 obtain⟨b,off,cC,h1,h2,h3⟩:=h.rows;refine⟨by have:=h.lt;omega,h.size,⟨b,off,cC,h1,by omega,fun q hq=>?_⟩,h.len⟩;obtain⟨A,c,h4,h5⟩:=h3 q hq;exact⟨A,c,h4,h5.more hB⟩
theorem Q2(bw n N:Nat)(aA:Nat->List Int)(h1:1<=n)(hn:n<=100000)(w:Ba)(hK:KwAt w w.heap.size bw n N aA) :
  An Al 77 #[Aj (J ⟨bw,0,Z⟩)] w (RetB (List.replicate n Au) w):=by
 obtain⟨w1,ae,d1,aw,hB⟩:=zm w #[Ah Au] 4;have HC:=zH (gP n w.heap.size h1 hn Au w1 d1);have z0:=hK.size;have hl:=hK.lt;have ak:=zH ae;have HB:=zH hB;unfold RetB;rw[LU];clear ae d1 hB hK;go_enter func77,ntmps77;go_wp2_with fail;rw[ak.out];refine HC.out.mono ?_;rintro e w2 ⟨g,rfl,hg,hr,ah⟩;have HR:=zH hr;have aT:=zH (HB.out.trans (ah.mono (by omega)));go_wp2_with fail;go_ret;exact⟨g,rfl,by omega,HR.out,aT.out⟩
theorem Yk(bw n N:Nat)(aA:Nat->List Int)(hn:n<=100000)(q:Nat)(hq:q<N)(B:Bb)(cb:Nat)(set:List Bool)(hb:set.length=n)(w:Ba)(hK:KwAt w w.heap.size bw n N aA)(hB:BAt w w.heap.size B set) :
  An Al 78 #[Aj (J ⟨bw,0,Z⟩),O U (q:Int),I B n cb] w (RetB (yo n (aA q) set) w):=by
 obtain⟨b,off,cC,z1,ah,hr⟩:=hK.rows;obtain⟨A,c,z2,hI⟩:=hr q hq;have HC:=zH (Za A B c cb n hn (aA q) set (hK.len q) hb w hI hB);have Ig:(0:Int)<=(q:Int):=by omega
 have Bw:(q:Int)<(N:Int):=by omega
 unfold RetB at HC ⊢;rw[yC] at HC ⊢;go_enter func78,ntmps78;go_wp2_with fail;refine HC.out.mono ?_;rintro e w2 ⟨g,rfl,hg,iC,al⟩;have HR:=zH iC;have aT:=zH al;go_wp2_with fail;go_ret;exact⟨g,rfl,hg,HR.out,aT.out⟩
theorem vP(bw n N:Nat)(aA:Nat->List Int)(h1:1<=n)(hn:n<=100000)(hN:N<=5)(G:Nat)(hG:G<32)(B:Bb)(cb:Nat)(set:List Bool)(hb:set.length=n)(w:Ba)(hK:KwAt w w.heap.size bw n N aA)(hB:BAt w w.heap.size B set) :
  An Al 43 #[Aj (J ⟨bw,0,Z⟩),O U (G:Int),I B n cb] w (RetB (evL n aA (yp G N) set) w):=by
 have HA:=zH (Q2 bw n N aA h1 hn w hK);have BM:=zH (fun (q:Nat) (hq:q<N) (X:Ba) (hX:Am w.heap.size w X)=>Yk bw n N aA hn q hq B cb set hb X ((hK.keep hX).more hX.size) ((hB.keep hX).more hX.size));have cP:=zH (fun (g g':Nat) (a b:List Bool) (ha:a.length=n) (hb:b.length=n) (X:Ba) (r1:BRow X g a) (r2:BRow X g' b)=>Xm (J ⟨g,0,Z⟩) (J ⟨g',0,Z⟩) n n n hn a b ha hb X (r1.at_ r1.lt) (r2.at_ r2.lt));have HK:=zH hK;unfold RetB at HA BM cP ⊢;rw[LU] at HA;simp only[yC] at BM;simp only[yN] at cP;rw[jC];go_enter func43,ntmps43;go_wp2_with fail;refine HA.out.mono ?_;rintro e w2 ⟨g2,rfl,mC,iC,ah⟩;have dH:=zH iC;have aT:=zH ah;obtain⟨b,off,cC,z1,cj,_⟩:=(HK.out.keep ah).rows;go_wp2_with fail
 go_loopw [7,16] (fun o i wr=>∃k g:Nat,k<=N/\i=O U (k:Int)/\o=I (J ⟨g,0,Z⟩) n n/\w.heap.size<=g/\Aq (BRow wr g (evL n aA (yp G k) set))/\Aq (Am w.heap.size w wr)) (fun _ i _=>N-(Ap i).toNat)
 case atStart=>exact⟨0,g2,by omega,rfl,rfl,mC,dH,aT⟩
 obtain⟨k,g,hk,rfl,rfl,hg,hr,aO⟩:=hrel
 by_cases ac:k<N
 . have aQ:=YL hG (show k<5 by omega)
   have aW:(k:Int)<(N:Int):=by omega
   have tM:min k 64=k:=by omega
   by_cases eH:G.testBit k=Au
   case neg=>
    have DZ:G.testBit k=Aw:=by simpa using eH
    rw[DZ] at aQ;have hE:yp G (k+1)=yp G k:=by rw[Zm,Lg eH]
    have iC:Aq (BRow wr g (evL n aA (yp G (k+1)) set)):=by rw[hE];exact hr
    go_wp2_with fail
    go_roundw
    case rel=>exact⟨k+1,g,by omega,by go_num,rfl,hg,iC,aO⟩
    simp[Ap];omega
   case pos=>
   rw[eH] at aQ;have HE:Aq (evL n aA (yp G (k+1)) set=qz n (evL n aA (yp G k) set) (yo n (aA k) set)):=by rw[Aq,Zm,Lj eH,Jo]
   have HC:=zH (BM.out k ac wr aO.out);go_wp2_with fail;refine HC.out.mono ?_;rintro e w3 ⟨g3,rfl,Gd,mK,al⟩;have dx:=aO.out.size;have pM:BRow w3 g (evL n aA (yp G k) set):=Lb al hr.out.lt hr.out;have dV:=zH (cP.out g g3 _ _ (jC n aA set (yp G k)) (yC n (aA k) set) w3 pM mK);rw[<-HE.out] at dV;have bK:=zH (aO.out.trans (al.mono dx));go_wp2_with fail;refine dV.out.mono ?_;rintro e w4 ⟨g4,rfl,It,sV,aP⟩;have rW:=zH sV;have fK:=zH (Lc bK.out aP);have Gc:w.heap.size<=g4:=by have:=bK.out.size;omega
   go_wp2_with fail
   go_roundw
   case rel=>exact⟨k+1,g4,by omega,by go_num,rfl,Gc,rW,fK⟩
   simp[Ap];omega
 obtain rfl:N=k:=by omega
 go_wp2_with fail;go_ret;exact⟨g,rfl,hg,hr.out,aO.out⟩
theorem pcount_any(s:Sy)(K N:Nat)(hF:Fine s K N)(A SV AV AX:Bb)(kc ks kv kx:Nat)(w:Ba) :
  An Al 147 #[.agg (s.vs_ A kc SV ks AV kv AX kx)] w fun e w'=>e=Ak (O U (ptn s:Int))/\Am w.heap.size w w':=by
 obtain⟨w1,ae,d0,aw,hB⟩:=zm w (s.vs_ A kc SV ks AV kv AX kx) 39;have L5:=hF.lx;have hk:=hF.k;have DO:=hF.k6;have hn:ptn s=s.xs.length*(K+1):=by unfold ptn;rw[hk];rfl
 have hb:=LV L5 (show K+1<=7 by omega);rw[hn];unfold Sy.vs_ at ae d0 ⊢;rw[hk] at ae d0 ⊢;obtain⟨M,hM⟩:=Kk s.xs.length;rw[hM] at ae d0 hb L5 ⊢;have ak:=zH ae;have HB:=zH hB
 have Om:Aq (wrap64 ((M:Int)*((K:Int)+1))=((M*(K+1):Nat):Int)):=by
  show wrap64 _=_;rw[show(M:Int)*((K:Int)+1)=((M*(K+1):Nat):Int) by push_cast;rfl];exact IntWalk.wrap64_in _ (by omega)
 clear ae d0 hB hF hk hn hM hb;go_enter func147,ntmps147;go_wp2_with fail;rw[ak.out];go_wp2_with fail;go_ret;exact⟨by rw[<-Om.out];rfl,HB.out⟩
def Jr(s:Sy):Int×Int:=if zZ s≠0 then (0,zZ s) else ((ptn s:Int),0)
theorem pCount_any(s:Sy)(hs:LowS s)(hf:xu s.p)(A SV AV AX:Bb)(kc ks kv kx:Nat)(w:Ba)(hS:SyAt w w.heap.size A SV AV AX s) :
  An Al 124 #[.agg (s.vs_ A kc SV ks AV kv AX kx)] w fun e w'=>e=Ak (.tuple #[O U (Jr s).1,O U (Jr s).2])/\Am w.heap.size w w':=by
 obtain⟨w1,ae,d0,aw,hB⟩:=zm w (s.vs_ A kc SV ks AV kv AX kx) 39;have HV:=zH (uv s hs hf A SV AV AX kc ks kv kx w1 (hS.up hB));have di:Aq (zZ s≠0->Jr s=(0,zZ s)):=fun h=>Lj h
 have aq:Aq (zZ s=0->Jr s=((ptn s:Int),0)/\∀X,An Al 147 #[.agg (s.vs_ A kc SV ks AV kv AX kx)] X fun e w'=>e=Ak (O U (ptn s:Int))/\Am X.heap.size X w'):=fun h=>by
  obtain⟨_,K,N,hF⟩:=yG hf h;exact⟨Lg (by simpa using h),fun X=>pcount_any s K N hF A SV AV AX kc ks kv kx X⟩
 obtain⟨r,hr⟩:=Kk (zZ s);rw[hr] at HV di aq;obtain⟨R,fY⟩:=Kk (Jr s);rw[fY] at di aq ⊢;unfold Sy.vs_ at ae d0 HV aq ⊢;have ak:=zH ae;have HB:=zH hB;have HD:=zH d0;have p9:=zh (d0) 9 rfl;clear ae d0 hB hS hr fY hs hf;go_enter func124,ntmps124;go_wp2_with fail;rw[ak.out];go_wp2_with fail;refine HV.out.mono ?_;rintro e w2 ⟨rfl,ah⟩;have aT:=zH (HB.out.trans (ah.mono (by omega)));have d0:=Lb ah (by omega:w.heap.size<w1.heap.size) HD.out;clear p9 ah HV ak HD;obtain⟨p0,p1,p2,p3,p4,p5,p6,p7,p8,p9⟩:=zK (d0);clear d0
 by_cases h0:r=0
 case neg=>
  have hR:Aq (R=(0,r)):=di.out h0;have e0:(r != 0)=Au:=by simpa using h0
  clear di aq;go_wp2_with fail
  go_ret2
  rw[hR.out];exact⟨rfl,aT.out⟩
 case pos=>
 subst h0;obtain⟨hRe,hC⟩:=aq.out rfl;have HC:=zH (hC w2);have hR:=zH hRe;clear di aq hRe hC;go_wp2_with fail;refine HC.out.mono ?_;rintro e w3 ⟨rfl,al⟩;have bK:=zH (Lc aT.out al);go_wp2_with fail
 go_ret2
 rw[hR.out];exact⟨rfl,bK.out⟩
end
section
open Go.RowKit Go.Shelf
attribute [local go_sem] Oper.semAt_some
section
variable {B D pt:Nat} {wD w W W':Ba}
theorem ownR_same{K:Kd}{ab:Nat}{v:Ar}{n:Nat}{cs:List Ar}(h:OwnR K W ab v n cs)(hs:∀k,v.ownBlock=J k->W'.heap[k]?=W.heap[k]?):OwnR K W' ab v n cs:=by
 refine⟨h.1,?_⟩;rcases h.2 with hn | ⟨g,cap,cur,rfl,hb,hg,rest⟩
 . exact .inl hn
 exact .inr ⟨g,cap,cur,rfl,hb,(hs g rfl).trans hg,rest⟩
end
end
section
open Go.RowKit Go.Shelf
attribute [local go_sem] Oper.semAt_some
theorem own_ne{w:Ba}{ab base' n:Nat}{v V:Ar}{xs:List Int}{cs:List Ar}(h:Own w ab v xs)(g:OwnR kIs w base' V n cs):v.ownBlock=Z\/v.ownBlock≠V.ownBlock:=by
 rcases h.2 with ⟨rfl,_⟩ | ⟨b,cap,cur,rfl,_,hb,_⟩
 . exact .inl rfl
 refine .inr fun e=>?_
 rcases g.2 with ⟨rfl,_⟩ | ⟨b',aH,cur',rfl,_,dZ,_⟩
 . cases e
 have:b=b':=by simpa[Value.ownBlock] using e
 subst this;rw[hb] at dZ
 cases dZ
structure NwIn(B bw n:Nat)(S SW:Array Ar)(aA:Nat->List Int)(w W:Ba)(A:Bb)(k c:Nat)(cs:List Ar):Prop where
 below:Am B w W
 b0:W.heap[B]?=J (Ag S 39 (0,0))
 bx:W.heap[bw]?=J (Ag SW 95 (0,0))
 own:OwnR kIs W (bw+1) (I A k c) k cs
 rows:∀q,q<k->∃A' c',cs[q]?=J (I A' n c')/\Own W (bw+1) (I A' n c') (aA q)
 len:cs.length=k
 lo:B<bw
theorem NwIn.on{B bw n k c:Nat}{S SW:Array Ar}{aA:Nat->List Int}{w W W':Ba}{A:Bb}{cs:List Ar}(h:NwIn B bw n S SW aA w W A k c cs)(hb:Am W.heap.size W W'):NwIn B bw n S SW aA w W' A k c cs:=by
 have l1:=zk h.bx;have l0:=zk h.b0;refine⟨h.below.trans (hb.mono (by omega)),Lb hb l0 h.b0,Lb hb l1 h.bx,h.own.below hb (Ld _),fun q hq=>?_,h.len,h.lo⟩;obtain⟨A',c',e1,e2⟩:=h.rows q hq;exact⟨A',c',e1,e2.below hb (Ld _)⟩
theorem NwIn.push{B bw n k c c2:Nat}{S SW SW':Array Ar}{aA:Nat->List Int}{w W W1 W2:Ba}{A A2 A3:Bb}{c3:Nat}{cs:List Ar}(h:NwIn B bw n S SW aA w W A k c cs)(an:Own W (bw+1) (I A3 n c3) (aA k))
  (ho:OwnR kIs W1 (bw+1) (I A2 (k+1) c2) (k+1) (cs++[I A3 n c3])) (hg:W.grownBy W1 (I A k c).ownBlock) (hs:∀z,z≠bw->W2.heap[z]?=W1.heap[z]?) (hb:Am B W1 W2) (hx:W2.heap[bw]?=J (Ag SW' 95 (0,0))) :
  NwIn B bw n S SW' aA w W2 A2 (k+1) c2 (cs++[I A3 n c3]):=by
 have l1:=zk h.bx;have l0:=zk h.b0;have lo:=h.lo;have bC:∀z,z<=bw->(I A k c).ownBlock≠J z:=fun z hz e=>by have:=(h.own.lt z e).1;omega
 have keep:∀(v:Ar) (xs:List Int),Own W (bw+1) v xs->Own W2 (bw+1) v xs:=fun v xs hv=>by
  have h1:=hv.kept hg (own_ne hv h.own);exact h1.same fun z hz _=>hs z (by omega)
 refine⟨h.below.trans (((Li _ _).grown hg (by omega) (fun r e=>by have:=(h.own.lt r e).1;omega)).trans hb),(hs B (by omega)).trans ((hg.block B l0 (fun e=>bC B (by omega) e.symm)).trans h.b0),hx,ownR_same ho (fun z e=>hs z (by have:=(ho.lt z e).1;omega)),fun q hq=>?_,by simp[h.len],lo⟩
 by_cases e:q=k
 . subst e
   exact⟨A3,c3,by rw[LJ (by rw[h.len];exact Ld _),h.len,Nq];rfl,keep _ _ an⟩
 obtain⟨A',c',e1,e2⟩:=h.rows q (by omega);exact⟨A',c',by rw[LO (by rw[h.len];omega)];exact e1,keep _ _ e2⟩
def RetKw(s:Sy)(w:Ba)(e:Ending)(w':Ba):Prop:=Am w.heap.size w w'/\((zZ s≠0/\e=Ak (.tuple #[Aj Z,O U (zZ s)])) \/
 (zZ s=0/\∃bw,e=Ak (.tuple #[Aj (J ⟨bw,0,Z⟩),O U 0])/\KwAt w' w'.heap.size bw (ptn s) s.n.toNat (yt s)))
def RetKwG(s:Sy)(A SV AV AX:Bb)(kc ks kv kx:Nat)(w:Ba)(e:Ending)(w':Ba):Prop:=Am w.heap.size w w'/\((zZ s≠0/\e=Ak (.tuple #[Aj Z,O U (zZ s)])) \/
 (zZ s=0/\∃bw,e=Ak (.tuple #[Aj (J ⟨bw,0,Z⟩),O U 0])/\KwAt w' w'.heap.size bw (ptn s) s.n.toNat (yt s) /\
  ∃mb,w.heap.size<=mb/\MapOf (O U) w' mb 0 (fun _=>Z)/\∃AQ cQ,w'.heap[bw]?=J (Ag #[O U s.p.t.n,O U s.p.t.ins,O U s.p.t.outs,I A s.p.t.cases.length kc,O U s.p.a.n,I SV s.p.a.sts.length ks,O U s.p.k,O U s.n,I AV s.vs.length kv,I AX s.xs.length kx,O U (ptn s:Int),I AQ s.n.toNat cQ,.map (J mb)] 95 (0,0))))
theorem vL(s:Sy)(hs:LowS s)(hf:xu s.p)(A SV AV AX:Bb)(kc ks kv kx:Nat)(w:Ba)(hS:SyAt w w.heap.size A SV AV AX s) :
  An Al 75 #[.agg (s.vs_ A kc SV ks AV kv AX kx)] w (RetKwG s A SV AV AX kc ks kv kx w):=by
 obtain⟨w1,ae,d0,aw,hB⟩:=zm w (s.vs_ A kc SV ks AV kv AX kx) 39;have Bh:=zH (pCount_any s hs hf A SV AV AX kc ks kv kx w1 (hS.up hB));have rC:=zH (fun (q:Nat) (X:Ba) (hX:Am w.heap.size w X)=>Ju s hs hf (q:Int) A SV AV AX kc ks kv kx X ((hS.keep hX).more hX.size));have di:Aq (zZ s≠0->Jr s=(0,zZ s)):=fun h=>Lj h
 have aq:Aq (zZ s=0->Jr s=((ptn s:Int),0)/\1<=ptn s/\(∃N:Nat,s.n=(N:Int)/\1<=N/\N<=5)/\∀q:Nat,(q:Int)<s.n->clsE s (q:Int)=(yt s q,0)):=fun h=>by
  obtain⟨_,K,N,hF⟩:=yG hf h;have hx:=xs_pos hf h;have:=LV hx (show 1<=s.p.k.toNat+1 by omega);refine⟨Lg (by simpa using h),by unfold ptn;omega,⟨N,hF.n,hF.n1,hF.n5⟩,fun q hq=>?_⟩;unfold clsE;rw[Lg (by simpa using h),Lg (by omega),Lo]
 have oo:Aq (∀q,(yt s q).length=ptn s):=fun q=>j9 s q
 unfold RetKwG;obtain⟨r,hr⟩:=Kk (zZ s);rw[hr] at di aq ⊢;obtain⟨R,fY⟩:=Kk (Jr s);rw[fY] at Bh di aq;obtain⟨T1,MY⟩:=Kk (yt s);rw[MY] at aq oo ⊢;obtain⟨n,hn⟩:=Kk (ptn s);rw[hn] at aq oo ⊢;unfold Sy.vs_ at ae d0 Bh rC ⊢;have ak:=zH ae;have HB:=zH hB;have HD:=zH d0;have p7:=zh (d0) 7 rfl;have p8:=zh (d0) 8 rfl;have p9:=zh (d0) 9 rfl;clear ae d0 hB hS hr fY hs hf hn MY;go_enter func75,ntmps75;go_wp2_with fail;rw[ak.out];go_wp2_with fail;refine Bh.out.mono ?_;rintro e w2 ⟨rfl,ah⟩;have aT:=zH (HB.out.trans (ah.mono (by omega)));have HD:=zH (La ah HD.out);clear p7 p8 p9 ah Bh ak HB
 by_cases h0:r=0
 case neg=>
  have hR:Aq (R=(0,r)):=di.out h0;have e0:(r != 0)=Au:=by simpa using h0
  clear di aq HD rC oo;rw[hR.out];go_wp2_with fail
  go_ret2
  exact⟨aT.out,.inl ⟨h0,rfl⟩⟩
 case pos=>
 subst h0;obtain⟨e1,dG,⟨N,hN,MR,MO⟩,bn⟩:=aq.out rfl;rw[e1];have ee:=zH hN;have I4:=zH bn;have rt:=zH (And.intro dG (And.intro MR MO));have lZ:=@run_makeMap Al;obtain⟨p0,p1,p2,p3,p4,p5,p6,p7,p8,p9⟩:=zK (HD.out);clear di aq e1 dG MR MO hN bn;go_upto_region 5 with fail
 obtain⟨a3,h3⟩:=Kk (w2.alloc (.map #[] 0));have y3:a3.heap.size=w2.heap.size+1:=by rw[<-h3];simp
 have z3:Am w2.heap.size w2 a3:=by rw[<-h3];exact zU _ _
 have m3:MapOf (O U) a3 w2.heap.size 0 (fun _=>Z):=by rw[<-h3];exact MapOf.made w2
 rw[h3];obtain⟨a4,h4,x4,y4,z4⟩:=zm a3 #[O U s.p.t.n,O U s.p.t.ins,O U s.p.t.outs,I A s.p.t.cases.length kc,O U s.p.a.n,I SV s.p.a.sts.length ks,O U s.p.k,O U s.n,I AV s.vs.length kv,I AX s.xs.length kx,O U (n:Int),I Z 0 0,.map (J w2.heap.size)] 95;rw[h4];rw[y3] at x4 y4;have Dv:=zk HD.out
 have WC:NwIn w.heap.size (w2.heap.size+1) n #[O U s.p.t.n,O U s.p.t.ins,O U s.p.t.outs,I A s.p.t.cases.length kc,O U s.p.a.n,I SV s.p.a.sts.length ks,O U s.p.k,O U s.n,I AV s.vs.length kv,I AX s.xs.length kx] #[O U s.p.t.n,O U s.p.t.ins,O U s.p.t.outs,I A s.p.t.cases.length kc,O U s.p.a.n,I SV s.p.a.sts.length ks,O U s.p.k,O U s.n,I AV s.vs.length kv,I AX s.xs.length kx,O U (n:Int),I Z 0 0,.map (J w2.heap.size)] T1 w a4 Z 0 0 []:=
  ⟨aT.out.trans ((z3.trans (z4.mono (by omega))).mono (by omega)),Lb z4 (by omega) (Lb z3 Dv HD.out),x4,OwnR.nil _ _ _,fun q hq=>by omega,rfl,by omega⟩
 have mg:=zH WC;have AU:Aq (MapOf (O U) a4 w2.heap.size 0 (fun _=>Z)):=m3.same (z4.block _ (by omega));have hmw:Aq (w.heap.size<=w2.heap.size):=aT.out.size;have q7:a4.cell? ⟨w.heap.size,7,Z⟩=J (O U (N:Int)):=by rw[<-ee.out];exact zh WC.b0 7 rfl
 obtain⟨bw,aO⟩:=Kk (w2.heap.size+1);have eS:Aq (w2.heap.size<bw):=by rw[Aq];omega
 rw[aO] at mg ⊢;clear h3 y3 z3 m3 h4 x4 y4 z4 Dv WC HD aO lZ p7 p8 p9;go_wp2_with fail
 go_loopw [26] (fun i wr=>∃k:Nat,k<=N/\i=O U (k:Int)/\∃AQ cQ cs,Aq (NwIn w.heap.size bw n #[O U s.p.t.n,O U s.p.t.ins,O U s.p.t.outs,I A s.p.t.cases.length kc,O U s.p.a.n,I SV s.p.a.sts.length ks,O U s.p.k,O U s.n,I AV s.vs.length kv,I AX s.xs.length kx] #[O U s.p.t.n,O U s.p.t.ins,O U s.p.t.outs,I A s.p.t.cases.length kc,O U s.p.a.n,I SV s.p.a.sts.length ks,O U s.p.k,O U s.n,I AV s.vs.length kv,I AX s.xs.length kx,O U (n:Int),I AQ k cQ,.map (J w2.heap.size)] T1 w wr AQ k cQ cs)/\Aq (MapOf (O U) wr w2.heap.size 0 (fun _=>Z))) (fun i _=>N-(Ap i).toNat)
 case atStart=>exact⟨0,by omega,rfl,Z,0,[],mg,AU⟩
 obtain⟨k,hk,rfl,AQ,cQ,cs,hI,HM⟩:=hrel;clear mg q7 AU
 by_cases ac:k<N
 . have hc:=rC.out k wr hI.out.below
   rw[I4.out k (by rw[ee.out];omega)] at hc;have HC:=zH hc;have dS:(0:Int)<=(k:Int):=by omega
   have aW:(k:Int)<(N:Int):=by omega
   have dy:=oo.out k;have pU:k<=5:=by have:=rt.out;omega
   obtain⟨p0,p1,p2,p3,p4,p5,p6,p7,p8,p9⟩:=zK (hI.out.b0);clear hc;go_wp2_with fail;refine HC.out.mono ?_;rintro e w3 ⟨A3,c3,rfl,By,al⟩;have nQ:=hI.out.on al;have iW:=hI.out.lo;have L5:=zk hI.out.bx;have sn:=eS.out;have HM:=zH (HM.out.same (al.block _ (by omega)));have UZ:Own w3 (bw+1) (I A3 n c3) (T1 k):=by rw[<-dy];exact By.low (by omega)
   dsimp only;rw[dy];have BO:=zH nQ;have tl:=zH UZ;have Th:=zh nQ.bx 11 rfl;have hlx3:=zk nQ.bx;go_upto_region 11 with fail
   obtain⟨W4,tg,d4,iU,aP⟩:=zm w3 #[I A3 n c3] 50;have EN:=zH (BO.out.on aP);have HM:=zH (HM.out.same (aP.block _ (by omega)));have mS:=zH (tl.out.below aP (Ld _));have rW:=zH EN.out.own;have V9:bw+1<=W4.heap.size:=by omega
   have iI:=zH tg;clear BO tl tg aP
   go_wp2_with (at_builtin; go_must (rw [iI.out]; refine yI X3 rfl _ _ (by rfl) (bw + 1) (I AQ k cQ) k cs (by rfl) rW.out w3.heap.size #[I A3 n c3] (by rfl) d4 rfl (by simp [Value.oneCell']) (by omega) V9 _ rfl ?_); intro g' aH w5 dM cK sA pT
                have H':=(cK.block bw (zk EN.out.bx) (fun e=>by have:=(rW.out.lt bw e.symm).1;omega)).trans EN.out.bx;have u11:=zh H' 11 rfl;have f11:=zi H' 11;have HX5:=zH H';have HM:=zH (HM.out.same (cK.block _ (by have:=zk EN.out.bx;omega) (fun e=>by have:=(rW.out.lt _ e.symm).1;omega)));have ez:=zH dM;have iL:=zH cK
                clear H' dM cK sA pT)
   have U4:=Lk w5 bw 11 _ _ (I (J ⟨g',0,Z⟩) (k+1) aH) HX5.out;have hI6:=EN.out.push mS.out ez.out iL.out (W2:=w5.setCell ⟨bw,11,Z⟩ (I (J ⟨g',0,Z⟩) (k+1) aH)) (fun z hz=>Lf w5 ⟨bw,11,Z⟩ _ z hz) ((Li _ _).setCell (by show w.heap.size<=bw;omega) _) U4;have HI6:=zH hI6;have HM:=zH (HM.out.same (Lf w5 ⟨bw,11,Z⟩ (I (J ⟨g',0,Z⟩) (k+1) aH) w2.heap.size (by show ¬w2.heap.size=bw;omega)))
   go_roundw
   case rel=>exact⟨k+1,by omega,by go_num,_,_,_,HI6,HM⟩
   simp[Ap];omega
 obtain rfl:N=k:=by omega
 have ma:Aq (KwAt wr wr.heap.size bw n N T1):=by
  have hl:=zk hI.out.bx;obtain⟨A0,c0,e0,_,_,hf⟩:=hI.out.own.form
  cases e0
  obtain⟨g,rfl,_,hg,cN⟩:=hf (by have:=rt.out;omega);refine⟨hl,zh hI.out.bx 10 rfl,⟨g,0,cQ,zh hI.out.bx 11 rfl,hg,fun q hq=>?_⟩,oo.out⟩;obtain⟨A',c',e1,e2⟩:=hI.out.rows q hq;exact⟨A',c',by rw[LQ];exact cN q _ e1,own_on e2 (fun _ _ _=>rfl)⟩
 have Dl:=zH hI.out.below;have aY:=zH hI.out.bx;go_wp2_with fail
 go_ret2
 refine⟨Dl.out,bw,rfl,?_,w2.heap.size,hmw.out,HM.out,AQ,cQ,?_⟩
 . rw[ee.out,Lo]
   exact ma.out
 have h9:=aY.out;rw[ee.out] at h9 ⊢;rw[Lo];exact h9
theorem XW(s:Sy)(hs:LowS s)(hf:xu s.p)(A SV AV AX:Bb)(kc ks kv kx:Nat)(w:Ba)(hS:SyAt w w.heap.size A SV AV AX s) :
  An Al 75 #[.agg (s.vs_ A kc SV ks AV kv AX kx)] w (RetKw s w):=
 (vL s hs hf A SV AV AX kc ks kv kx w hS).mono fun e w' h=>by
  obtain⟨hb,h | ⟨h1,bw,h2,h3,_⟩⟩:=h
  . exact⟨hb,.inl h⟩
  . exact⟨hb,.inr ⟨h1,bw,h2,h3⟩⟩
end
section
theorem Xv:∀(a b:List Bool),a.length=b.length->(∀i,a.getD i Aw=Au->b.getD i Aw=Au)->a.count Au<=b.count Au/\(a≠b->a.count Au<b.count Au)
 | [],[],_,_=>⟨Ld _,fun h=>absurd rfl h⟩
 | x::a,y::b,hl,h=>by
  obtain⟨h1,h2⟩:=Xv a b (by simpa using hl) (fun i hi=>h (i+1) hi);have h0:=h 0;simp only[List.getD_cons_zero] at h0;simp only[List.count_cons]
  cases x with
  | false=>
   cases y with
   | false=>exact⟨by simpa using h1,fun bC=>by simpa using h2 (fun e=>bC (by rw[e]))⟩
   | true=>simp;omega
  | true=>
   rw[h0 rfl];exact⟨by simpa using h1,fun bC=>by have:=h2 (fun e=>bC (by rw[e]));simpa using this⟩
theorem xD{n:Nat}{a b:List Bool}(ha:a.length=n)(hb:b.length=n)(h:∀i,i<n->(a.getD i Aw=Au↔b.getD i Aw=Au)):a=b:=by
 refine Pn (by omega) fun i h1 h2=>?_
 have:=h i (by omega);rw[zw h1,zw h2] at this;exact N6.2 this
theorem stop_ex{n:Nat}{F:Nat->List Bool}(hl:∀m,(F m).length=n)(hd:∀m i,(F (m+1)).getD i Aw=Au->(F m).getD i Aw=Au):∃M,M<=n/\F (M+1)=F M/\∀m,m<M->F (m+1)≠F m:=by
 have key:∀k,(∀m,m<k->F (m+1)≠F m)->(F k).count Au+k<=n:=by
  intro k
  induction k with
  | zero=>intro _;have:=List.count_le_length (a:=Au) (l:=F 0);rw[hl] at this;omega
  | succ k ih=>
   intro h;have h1:=ih fun m hm=>h m (by omega)
   have h2:=(Xv (F (k+1)) (F k) (by rw[hl,hl]) (hd k)).2 (h k (by omega));omega
 have DV:∃m,F (m+1)=F m:=by
  refine N4 fun hn=>?_
  have:=key (n+1) fun m _ e=>hn ⟨m,e⟩
  omega
 obtain⟨m,hm⟩:=DV;obtain⟨M,_,h2,h3⟩:=least_of (p:=fun m=>F (m+1)=F m) m hm;exact⟨M,by have:=key M h3;omega,h2,h3⟩
def zR(n:Nat)(ev:List Bool->List Bool)(set:List Bool):Nat->List Bool
 | 0=>List.replicate n Au
 | m+1=>ev (qz n set (zR n ev set m))
theorem qa{n:Nat}{a b:List Bool}{i:Nat}(h:i<n):(qz n a b).getD i Aw=(a.getD i Aw&&b.getD i Aw):=by rw[zw (by rw[yN];exact h),ZD h]
section
variable {n:Nat} {aA:Nat->List Int} {ps:List Nat} {set:List Bool}
theorem qD:∀m,(zR n (evL n aA ps) set m).length=n
 | 0=>by simp[zR]
 | m+1=>jC _ _ _ _
theorem Jf{l:List Bool}{i:Nat}(h:l.length<=i):l.getD i Aw=Aw:=by rw[Lh,List.getElem?_eq_none h];rfl
theorem Jp{a b:List Bool}(h:∀i,i<n->a.getD i Aw=Au->b.getD i Aw=Au){i:Nat}(hi:i<n)(ha:(evL n aA ps a).getD i Aw=Au):(evL n aA ps b).getD i Aw=Au:=
 (ZA hi ps).2 fun p hp j hj e=>h j hj ((ZA hi ps).1 ha p hp j hj e)
theorem uc:∀m i,(zR n (evL n aA ps) set (m+1)).getD i Aw=Au->(zR n (evL n aA ps) set m).getD i Aw=Au
 | 0,i,h=>by
  by_cases hi:i<n
  . simp[zR,List.getD_eq_getElem?_getD,hi]
  . rw[Jf (by rw[qD];omega)] at h;cases h
 | m+1,i,h=>by
  by_cases hi:i<n
  . refine Jp (fun j hj hh=>?_) hi h
    rw[qa hj,LB] at hh ⊢;exact⟨hh.1,uc m j hh.2⟩
  . rw[Jf (by rw[qD];omega)] at h;cases h
variable {f:List Int}
end
end
section
open Go.RowKit
attribute [local go_sem] Oper.semAt_some
theorem Qa(A A':Bb)(cap aH:Nat)(vs us:List Bool)(w:Ba)(B:Nat)(_hB:B<=w.heap.size)(hA:BAt w B A vs)(nT:BAt w B A' us)(_hl:vs.length<=1000000)(FZ:us.length<=1000000) :
  An Al 28 #[I A vs.length cap,I A' us.length aH] w fun e w'=>e=Ak (Ah (decide (vs=us)))/\∃n,w'=w.drewN n:=by
 by_cases aN:vs.length=us.length
 . have HL:=zH aN
   have oR:((vs.length:Int) != (us.length:Int))=Aw:=by simp[aN]
   go_enter func28,ntmps28;go_wp2_with fail
   go_loopw [13] (fun i wr=>∃k m:Nat,k<=vs.length/\i=O U k/\wr=w.drewN m/\Aq (vs.take k=us.take k)) (fun i _=>vs.length-(Ap i).toNat)
   case atStart=>exact⟨0,0,by omega,rfl,rfl,by show vs.take 0=us.take 0;simp⟩
   obtain⟨k,m,hk,rfl,rfl,ax⟩:=hrel;have ed:k<=us.length:=by have:=HL.out;omega
   by_cases ac:k<vs.length
   . have dr:k<us.length:=by have:=HL.out;omega
     obtain⟨b,off,rfl,aQ,c0⟩:=hA.at_ k ac;obtain⟨b',ny,rfl,CG,d0⟩:=nT.at_ k dr
     by_cases hv:vs[k]=us[k]
     . have hz:Aq (vs.take (k+1)=us.take (k+1)):=wt ac dr ax.out hv
       obtain⟨x,hx⟩:=Kk (vs[k]);obtain⟨y,hy⟩:=Kk (us[k]);rw[hx] at c0 hv;rw[hy] at d0 hv;subst hv;go_wp2_with fail;go_quiet (fail);go_wp2_with fail
       go_roundw
       case rel=>exact⟨k+1,_,by omega,by go_num,rfl,hz⟩
       simp[Ap];omega
     have hz:Aq (decide (vs=us)=Aw):=Lu (km ac dr hv);obtain⟨x,hx⟩:=Kk (vs[k]);obtain⟨y,hy⟩:=Kk (us[k]);rw[hx] at c0 hv;rw[hy] at d0 hv;have q1:(x != y)=Au:=by simpa using hv
     have q2:(x==y)=Aw:=by simpa using hv
     clear hx hy hv;go_wp2_with fail;go_quiet (fail);go_wp2_with fail;go_ret;exact⟨zz hz.out.symm,_,drewN2 _ _ _⟩
   obtain rfl:k=vs.length:=by omega
   have hz:Aq (decide (vs=us)=Au):=Lw (kr HL.out ax.out);go_wp2_with fail;go_ret;exact⟨zz hz.out.symm,_,rfl⟩
 have hz:Aq (decide (vs=us)=Aw):=Lu (by rintro rfl;exact aN rfl);have oR:((vs.length:Int) != (us.length:Int))=Au:=by simp;omega
 go_enter func28,ntmps28;go_wp2_with fail;go_ret;exact⟨zz hz.out.symm,0,rfl⟩
end
section
open Go.RowKit Go.Shelf
attribute [local go_sem] Oper.semAt_some
def RetOp(s:Sy)(g:Int)(set:List Bool)(w:Ba)(e:Ending)(w':Ba):Prop:=Am w.heap.size w w'/\((yn s g set≠0/\e=Ak (.tuple #[Aj Z,O U (yn s g set)])) \/
 (yn s g set=0/\∃bw,e=Ak (.tuple #[Aj (J ⟨bw,0,Z⟩),O U 0])/\KwAt w' w'.heap.size bw (ptn s) s.n.toNat (yt s)))
def RetOpG(s:Sy)(g:Int)(set:List Bool)(A SV AV AX:Bb)(kc ks kv kx:Nat)(w:Ba)(e:Ending)(w':Ba):Prop:=Am w.heap.size w w'/\((yn s g set≠0/\e=Ak (.tuple #[Aj Z,O U (yn s g set)])) \/
 (yn s g set=0/\∃bw,e=Ak (.tuple #[Aj (J ⟨bw,0,Z⟩),O U 0])/\KwAt w' w'.heap.size bw (ptn s) s.n.toNat (yt s) /\
  ∃mb,w.heap.size<=mb/\MapOf (O U) w' mb 0 (fun _=>Z)/\∃AQ cQ,w'.heap[bw]?=J (Ag #[O U s.p.t.n,O U s.p.t.ins,O U s.p.t.outs,I A s.p.t.cases.length kc,O U s.p.a.n,I SV s.p.a.sts.length ks,O U s.p.k,O U s.n,I AV s.vs.length kv,I AX s.xs.length kx,O U (ptn s:Int),I AQ s.n.toNat cQ,.map (J mb)] 95 (0,0))))
theorem gU(s:Sy)(hs:LowS s)(hf:xu s.p)(g:Int)(set:List Bool)(A SV AV AX AB:Bb)(kc ks kv kx kb:Nat)(_GP:set.length<=1000000)(w:Ba)(hS:SyAt w w.heap.size A SV AV AX s) :
  An Al 39 #[.agg (s.vs_ A kc SV ks AV kv AX kx),O U g,I AB set.length kb] w (RetOpG s g set A SV AV AX kc ks kv kx w):=by
 obtain⟨w1,ae,d0,aw,hB⟩:=zm w (s.vs_ A kc SV ks AV kv AX kx) 39;have OE:=zH (vL s hs hf A SV AV AX kc ks kv kx w1 (hS.up hB))
 have di:Aq (zZ s≠0->yn s g set=zZ s):=fun h=>by
  have:yd s g=zZ s:=Lj h;unfold yn;rw[this,Lj h]
 have aq:Aq (zZ s=0->(∃N:Nat,s.n=(N:Int)/\1<=N/\N<=5/\((g<0\/(2:Int)^N<=g)->yn s g set=2)/\(¬(g<0\/(2:Int)^N<=g)->yn s g set=if set.length≠ptn s then 15 else 0))/\ptn s<=700):=fun h=>by
  obtain⟨_,K,N,hF⟩:=yG hf h;have hr:yd s g=if g<0\/(2:Int)^N<=g then 2 else 0:=by unfold yd;rw[Lg (by simpa using h),hF.n,Lo]
  have lJ:ptn s<=700:=by
   have hk:=hF.k;have DO:=hF.k6;have:=LV hF.lx (show K+1<=7 by omega);unfold ptn;rw[hk,Lo];omega
  refine⟨⟨N,hF.n,hF.n1,hF.n5,fun h2=>?_,fun h2=>?_⟩,lJ⟩
  . unfold yn;rw[hr,Lj h2];rfl
  . unfold yn;rw[hr,Lg h2,Lg (by simp)]
 unfold RetKwG at OE;unfold RetOpG;obtain⟨r,hr⟩:=Kk (zZ s);rw[hr] at OE di aq;obtain⟨E,hE⟩:=Kk (yn s g set);rw[hE] at di aq ⊢;obtain⟨n,hn⟩:=Kk (ptn s);rw[hn] at OE aq ⊢;unfold Sy.vs_ at ae d0 OE ⊢;have ak:=zH ae;have HB:=zH hB;have HD:=zH d0;clear ae d0 hB hS hr hs hf hn hE;go_enter func39,ntmps39;go_wp2_with fail;rw[ak.out];go_wp2_with fail;refine OE.out.mono ?_;rintro e w2 ⟨ah,ii⟩;have aT:=zH (HB.out.trans (ah.mono (by omega)));have HD:=zH (La ah HD.out);rcases ii with ⟨h0,rfl⟩ | ⟨rfl,bw,rfl,hK,mb,sn,lZ,AQ,cQ,ce⟩
 . have hR:Aq (E=r):=di.out h0
   go_wp2_with fail
   go_ret2
   rw[hR.out];exact⟨aT.out,.inl ⟨h0,rfl⟩⟩
 have BI:=zH (And.intro (show w.heap.size<=mb by omega) (And.intro lZ ce));obtain⟨⟨N,hN,MR,MO,dI,dp⟩,lJ⟩:=aq.out rfl;have O3:=zH dI;have nn:=zH dp;have ee:=zH hN;have HK:=zH hK;have z10:=hK.size
 have S9:(1:Int)<=(2:Int)^N/\(2:Int)^N<=32:=by
  obtain rfl | rfl | rfl | rfl | rfl:N=1\/N=2\/N=3\/N=4\/N=5:=by omega
  all_goals decide
 have Sq:IntKind.i64.wrap ((2:Int)^N)=(2:Int)^N:=by rw[Ll];omega
 have tM:min N 64=N:=by omega
 have q7:w2.cell? ⟨w.heap.size,7,Z⟩=J (O U (N:Int)):=by rw[<-ee.out];exact zh HD.out 7 rfl
 by_cases U5:g<0
 . have hR:Aq (E=2):=O3.out (.inl U5)
   go_wp2_with fail
   go_ret2
   rw[hR.out];exact⟨aT.out,.inl ⟨by decide,rfl⟩⟩
 by_cases hbig:(2:Int)^N<=g
 . have hR:Aq (E=2):=O3.out (.inr hbig)
   go_wp2_with fail
   go_ret2
   rw[hR.out];exact⟨aT.out,.inl ⟨by decide,rfl⟩⟩
 have Eg:=nn.out (by omega)
 by_cases aL:set.length=n
 . have hR:Aq (E=0):=by rw[Aq,Eg,Lg (by simpa using aL)]
   have rx:=zH aL;obtain⟨ln,rJ⟩:=Kk set.length;rw[rJ] at aL;subst aL;rw[rJ] at *;go_wp2_with fail
   go_ret2
   rw[hR.out];exact⟨aT.out,.inr ⟨rfl,bw,rfl,HK.out,mb,BI.out.1,BI.out.2.1,AQ,cQ,BI.out.2.2⟩⟩
 have hR:Aq (E=15):=by rw[Aq,Eg,Lj aL]
 have e3:((set.length:Int) != (n:Int))=Au:=by simp;omega
 go_wp2_with fail
 go_ret2
 rw[hR.out];exact⟨aT.out,.inl ⟨by decide,rfl⟩⟩
theorem Ye(s:Sy)(hs:LowS s)(hf:xu s.p)(g:Int)(set:List Bool)(A SV AV AX AB:Bb)(kc ks kv kx kb:Nat)(mz:set.length<=1000000)(w:Ba)(hS:SyAt w w.heap.size A SV AV AX s) :
  An Al 39 #[.agg (s.vs_ A kc SV ks AV kv AX kx),O U g,I AB set.length kb] w (RetOp s g set w):=
 (gU s hs hf g set A SV AV AX AB kc ks kv kx kb mz w hS).mono fun e w' h=>by
  obtain⟨hb,h | ⟨h1,bw,h2,h3,_⟩⟩:=h
  . exact⟨hb,.inl h⟩
  . exact⟨hb,.inr ⟨h1,bw,h2,h3⟩⟩
theorem Q1(bw n N:Nat)(aA:Nat->List Int)(h1:1<=n)(hn:n<=100000)(hN:N<=5)(G:Nat)(hG:G<32)(B:Bb)(cb:Nat)(set:List Bool)(hb:set.length=n)(M:Nat)(hMn:M<=n)(hM:zR n (evL n aA (yp G N)) set (M+1)=zR n (evL n aA (yp G N)) set M)(ac:∀m,m<M->zR n (evL n aA (yp G N)) set (m+1)≠zR n (evL n aA (yp G N)) set m)
  (w:Ba) (hK:KwAt w w.heap.size bw n N aA) (hB:BAt w w.heap.size B set) :
  An Al 123 #[Aj (J ⟨bw,0,Z⟩),O U (G:Int),I B n cb] w fun e w'=>∃g:Nat,e=Ak (.tuple #[I (J ⟨g,0,Z⟩) n n,O U (M:Int)])/\w.heap.size<=g/\BRow w' g (zR n (evL n aA (yp G N)) set M)/\Am w.heap.size w w':=by
 have HA:=zH (Q2 bw n N aA h1 hn w hK);have eD:=zH (fun (g:Nat) (x:List Bool) (hx:x.length=n) (X:Ba) (hX:Am w.heap.size w X) (hr:BRow X g x)=>vP bw n N aA h1 hn hN G hG (J ⟨g,0,Z⟩) n x hx X ((hK.keep hX).more hX.size) (hr.at_ hr.lt));have cP:=zH (fun (g:Nat) (x:List Bool) (hx:x.length=n) (X:Ba) (hX:Am w.heap.size w X) (hr:BRow X g x)=>Xm B (J ⟨g,0,Z⟩) cb n n hn set x hb hx X ((hB.keep hX).more hX.size) (hr.at_ hr.lt));have rx:Aq (∀m,(zR n (evL n aA (yp G N)) set m).length=n):=fun m=>qD m
 have en:Aq (∀m,evL n aA (yp G N) (qz n set (zR n (evL n aA (yp G N)) set m))=zR n (evL n aA (yp G N)) set (m+1)):=fun _=>rfl
 have HM:=zH hM;have EL:=zH ac;unfold RetB at HA eD cP;rw[LU] at HA;simp only[jC] at eD;simp only[yN] at cP;have Em:Aq (zR n (evL n aA (yp G N)) set 0=List.replicate n Au):=rfl;obtain⟨F,hF⟩:=Kk (zR n (evL n aA (yp G N)) set);rw[hF] at rx en HM EL Em ⊢;go_enter func123,ntmps123;go_wp2_with fail;refine HA.out.mono ?_;rintro e w2 ⟨g2,rfl,mC,iC,ah⟩;have dH:Aq (BRow w2 g2 (F 0)):=by rw[Em.out];exact iC
 have aT:=zH ah;go_wp2_with fail
 go_loopw [8,9] (fun o i wr=>∃k g:Nat,k<=M/\i=O U (k:Int)/\o=I (J ⟨g,0,Z⟩) n n/\w.heap.size<=g/\Aq (BRow wr g (F k))/\Aq (Am w.heap.size w wr)) (fun _ i _=>M+1-(Ap i).toNat)
 case atStart=>exact⟨0,g2,by omega,rfl,rfl,mC,dH,aT⟩
 obtain⟨k,g,hk,rfl,rfl,hg,hr,aO⟩:=hrel;have Id:=aO.out.size;have HC:=zH (cP.out g (F k) (rx.out k) wr aO.out hr.out);go_wp2_with fail;refine HC.out.mono ?_;rintro e w3 ⟨g3,rfl,Gd,mK,al⟩;have nm:Aq (BRow w3 g (F k)):=Lb al hr.out.lt hr.out;have bK:=zH (aO.out.trans (al.mono Id));have dV:=zH (eD.out g3 _ (yN _ _ _) w3 bK.out mK);simp only[en.out] at dV;go_wp2_with fail;refine dV.out.mono ?_;rintro e w4 ⟨g4,rfl,It,sV,aP⟩;have rW:=zH sV;have ez:Aq (BRow w4 g (F k)):=Lb aP nm.out.lt nm.out;have fK:=zH (Lc bK.out aP);have py:=Qa (J ⟨g4,0,Z⟩) (J ⟨g,0,Z⟩) n n (F (k+1)) (F k) w4 w4.heap.size (Ld _) (rW.out.at_ rW.out.lt) (ez.out.at_ ez.out.lt) (by rw[rx.out];omega) (by rw[rx.out];omega);rw[rx.out,rx.out] at py;have ES:=zH py;have Gc:w.heap.size<=g4:=by have:=bK.out.size;omega
 go_wp2_with fail;refine ES.out.mono ?_;rintro e w5 ⟨rfl,q,rfl⟩;have aK:=zH (fK.out.trans (yv (Li _ _) q));have EJ:Aq (BRow (w4.drewN q) g4 (F (k+1))):=rW.out;have EI:Aq (BRow (w4.drewN q) g (F k)):=ez.out;obtain⟨w5,eU⟩:=Kk (w4.drewN q);rw[eU] at aK EJ EI ⊢
 by_cases iA:F (k+1)=F k
 · have hkM : k = M := by
    refine N4 fun bC=>?_
    exact EL.out k (by omega) iA
   subst hkM;have e0:decide (F (k+1)=F k)=Au:=Lw iA;rw[e0];go_wp2_with fail
   go_ret2
   exact⟨g,rfl,hg,EI.out,aK.out⟩
 have hkM : k < M := by
  refine N4 fun bC=>?_
  have:k=M:=by omega
  subst this;exact iA HM.out
 have e0:decide (F (k+1)=F k)=Aw:=Lu iA;rw[e0];go_wp2_with fail
 go_roundw
 case rel=>exact⟨k+1,g4,by omega,by go_num,rfl,Gc,EJ,aK⟩
 simp[Ap];omega
end
section
open Go.RowKit
attribute [local go_sem] Oper.semAt_some
theorem uP{S:Nat->Prop}{W:Ba}{b:Nat}{xs:List Int}{t:TypeId}(hS:S b)(h:W.heap[b]?=J (Ag ((xs.map (O U)).toArray) t (0,0))):IAtS S W (J ⟨b,0,Z⟩) xs:=fun _=>
 ⟨b,0,rfl,hS,zk h,fun i hi=>by rw[LQ];exact zh h i (by simp[hi])⟩
theorem QZ{S:Nat->Prop}{W:Ba}{b:Nat}{v:List Int}{A:Bb}{c:Nat}{t:TypeId}(hS:S b)(h:W.heap[b]?=J (Ag #[I A v.length c] t (0,0)))(h2:IAtS S W A v):LAtS S W (J ⟨b,0,Z⟩) [v]:=fun _=>
 ⟨b,0,rfl,hS,zk h,fun i hi=>by
  obtain rfl:i=0:=by simpa using hi
  exact⟨A,c,zh h 0 rfl,h2⟩⟩
end
section
open Go.RowKit Go.Shelf
attribute [local go_sem] Oper.semAt_some
def evG(s:Sy)(g:Int):List Bool->List Bool:=evL (ptn s) (yt s) (psG s g)
def RetCo(s:Sy)(g:Int)(set:List Bool)(w:Ba)(e:Ending)(w':Ba):Prop:=Am w.heap.size w w'/\((yn s g set≠0/\e=Ak (.tuple #[I Z 0 0,O U 0,O U (yn s g set)])) \/
 (yn s g set=0/\∃(M gr:Nat),e=Ak (.tuple #[I (J ⟨gr,0,Z⟩) (ptn s) (ptn s),O U (M:Int),O U 0])/\M<=ptn s/\zR (ptn s) (evG s g) set (M+1)=zR (ptn s) (evG s g) set M/\(∀m,m<M->zR (ptn s) (evG s g) set (m+1)≠zR (ptn s) (evG s g) set m)/\w.heap.size<=gr/\BRow w' gr (zR (ptn s) (evG s g) set M)))
theorem jX{s:Sy}{g:Int}{set:List Bool}(hf:xu s.p)(h:yn s g set=0):∃G:Nat,g=(G:Int)/\G<32/\s.n.toNat<=5/\1<=ptn s/\ptn s<=700/\set.length=ptn s/\psG s g=yp G s.n.toNat:=by
 obtain⟨h1,h2⟩:=Yu h;obtain⟨hv,su,lK⟩:=uG h1;obtain⟨_,K,N,hF⟩:=yG hf hv;obtain⟨f1,f2,_⟩:=wC hf h1;obtain⟨G,rfl⟩:=Ls su;have hN:s.n.toNat=N:=by rw[hF.n];rfl
 have lp:=hF.n5;refine⟨G,rfl,?_,by omega,f1,f2,h2,rfl⟩;rw[hN] at lK;have:=Nk (n:=2) (show 0<2 by omega) lp;have h2':((2^N:Nat):Int)=(2:Int)^N:=by push_cast;rfl
 omega
theorem Q4(s:Sy)(hs:LowS s)(hf:xu s.p)(g:Int)(set:List Bool)(A SV AV AX AB:Bb)(kc ks kv kx kb:Nat)(mz:set.length<=1000000)(w:Ba)(hS:SyAt w w.heap.size A SV AV AX s)(dl:BAt w w.heap.size AB set) :
  An Al 74 #[.agg (s.vs_ A kc SV ks AV kv AX kx),O U g,I AB set.length kb] w (RetCo s g set w):=by
 obtain⟨w1,ae,d0,aw,hB⟩:=zm w (s.vs_ A kc SV ks AV kv AX kx) 39;have HO:=zH (Ye s hs hf g set A SV AV AX AB kc ks kv kx kb mz w1 (hS.up hB));have mT:Aq (∀X,Am w1.heap.size w1 X->BAt X X.heap.size AB set):=fun X hX=>(((dl.keep hB).more hB.size).keep hX).more hX.size
 have HC:Aq (yn s g set=0->∃(G M:Nat),g=(G:Int)/\M<=ptn s/\zR (ptn s) (evG s g) set (M+1)=zR (ptn s) (evG s g) set M/\(∀m,m<M->zR (ptn s) (evG s g) set (m+1)≠zR (ptn s) (evG s g) set m)/\set.length=ptn s /\
   ∀(bw:Nat) (X:Ba),Am w1.heap.size w1 X->KwAt X X.heap.size bw (ptn s) s.n.toNat (yt s)->An Al 123 #[Aj (J ⟨bw,0,Z⟩),O U (G:Int),I AB (ptn s) kb] X fun e w'=>∃g':Nat,e=Ak (.tuple #[I (J ⟨g',0,Z⟩) (ptn s) (ptn s),O U (M:Int)])/\X.heap.size<=g'/\BRow w' g' (zR (ptn s) (evG s g) set M)/\Am X.heap.size X w'):=fun h=>by
  obtain⟨G,hg,hG,hN,dG,oC,hl,fW⟩:=jX hf h;obtain⟨M,m1,m2,m3⟩:=stop_ex (F:=zR (ptn s) (evL (ptn s) (yt s) (psG s g)) set) qD uc;refine⟨G,M,hg,m1,m2,m3,hl,fun bw X hX hK=>?_⟩;unfold evG;rw[fW] at m2 m3 ⊢;exact Q1 bw (ptn s) s.n.toNat (yt s) dG (by omega) hN G hG AB kb set hl M m1 m2 m3 X hK (mT.out X hX)
 unfold RetOp at HO;unfold RetCo;obtain⟨E,hE⟩:=Kk (yn s g set);rw[hE] at HO HC ⊢;obtain⟨n,hn⟩:=Kk (ptn s);rw[hn] at HO HC ⊢;unfold Sy.vs_ at ae d0 HO ⊢;have ak:=zH ae;have HB:=zH hB;clear ae d0 hB hS dl hs hf hE mT hn;go_enter func74,ntmps74;go_wp2_with fail;rw[ak.out];go_wp2_with fail;refine HO.out.mono ?_;rintro e w2 ⟨ah,ii⟩;have aT:=zH ah;rcases ii with ⟨h0,rfl⟩ | ⟨rfl,bw,rfl,hK⟩
 . have e0:(E != 0)=Au:=by simpa using h0
   go_wp2_with fail
   go_ret3
   exact⟨Lc HB.out aT.out,.inl ⟨h0,rfl⟩⟩
 obtain⟨G,M,rfl,m1,m2,m3,hl,hc⟩:=HC.out rfl;have BQ:=zH (hc bw w2 aT.out hK);have HM:=zH (And.intro m1 (And.intro m2 m3));rw[hl];go_wp2_with fail;refine BQ.out.mono ?_;rintro e w3 ⟨g3,rfl,Gd,mK,al⟩;have nm:=zH mK;have bK:=zH (HB.out.trans ((Lc aT.out al).mono HB.out.size));have sr:w.heap.size<=g3:=by have:=HB.out.size;have:=aT.out.size;omega
 go_wp2_with fail
 go_ret3
 exact⟨bK.out,M,g3,rfl,HM.out.1,HM.out.2.1,HM.out.2.2,sr,nm.out⟩
end
section
open Go.RowKit
structure K5 where
 a:Int
 b:Int
 c:Int
 d:Int
 e:Int
deriving DecidableEq
def k5C(x:K5):Array Ar:=#[O U x.a,O U x.b,O U x.c,O U x.d,O U x.e]
def k5E(x:K5):Ar:=.agg (k5C x)
theorem k5_inj(a b:K5)(h:k5E a=k5E b):a=b:=by
 unfold k5E k5C at h;injection h with h
 obtain⟨a0,a1,a2,a3,a4⟩:=a;obtain⟨b0,b1,b2,b3,b4⟩:=b;simpa using h
open Classical in
theorem X4:KeyOk Al 72 k5E where
 inj:=k5_inj
 check:=fun w em v=>Xy w em _ v.a v.b v.c v.d v.e
 equal:=fun w a b=>by
  unfold Op.equal Op.maxDepth k5E k5C;rw[gd _ ⟨0,0,0,a.a,a.b,a.c,a.d,a.e⟩ ⟨0,0,0,b.a,b.b,b.c,b.d,b.e⟩ w]
  by_cases h:a=b
  . subst h;simp[hE]
  . have:¬(k5E a=k5E b):=fun e=>h (k5_inj a b e)
    unfold k5E k5C at this;rw[Lu this];obtain⟨a0,a1,a2,a3,a4⟩:=a;obtain⟨b0,b1,b2,b3,b4⟩:=b;simpa[hE] using h
 now:=fun d hd=>.inr fun a b=>by
  rw[Pj] at hd
  cases hd
  simp[Instr.sameNow]
 stays:=fun a=>by simp[Instr.sameBits,k5E,k5C]
 kind:=⟨_,Pj⟩
end
section
open Go.RowKit Go.Shelf
section
variable {κ:Type} [DecidableEq κ] {enc:κ->Ar}
def nuG(l:List κ):κ->Option Ar:=fun k=>if k∈l then J (O U (l.idxOf k:Int)) else Z
theorem nuG_nil:nuG ([]:List κ)=fun _=>Z:=by funext k;simp[nuG]
theorem nuG_put{l:List κ}{k:κ}(h:k∉l):ql (nuG l) k (O U (l.length:Int))=nuG (l++[k]):=by
 funext x
 unfold ql nuG
 by_cases e:x=k
 . subst e
   rw[Lj rfl,Lj (by simp),NA,Lg h];simp
 rw[Lg e]
 by_cases hx:x∈l
 . rw[Lj hx,Lj (by simp[hx]),NA,Lj hx]
 rw[Lg hx,Lg (by simp[hx,e])]
theorem nuG_count{w:Ba}{b n:Nat}{us:List κ}(inj:∀a b,enc a=enc b->a=b)(h:MapOf enc w b n (nuG us))(hu:us.Nodup):∃es cm,w.heap[b]?=J (.map es cm)/\es.size=us.length:=
 h.count inj hu (fun k=>by
  unfold nuG
  by_cases hk:k∈us
  . simp[hk]
  . simp[hk])
end
structure NkIn{κ:Type}[DecidableEq κ](enc:κ->Ar)(FT MT:TypeId)(B:Nat)(S:Array Ar)(F:Ar)(R:Nat->Prop)(us:List κ)(ls:List Int)(w W:Ba):Prop where
 wrote:Wrote R w W
 b0:W.heap[B]?=J (Ag S 39 (0,0))
 b1:W.heap[B+1]?=J (Ag #[F] FT (0,0))
 b3:W.heap[B+1+1+1]?=J (Ag #[.map (J (B+1+1))] MT (0,0))
 b5:W.heap[B+1+1+1+1+1]?=J (Ag S 39 (0,0))
 hm:∃m,MapOf enc W (B+1+1) m (nuG us)
 box:∃P c,W.heap[B+1+1+1+1]?=J (Ag #[I P ls.length c] 50 (0,0))/\Own W (B+6) (I P ls.length c) ls
 sz:B+6<=W.heap.size
section
variable {B:Nat} {S:Array Ar} {F:Ar} {R:Nat->Prop} {κ:Type} [DecidableEq κ] {enc:κ->Ar} {FT MT:TypeId} {us:List κ} {ls:List Int} {w W W':Ba}
theorem NkIn.turn{row:Option Nat}(h:NkIn enc FT MT B S F R us ls w W)(hw:w.heap.size<=B)(hg:W.grownBy W' row)(hr:∀r,row=J r->B+6<=r/\∃o:Obj,W.heap[r]?=J o/\o.isCells=Aw):NkIn enc FT MT B S F R us ls w W':=by
 obtain⟨P,c,hb,ho⟩:=h.box;obtain⟨m,hm⟩:=h.hm;have bL:=h.sz;have old:∀k,k<B+6->W'.heap[k]?=W.heap[k]?:=fun k hk=>hg.block k (by omega) (fun e=>by have:=(hr k e.symm).1;omega)
 refine⟨h.wrote.trans (Wrote.of_grown (R:=fun k=>w.heap.size<=k) hg (fun k e hk=>by have:=(hr k e).1;omega)) (fun k h1 h2=>by omega),(old B (by omega)).trans h.b0,(old _ (by omega)).trans h.b1,(old _ (by omega)).trans h.b3,(old _ (by omega)).trans h.b5,⟨m,hm.same (old _ (by omega))⟩,⟨P,c,(old _ (by omega)).trans hb,ho.kept hg ?_⟩,Lr bL hg.size⟩;rcases e:(I P ls.length c).ownBlock with _ | g
 . exact .inl rfl
 refine .inr fun e2=>?_
 obtain⟨o,h1,h2⟩:=(hr g e2.symm).2;have:=(vj ho g e).2 o h1;rw[this] at h2;cases h2
theorem NkIn.call(h:NkIn enc FT MT B S F R us ls w W)(hw:Wrote R W W')(hR:∀k,R k->k<B):NkIn enc FT MT B S F R us ls w W':=by
 obtain⟨P,c,hb,ho⟩:=h.box;obtain⟨m,hm⟩:=h.hm;have bL:=h.sz;have old:∀k,B<=k->k<W.heap.size->W'.heap[k]?=W.heap[k]?:=fun k hk hl=>hw.block k hl (fun e=>by have:=hR k e;omega)
 exact⟨h.wrote.trans hw (fun _ _ h=>h),(old B (by omega) (by omega)).trans h.b0,(old _ (by omega) (by omega)).trans h.b1,(old _ (by omega) (by omega)).trans h.b3,(old _ (by omega) (by omega)).trans h.b5,⟨m,hm.same (old _ (by omega) (by omega))⟩,⟨P,c,(old _ (by omega) (by omega)).trans hb,ho.same fun k hk hl=>old k (by omega) hl⟩,Lr bL hw.size⟩
theorem NkIn.put{I':List κ}{m:Nat}(h:NkIn enc FT MT B S F R us ls w W)(hw:w.heap.size<=B)(hg:W.grownBy W' (J (B+1+1)))(hm:MapOf enc W' (B+1+1) m (nuG I')):NkIn enc FT MT B S F R I' ls w W':=by
 obtain⟨P,c,hb,ho⟩:=h.box;have bL:=h.sz;have old:∀k,k<W.heap.size->k≠B+1+1->W'.heap[k]?=W.heap[k]?:=fun k hk hl=>hg.block k hk (fun e=>hl (by cases e;rfl))
 exact⟨h.wrote.trans (Wrote.of_grown (R:=fun k=>w.heap.size<=k) hg (fun k e hk=>by cases e;omega)) (fun k h1 h2=>by omega),(old B (by omega) (by omega)).trans h.b0,(old _ (by omega) (by omega)).trans h.b1,(old _ (by omega) (by omega)).trans h.b3,(old _ (by omega) (by omega)).trans h.b5,⟨m,hm⟩,⟨P,c,(old _ (by omega) (by omega)).trans hb,ho.same fun k hk hl=>old k hl (by omega)⟩,Lr bL hg.size⟩
theorem NkIn.push{P P2:Bb}{c c2:Nat}{u:Int}{W1:Ba}(h:NkIn enc FT MT B S F R us ls w W)(hw:w.heap.size<=B)(hb:W.heap[B+1+1+1+1]?=J (Ag #[I P ls.length c] 50 (0,0)))(ho:Own W (B+6) (I P ls.length c) ls)
  (pR:Own W1 (B+6) (I P2 (ls.length+1) c2) (ls++[u])) (hg:W.grownBy W1 (I P ls.length c).ownBlock) :
  NkIn enc FT MT B S F R us (ls++[u]) w (W1.setCell ⟨B+1+1+1+1,0,Z⟩ (I P2 (ls.length+1) c2)):=by
 obtain⟨m,hm⟩:=h.hm;have bL:=h.sz;have iW:=ho.lt;have aw:=hg.size;have tw:∀k,k<B+6->W1.heap[k]?=W.heap[k]?:=fun k hk=>hg.block k (by omega) (fun e=>by have:=(iW k e.symm).1;omega)
 have aQ:=(tw _ (by omega)).trans hb;obtain⟨x1,x2,x3⟩:=qK aQ (I P2 (ls.length+1) c2);have old:∀k,k<B+6->k≠B+1+1+1+1->(W1.setCell ⟨B+1+1+1+1,0,Z⟩ (I P2 (ls.length+1) c2)).heap[k]?=W.heap[k]?:=fun k hk bC=>(x3 k bC).trans (tw k hk)
 refine⟨?_,(old B (by omega) (by omega)).trans h.b0,(old _ (by omega) (by omega)).trans h.b1,(old _ (by omega) (by omega)).trans h.b3,(old _ (by omega) (by omega)).trans h.b5,⟨m,hm.same (old _ (by omega) (by omega))⟩,⟨P2,c2,by rw[Lv];exact x1,by rw[Lv];exact pR.same fun k hk _=>x3 k (by omega)⟩,by rw[show(W1.setCell ⟨B+1+1+1+1,0,Z⟩ (I P2 (ls.length+1) c2)).heap.size=W1.heap.size by simp[World.setCell]];omega⟩;have a1:Wrote (fun k=>w.heap.size<=k) W W1:=Wrote.of_grown hg (fun k e hk=>by have:=(iW k e).1;omega);have a2:Wrote (fun k=>w.heap.size<=k) W1 (W1.setCell ⟨B+1+1+1+1,0,Z⟩ (I P2 (ls.length+1) c2)):=Wrote.of_grown (zQ W1 _ 0 _) (fun k e hk=>by cases e;omega);exact h.wrote.trans (a1.trans a2 (fun _ _ h=>h)) (fun k h1 h2=>by omega)
theorem NkIn.keeps{P:Bb}{c:Nat}{W1:Ba}(h:NkIn enc FT MT B S F R us ls w W)(hb:W.heap[B+1+1+1+1]?=J (Ag #[I P ls.length c] 50 (0,0)))(ho:Own W (B+6) (I P ls.length c) ls)
  (hg:W.grownBy W1 (I P ls.length c).ownBlock) (v:Ar):KeepsFrom (B+6) W (W1.setCell ⟨B+1+1+1+1,0,Z⟩ v)/\KeepB (fun k=>k=B+1+1+1+1+1) W (W1.setCell ⟨B+1+1+1+1,0,Z⟩ v):=by
 have iW:=ho.lt;have bL:=h.sz;have aw:=hg.size;have aQ:=(hg.block (B+1+1+1+1) (by omega) (fun e=>by have:=(iW _ e.symm).1;omega)).trans hb;obtain⟨x1,x2,x3⟩:=qK aQ v;refine⟨⟨by simp[World.setCell];omega,fun k o hk aW pR=>?_⟩,⟨by simp[World.setCell];omega,fun k hk hl=>?_⟩⟩
 . refine(x3 k (by omega)).trans ((hg.block k (zk aW) (fun e=>?_)).trans aW)
   have:=(vj ho k e.symm).2 o aW;rw[this] at pR;cases pR
 subst hk;exact(x3 _ (by omega)).trans (hg.block _ (by omega) (fun e=>by have:=(iW _ e.symm).1;omega))
end
end
section
open Go.RowKit Go.Shelf
attribute [local go_sem] Oper.semAt_some
theorem YR(s:Sy)(K M:Nat)(hK:K<=100)(hM:M<=100)(hk:s.p.k=(K:Int))(hx:s.xs.length=M)(A SV AV AX:Bb)(kc ks kv kx:Nat)(kf:Nat)(kb:Array Ar)(ek:Enters Al kf)(key:Nat×Nat->K5)
  (R:Nat->Prop) (Af:Ba->Prop) (w:Ba) (hR:∀k,R k->k<w.heap.size) (la:Af w) (hJ:∀W W',Af W->Wrote (fun k=>w.heap.size<=k) W W'->Af W')
  (tU:∀x∈zu (K+1) 0 M,∀W,Af W->w.heap.size<=W.heap.size->An Al kf (#[Ai #[O U x.1,O U x.2]]++kb) W fun e w'=>e=Ak (k5E (key x))/\Af w'/\Wrote R W w') :
  An Al 164 #[.agg (s.vs_ A kc SV ks AV kv AX kx),.func (.func kf) #[] kb] w fun e w'=>∃v,e=Ak v/\Own w' w.heap.size v (qg ((zu (K+1) 0 M).map key))/\Af w'/\Wrote R w w':=by
 have hC:PtC (s.vs_ A kc SV ks AV kv AX kx) K M AX kx:=⟨by unfold Sy.vs_;rw[<-hk];rfl,by unfold Sy.vs_;rw[<-hx];rfl⟩
 have aL:(zu (K+1) 0 M).length<=20000:=by
  rw[kE (K+1) M (by omega)];exact Lr (LV hM (show K+1<=101 by omega)) (by decide)
 have ib:=zH (fun (bs:Nat) (W:Ba) (hb:W.heap[bs]?=J (Ag (s.vs_ A kc SV ks AV kv AX kx) 39 (0,0)))=>gq (s.vs_ A kc SV ks AV kv AX kx) K M hK hM AX kx hC bs W hb);have EW:=zH (fun (W:Ba)=>Qd s A SV AV AX kc ks kv kx W);have AZ:=zH tU;have HJ:=zH hJ;have HJ0:=zH la;have hz:∀W:Ba,(zeroValue 3).run Al W=.ok (O U 0) W:=fun W=>by kernel_rfl
 have ht:Al.underlying 249=J (.map 72 3):=underlying249;have lZ:=@run_makeMap Al;obtain⟨L,hL⟩:=Kk (zu (K+1) 0 M);rw[hL] at ib AZ aL ⊢;unfold Sy.vs_ at ib EW ⊢;clear tU hJ la hL hC hk hx;refine yr func164 rfl ?_;simp only[ntmps164,List.size_toArray,List.length_cons,List.length_nil,Nat.reduceAdd,Nat.reduceSub,Array.replicate_succ,Array.replicate_zero,List.push_toArray,List.append_toArray,List.nil_append,List.cons_append];go_wp2_with fail;refine(EW.out _).mono ?_;rintro e w2 ⟨rfl,aC⟩;obtain⟨S,hS⟩:∃S,S=#[O U s.p.t.n,O U s.p.t.ins,O U s.p.t.outs,I A s.p.t.cases.length kc,O U s.p.a.n,I SV s.p.a.sts.length ks,O U s.p.k,O U s.n,I AV s.vs.length kv,I AX s.xs.length kx]:=⟨_,rfl⟩;rw[<-hS] at aC ib
 have GC:NkIn k5E 239 249 w.heap.size S (.func (.func kf) #[] kb) R [] [] w w2/\Wrote (fun k=>w.heap.size<=k) w w2:=by
  obtain⟨a1,h1,x1,y1,z1⟩:=zm w S 39;rw[h1] at aC;obtain⟨a2,h2,x2,y2,z2⟩:=zm a1 #[.func (.func kf) #[] kb] 239;rw[h2] at aC;obtain⟨a3,h3⟩:=Kk (a2.alloc (.map #[] 0));have m3:MapOf k5E a3 a2.heap.size 0 (fun _=>Z):=by rw[<-h3];exact MapOf.made a2
  have y3:a3.heap.size=a2.heap.size+1:=by rw[<-h3];simp
  have z3:Am a2.heap.size a2 a3:=by rw[<-h3];exact zU _ _
  rw[h3] at aC;obtain⟨a4,h4,x4,y4,z4⟩:=zm a3 #[.map (J (w.heap.size+1+1))] 249;rw[h4] at aC;obtain⟨a5,h5,x5,y5,z5⟩:=zm a4 #[I Z 0 0] 50;rw[h5] at aC;obtain⟨a6,h6,x6,y6,z6⟩:=zm a5 S 39;rw[h6] at aC;subst aC;rw[y1] at x2 y2;rw[y2] at m3 y3;rw[y3] at x4 y4;rw[y4] at x5 y5;rw[y5] at x6 y6
  have w1:Wrote (fun k=>w.heap.size<=k) w a6:=by
   have b1:=(Wrote.of_below (R:=fun k=>w.heap.size<=k) z1).trans (Wrote.of_below (R:=fun k=>w.heap.size<=k) z2) (fun _ _ h=>h);have b2:=(b1.trans (Wrote.of_below (R:=fun k=>w.heap.size<=k) z3) (fun _ _ h=>h)).trans (Wrote.of_below (R:=fun k=>w.heap.size<=k) z4) (fun _ _ h=>h);exact((b2.trans (Wrote.of_below (R:=fun k=>w.heap.size<=k) z5) (fun _ _ h=>h)).trans (Wrote.of_below (R:=fun k=>w.heap.size<=k) z6) (fun _ _ h=>h))
  refine⟨⟨w1.more (fun k h1 h2=>by omega),?_,?_,?_,x6,⟨0,?_⟩,⟨Z,0,?_,Own.nil _ _⟩,by omega⟩,w1⟩
  . exact Lb z6 (by omega) (Lb z5 (by omega) (Lb z4 (by omega) (Lb z3 (by omega) (Lb z2 (by omega) x1))))
  . exact Lb z6 (by omega) (Lb z5 (by omega) (Lb z4 (by omega) (Lb z3 (by omega) x2)))
  . exact Lb z6 (by omega) (Lb z5 (by omega) x4)
  . rw[nuG_nil]
    exact m3.same (Lb z6 (by omega) (Lb z5 (by omega) (z4.block _ (by omega))))
  exact Lb z6 (by omega) x5
 have eZ:w2.heap.size=w.heap.size+6:=by rw[<-aC];simp
 have IW:Aq (Af w2):=HJ.out w w2 HJ0.out GC.2;have Hh:=zH (ib.out (w.heap.size+1+1+1+1+1) w2 GC.1.b5);have HN:=zH GC.1;go_wp2_with fail
 refine kR rfl (NC RZ (by kernel_rfl) rfl) Hh.out (by rintro x rfl;omega) (fun _=>rfl)
  (fun (pre:List { x:Nat×Nat // x∈L }) (X:Ba)=>NkIn k5E 239 249 w.heap.size S (.func (.func kf) #[] kb) R (xT (pre.map fun x=>key x.1)) (qg (pre.map fun x=>key x.1)) w X/\Af X)
  (fun _ _ _=>False)
  ?hI (fun _ _ _ _ _ h _ _=>h)
  ⟨HN.out,IW.out⟩ (fun x=>#[O U x.1,O U x.2]) 178 ?a1 ?assign ?body ?done ?stop (fun _ _ h=>by have:=h.1.sz;omega)
 case hI=>
  intro pre X X' row hX hg hr;refine⟨hX.1.turn (Ld _) hg (fun r e=>⟨by have:=(hr r e).1;omega,(hr r e).2⟩),HJ.out X X' hX.2 (Wrote.of_grown hg fun k e hk=>by have:=(hr k e).1;omega)⟩
 case assign=>
  intro l pre x X K' hI hK;obtain⟨g',nK⟩:∃g',g'=X.heap.size:=⟨_,rfl⟩;have HK:=zH (hK g' nK ⟨hI.1.turn (Ld _) (row:=Z) ⟨rfl,rfl,rfl,by simp,fun k hk _=>NP X _ k hk⟩ (fun r e=>by cases e),HJ.out X _ hI.2 (Wrote.of_below (zU X _))⟩);have HG:=zH nK;gi_wp2;rw[<-HG.out];exact HK.out
 case body=>
  intro l pre x g W3 hg lr hI ac;obtain⟨us,lX⟩:∃us,xT (pre.map fun x=>key x.1)=us:=⟨_,rfl⟩;obtain⟨ls,FW⟩:∃ls,qg (pre.map fun x=>key x.1)=ls:=⟨_,rfl⟩;have aN:ls.length<=20000:=by rw[<-FW,qF,LM];omega
  have Ib:us.Nodup:=by rw[<-lX];exact gV _
  obtain⟨kk,tT⟩:=Kk (key x.1);have FB:xT ((pre++[x]).map fun x=>key x.1)=kV us kk:=by rw[LK,L4,Nr,vT,lX,tT]
  have FV:qg ((pre++[x]).map fun x=>key x.1)=ls++[if kk∈us then (us.idxOf kk:Int) else (us.length:Int)]:=by
   rw[LK,L4,Nr,Xk,lX,FW,tT]
   congr 2
   by_cases h:kk∈us
   . rw[Lj h,Lj (xr.1 (lX▸h))]
   rw[Lg h,Lg (fun e=>h (lX▸xr.2 e))]
  rw[lX,FW] at hI;have aJ:=AZ.out x.1 x.2 W3 hI.2 (by have:=hI.1.sz;omega);rw[tT] at aJ;have HC:=zH aJ;have Da:=zH hI.1;have rm:=zH FB;have ns:=zH FV;have IN:=zH Ib;have q1:=zh hI.1.b1 0 rfl;obtain⟨g0,g1,_⟩:=Ke lr;gi_wp2_with fail;refine⟨trivial,?_⟩;rw[ek];refine⟨fun _=>by omega,(Sh l ((RW (n:=6)).2 HC.out)).mono ?_⟩;rintro e W4 ⟨rfl,IG,ip⟩;have U6:=Da.out.call ip hR;obtain⟨nW,sB,d8,nc,du⟩:=zm W4 (k5C kk) 72;have px:W4.grownBy nW Z:=by rw[<-sB];exact⟨rfl,rfl,rfl,by simp,fun k hk _=>NP W4 _ k hk⟩
  have oe:=zH (U6.turn (Ld _) px (fun r e=>by cases e));have IG:=HJ.out W4 nW IG (Wrote.of_below du);have OO:=zH IG
  have ip:Aq (KeepsFrom w2.heap.size W3 nW/\KeepB (fun k=>k=w.heap.size+1+1+1+1+1) W3 nW):=by
   have hz4:=ip.size;refine⟨⟨by omega,fun k o hk aW _=>(du.block k (by have:=zk aW;omega)).trans ((ip.block k (zk aW) (fun e=>by have:=hR k e;omega)).trans aW)⟩,⟨by omega,fun k hk hl=>(du.block k (by omega)).trans (ip.block k hl (fun e=>by have:=hR k e;subst hk;omega))⟩⟩
  have iI:=ip;have TM:=zH d8;have HWW:=zH sB;have Mb:=zk d8;unfold k5C at sB d8;have Io:k5E kk=Ai #[O U kk.a,O U kk.b,O U kk.c,O U kk.d,O U kk.e]:=rfl;have pg:=zH Io;rw[Io];obtain⟨v0,v1,v2,v3,v4,_⟩:=Kh d8;have hz34:w.heap.size+6<=W4.heap.size:=U6.sz;have q3:=zh oe.out.b3 0 rfl;clear Io U6 nc du px
  gi_upto_region 6 with fail
  unfold k5C at TM;obtain⟨m,hm⟩:=oe.out.hm;have fF:=hm.look2 X4 ht (hz nW) kk;have AU:=zH hm;clear q1 g0 g1 HC IG ip hm sB d8
  by_cases dD:kk∈us
  case pos=>
   have hf:nuG us kk=J (O U (us.idxOf kk:Int)):=Lj dD;have HNU:Aq ((nuG us kk).getD (O U 0)=O U (us.idxOf kk:Int)):=by rw[hf];rfl
   rw[hf,pg.out] at fF;simp only[Option.getD_some,Option.isSome_some] at fF;have C4:Aq (xT ((pre++[x]).map fun x=>key x.1)=us):=rm.out.trans (Lj dD);have Dc:Aq (qg ((pre++[x]).map fun x=>key x.1)=ls++[(us.idxOf kk:Int)]):=ns.out.trans (by rw[Lj dD]);clear rm ns;have rm:=C4;have ns:=Dc;clear C4 Dc hf dD AU;obtain⟨P,c,ce,ho⟩:=oe.out.box;have aY:=zH ce;have HO:=zH ho;have HJB:=OO;have sK:=iI;have Hl:=TM.out;clear ce ho;have OY:Aq (nW.heap[W4.heap.size]?=J (Ag #[O U kk.a,O U kk.b,O U kk.c,O U kk.d,O U kk.e] 72 (0,0))):=Hl;have LD:=zH (And.intro (zk oe.out.b3) (And.intro (zk aY.out) (zk OY.out)))
   have HLK:Aq (∀X:Ba,(∀k,k<nW.heap.size->X.heap[k]?=nW.heap[k]?)->(Instr.lookup 249 (.map (J (w.heap.size+1+1))) (Ai #[O U kk.a,O U kk.b,O U kk.c,O U kk.d,O U kk.e]) Aw).run Al X=.ok (O U (us.idxOf kk:Int)) X):=fun X hX=>by
    obtain⟨m9,U'⟩:=oe.out.hm;have h9:=(U'.same (hX _ (by have:=oe.out.sz;omega))).look X4 ht (hz X) kk;rw[HNU.out,pg.out] at h9;exact h9
   have tB:=oe.out.sz;gi_wp2_with fail;refine zX [(0,Au),(1,Au),(2,Au),(3,Au),(4,Aw),(5,Aw),(6,Aw)] (fun X=>∀k,k<nW.heap.size->X.heap[k]?=nW.heap[k]?) (by kernel_rfl) (by kernel_rfl) (by kernel_rfl) (by rintro⟨_,_,h⟩;exact h) (fun _ _=>rfl) ?_
   repeat
    apply zj rfl
    . rintro K' aa X hX
      have y3:=zh ((hX _ LD.out.1).trans oe.out.b3) 0 rfl;have y4:=zh ((hX _ LD.out.2.1).trans aY.out) 0 rfl;obtain⟨y50,y51,y52,y53,y54,_⟩:=Kh ((hX _ LD.out.2.2).trans OY.out);have ylk:=HLK.out X hX;clear hX;go_simp;exact aa
   refine zn rfl ?_;intro K' aa;go_simp;obtain⟨WA,We,dA,UO,i9⟩:=Zv nW #[O U (us.idxOf kk:Int)] 3;rw[We];have VC:nW.grownBy WA Z:=⟨i9.os,i9.tape,i9.output,i9.size,fun k hk _=>i9.block k hk⟩;have OH:=zH (oe.out.turn (Ld _) VC (fun r e=>by cases e));have OM:=zH (HJ.out _ _ HJB.out (Wrote.of_below i9));have mT:=zH i9;refine aa _ _ (fun k hk=>i9.block k hk) ?_;refine yb rfl (by kernel_rfl) ?_;intro K' aa;rw[Lj (by rfl)];have iF:=Lb mT.out LD.out.2.1 aY.out;have sk:Own WA (w.heap.size+6) (I P ls.length c) ls:=HO.out.below i9 (Ld _);refine jo Yl (.tmp 30) (.tmp 34) (by rfl) (w.heap.size+6) (I P ls.length c) ls.length (ls.map (O U)) (by rfl) sk nW.heap.size #[O U (us.idxOf kk:Int)] (by rfl) dA rfl (by simp[Value.oneCell']) (by omega) (by omega) _ rfl ?_;intro g6 k6 W6 Bv i8 CH Cy
   have oN:Own W6 (w.heap.size+6) (I (J ⟨g6,0,Z⟩) (ls.length+1) k6) (ls++[(us.idxOf kk:Int)]):=by
    have h:=Bv;unfold Own;rw[LK,Lv];exact h
   have pC:=(i8.block (w.heap.size+1+1+1+1) (zk iF) (fun e=>uI sk iF (by decide) e.symm)).trans iF;have q6:=zh pC 0 rfl;have f6:=zi pC 0;have l6:=zk pC;have sq:=OH.out.keeps iF sk i8 (I (J ⟨g6,0,Z⟩) (ls.length+1) k6);have Cu:=OH.out.push (Ld _) iF sk oN i8
   have MV:Af (W6.setCell ⟨w.heap.size+1+1+1+1,0,Z⟩ (I (J ⟨g6,0,Z⟩) (ls.length+1) k6)):=by
    have a2:Wrote (fun k=>w.heap.size<=k) WA W6:=Wrote.of_grown i8 (fun k e hk=>by have:=(sk.lt k e).1;omega);have a3:Wrote (fun k=>w.heap.size<=k) W6 (W6.setCell ⟨w.heap.size+1+1+1+1,0,Z⟩ (I (J ⟨g6,0,Z⟩) (ls.length+1) k6)):=Wrote.of_grown (zQ W6 _ 0 _) (fun k e hk=>by cases e;omega);exact HJ.out _ _ OM.out (a2.trans a3 (fun _ _ h=>h))
   have OK:=zH sq;have C5:=zH Cu;have HJ6:=zH MV;refine aa (fun _=>True) _ _ trivial ?_;clear aa K' Bv i8 CH Cy oN pC sq Cu MV sk iF i9 dA UO;refine zn rfl ?_;intro K' aa;go_simp;refine aa _ _ trivial ?_;clear aa K';refine zy ?_;gi_wp2_with fail;refine⟨(sK.out.1.trans (eZ▸xX mT.out)).trans (eZ▸OK.out.1),(sK.out.2.trans (KeepB.of_below mT.out (by rintro k rfl;have:=oe.out.sz;omega))).trans OK.out.2,?_,HJ6.out⟩;rw[rm.out,ns.out];exact C5.out
  have hf:nuG us kk=Z:=Lg dD;rw[hf,pg.out] at fF;simp only[Option.getD_none,Option.isSome_none] at fF;have C4:Aq (xT ((pre++[x]).map fun x=>key x.1)=us++[kk]):=rm.out.trans (Lg dD);have Dc:Aq (qg ((pre++[x]).map fun x=>key x.1)=ls++[(us.length:Int)]):=ns.out.trans (by rw[Lg dD]);obtain⟨es,cm,SM,CA⟩:=nuG_count k5_inj AU.out IN.out;obtain⟨W5,ft,pu,cK⟩:=AU.out.put X4 ht kk (O U (us.length:Int));rw[nuG_put dD] at pu;have pc:=zH (oe.out.put (Ld _) cK pu);have iL:=zH cK
  have HNU:Aq ((nuG (us++[kk]) kk).getD (O U 0)=O U (us.length:Int)):=by
   unfold nuG Aq;rw[Lj (by simp),NA,Lg dD];simp
  have HJB:=zH (HJ.out nW W5 OO.out (Wrote.of_grown cK fun k e hk=>by cases e;omega))
  have lC:Aq (KeepsFrom w2.heap.size nW W5/\KeepB (fun k=>k=w.heap.size+1+1+1+1+1) nW W5):=by
   refine⟨⟨cK.size,fun k o hk aW _=>(cK.block k (zk aW) (fun e=>by cases e;omega)).trans aW⟩,⟨cK.size,fun k hk hl=>cK.block k hl (fun e=>by cases e;omega)⟩⟩
  have sK:=zH (And.intro (iI.out.1.trans lC.out.1) (iI.out.2.trans lC.out.2));obtain⟨P,c,ce,ho⟩:=pc.out.box;have aY:=zH ce;have HO:=zH ho;have q35:=zh pc.out.b3 0 rfl;have Hl:=(iL.out.block _ (zk TM.out) (fun e=>by have:=NL e;omega)).trans TM.out;rw[pg.out] at ft;clear rm ns;have rm:=C4;have ns:=Dc;clear C4 Dc hf dD AU pu cK ce ho lC
  have rJ:(Builtin.len_ #[249] 3 #[.map (J (w.heap.size+1+1))]).run Al nW=.ok (O U (us.length:Int)) nW:=by
   rw[<-CA];exact run_len_map nW _ _ _ es cm (by kernel_rfl) SM
  clear SM CA;have OY:Aq (W5.heap[W4.heap.size]?=J (Ag #[O U kk.a,O U kk.b,O U kk.c,O U kk.d,O U kk.e] 72 (0,0))):=Hl;have LD:=zH (And.intro (zk pc.out.b3) (And.intro (zk aY.out) (zk OY.out)))
  have HLK:Aq (∀X:Ba,(∀k,k<W5.heap.size->X.heap[k]?=W5.heap[k]?)->(Instr.lookup 249 (.map (J (w.heap.size+1+1))) (Ai #[O U kk.a,O U kk.b,O U kk.c,O U kk.d,O U kk.e]) Aw).run Al X=.ok (O U (us.length:Int)) X):=fun X hX=>by
   obtain⟨m9,U'⟩:=pc.out.hm;have h9:=(U'.same (hX _ (by have:=pc.out.sz;omega))).look X4 ht (hz X) kk;rw[HNU.out,pg.out] at h9;exact h9
  have tB:=pc.out.sz;gi_wp2_with fail;refine zX [(0,Au),(1,Au),(2,Au),(3,Au),(4,Aw),(5,Aw),(6,Aw)] (fun X=>∀k,k<W5.heap.size->X.heap[k]?=W5.heap[k]?) (by kernel_rfl) (by kernel_rfl) (by kernel_rfl) (by rintro⟨_,_,h⟩;exact h) (fun _ _=>rfl) ?_
  repeat
   apply zj rfl
   . rintro K' aa X hX
     have y3:=zh ((hX _ LD.out.1).trans pc.out.b3) 0 rfl;have y4:=zh ((hX _ LD.out.2.1).trans aY.out) 0 rfl;obtain⟨y50,y51,y52,y53,y54,_⟩:=Kh ((hX _ LD.out.2.2).trans OY.out);have ylk:=HLK.out X hX;clear hX;go_simp;exact aa
  refine zn rfl ?_;intro K' aa;go_simp;obtain⟨WA,We,dA,UO,i9⟩:=Zv W5 #[O U (us.length:Int)] 3;rw[We];have VC:W5.grownBy WA Z:=⟨i9.os,i9.tape,i9.output,i9.size,fun k hk _=>i9.block k hk⟩;have OH:=zH (pc.out.turn (Ld _) VC (fun r e=>by cases e));have OM:=zH (HJ.out _ _ HJB.out (Wrote.of_below i9));have mT:=zH i9;refine aa _ _ (fun k hk=>i9.block k hk) ?_;refine yb rfl (by kernel_rfl) ?_;intro K' aa;rw[Lj (by rfl)];have iF:=Lb mT.out LD.out.2.1 aY.out;have sk:Own WA (w.heap.size+6) (I P ls.length c) ls:=HO.out.below i9 (Ld _);refine jo Yl (.tmp 30) (.tmp 34) (by rfl) (w.heap.size+6) (I P ls.length c) ls.length (ls.map (O U)) (by rfl) sk W5.heap.size #[O U (us.length:Int)] (by rfl) dA rfl (by simp[Value.oneCell']) (by omega) (by omega) _ rfl ?_;intro g6 k6 W6 Bv i8 CH Cy
  have oN:Own W6 (w.heap.size+6) (I (J ⟨g6,0,Z⟩) (ls.length+1) k6) (ls++[(us.length:Int)]):=by
   have h:=Bv;unfold Own;rw[LK,Lv];exact h
  have pC:=(i8.block (w.heap.size+1+1+1+1) (zk iF) (fun e=>uI sk iF (by decide) e.symm)).trans iF;have q6:=zh pC 0 rfl;have f6:=zi pC 0;have sq:=OH.out.keeps iF sk i8 (I (J ⟨g6,0,Z⟩) (ls.length+1) k6);have Cu:=OH.out.push (Ld _) iF sk oN i8
  have MV:Af (W6.setCell ⟨w.heap.size+1+1+1+1,0,Z⟩ (I (J ⟨g6,0,Z⟩) (ls.length+1) k6)):=by
   have a2:Wrote (fun k=>w.heap.size<=k) WA W6:=Wrote.of_grown i8 (fun k e hk=>by have:=(sk.lt k e).1;omega);have a3:Wrote (fun k=>w.heap.size<=k) W6 (W6.setCell ⟨w.heap.size+1+1+1+1,0,Z⟩ (I (J ⟨g6,0,Z⟩) (ls.length+1) k6)):=Wrote.of_grown (zQ W6 _ 0 _) (fun k e hk=>by cases e;omega);exact HJ.out _ _ OM.out (a2.trans a3 (fun _ _ h=>h))
  have OK:=zH sq;have C5:=zH Cu;have HJ6:=zH MV;refine aa (fun _=>True) _ _ trivial ?_;clear aa K' Bv i8 CH Cy oN pC sq Cu MV sk iF i9 dA UO;refine zn rfl ?_;intro K' aa;go_simp;refine aa _ _ trivial ?_;clear aa K';refine zy ?_;gi_wp2_with fail;refine⟨(sK.out.1.trans (eZ▸xX mT.out)).trans (eZ▸OK.out.1),(sK.out.2.trans (KeepB.of_below mT.out (by rintro k rfl;have:=pc.out.sz;omega))).trans OK.out.2,?_,HJ6.out⟩;rw[rm.out,ns.out];exact C5.out
 case done=>
  intro D ys W hD iy hI ik;have so:ys.map (fun x=>key x.1)=L.map key:=by rw[show ys.map (fun x=>key x.1)=(ys.map (·.1)).map key by rw[PR];rfl,iy]
  rw[so] at hI;obtain⟨hN,Wy⟩:=hI;obtain⟨P,c,ce,ho⟩:=hN.box;have q4:=zh ce 0 rfl;have HN9:=zH hN;have HO:=zH ho;have HJ9:=zH Wy;have BP:=zH ik;go_wp2_with fail;refine yU (B:=w2.heap.size) (w:=W) (show Marks w2.heap.size _ W from⟨[D],rfl,by simp,fun r hr=>by rw[LY] at hr;subst hr;exact⟨hD,BP.out⟩⟩) (v:=.slice P (qg (L.map key)).length c) (fun W=>by kernel_rfl) ?_;intro X hS;have hb:Am w2.heap.size W X:=hS.below;refine⟨_,rfl,(HO.out.shut hS).low (by omega),HJ.out W X HJ9.out ⟨hb.os,hb.tape,hb.output,hb.size,fun k hk hn=>hb.block k (by omega)⟩,HN9.out.wrote.trans (R':=fun k=>w2.heap.size<=k) ⟨hb.os,hb.tape,hb.output,hb.size,fun k hk hn=>hb.block k (by omega)⟩ (fun k h1 h2=>by omega)⟩
 intro D c pre W _ _ h;exact h.elim
end
section
def vwP(s:Sy)(x:Nat×Nat)(q:Nat):Int:=xw (s.xs.getD x.1 default) x.2 q
theorem vw_proc{s:Sy}{K N:Nat}(hs:Sees s K N){x y:Nat×Nat}{q r:Nat}(hx:x.1<s.xs.length)(hy:y.1<s.xs.length)(hxk:x.2<=K)(H7:y.2<=K)(hq:q<N)(hr:r<N)(e:vwP s x q=vwP s y r):q=r/\x.2=y.2:=by
 unfold vwP at e;rw[zw hx,zw hy] at e;obtain⟨v,h1,h2,h3⟩:=hs.pr (Le hx) hxk hq;obtain⟨u,g1,g2,g3⟩:=hs.pr (Le hy) H7 hr;rw[e] at h1;have:v=u:=NL (h1.2.symm.trans g1.2);subst this;omega
end
section
open Go.RowKit Go.Shelf
attribute [local go_sem] Oper.semAt_some
theorem Je(s:Sy)(hs:LowS s)(hf:xu s.p)(g:Int)(A SV AV AX:Bb)(kc ks kv kx:Nat)(w:Ba)(hS:SyAt w w.heap.size A SV AV AX s) :
  An Al 163 #[.agg (s.vs_ A kc SV ks AV kv AX kx),O U g] w fun e w'=>e=Ak (O U (yd s g))/\Am w.heap.size w w':=by
 obtain⟨w1,ae,d0,aw,hB⟩:=zm w (s.vs_ A kc SV ks AV kv AX kx) 39;have HV:=zH (uv s hs hf A SV AV AX kc ks kv kx w1 (hS.up hB));have di:Aq (zZ s≠0->yd s g=zZ s):=fun h=>Lj h
 have aq:Aq (zZ s=0->yd s g=if yZ s.n g=0 then 0 else 2):=fun h=>by
  obtain⟨_,K,N,hF⟩:=yG hf h;have hn:=hF.n;have dG:=hF.n1;have lp:=hF.n5;have h2:((2^N:Nat):Int)=(2:Int)^N:=by push_cast;rfl
  have h3:¬(s.n<1\/5<s.n):=by omega
  have e2:yd s g=if g<0\/(2:Int)^N<=g then 2 else 0:=by unfold yd;rw[Lg (by simpa using h),hn,Lo]
  have e3:yZ s.n g=if g<0\/(2:Int)^N<=g then 2 else 0:=by unfold yZ;rw[Lg h3,hn,Lo,h2]
  rw[e2,e3]
  by_cases hg:g<0\/(2:Int)^N<=g
  . simp only[if_pos hg];rfl
  . simp only[if_neg hg];rfl
 obtain⟨r,hr⟩:=Kk (zZ s);rw[hr] at HV di aq;obtain⟨R,fY⟩:=Kk (yd s g);rw[fY] at di aq ⊢;unfold Sy.vs_ at ae d0 HV ⊢;have ak:=zH ae;have HB:=zH hB;have HD:=zH d0;clear ae d0 hB hS hr fY hs hf;go_enter func163,ntmps163;go_wp2_with fail;rw[ak.out];go_wp2_with fail;refine HV.out.mono ?_;rintro e w2 ⟨rfl,ah⟩;have aT:=zH (HB.out.trans (ah.mono (by omega)));have d0:=Lb ah (by omega:w.heap.size<w1.heap.size) HD.out
 by_cases h0:r=0
 case neg=>
  have hR:Aq (R=r):=di.out h0;have e0:(r != 0)=Au:=by simpa using h0
  clear di aq d0;go_wp2_with fail;go_ret;rw[hR.out];exact⟨rfl,aT.out⟩
 case pos=>
 subst h0;have p7:=zh d0 7 rfl;have HC:=zH (Xz s.n g w2);have hR:=zH (aq.out rfl);obtain⟨q,hq⟩:=Kk (yZ s.n g);rw[hq] at HC hR;clear di aq d0 hq;go_wp2_with fail;refine HC.out.mono ?_;rintro e w3 ⟨rfl,rfl⟩
 by_cases h1:q=0
 . subst h1
   have nh:Aq (R=0):=hR.out;go_wp2_with fail;go_ret;rw[nh.out];exact⟨rfl,aT.out⟩
 have nh:Aq (R=2):=by rw[Aq,hR.out,Lg h1]
 have e1:(q != 0)=Au:=by simpa using h1
 go_wp2_with fail;go_ret;rw[nh.out];exact⟨rfl,aT.out⟩
theorem Y0{H:Nat}{w w':Ba}(h:Wrote (fun k=>k=H) w w')(hH:H<=w.heap.size):Am H w w':=⟨h.os,h.tape,h.output,h.size,fun k hk=>h.block k (by omega) (by omega)⟩
def kq(G:Nat)(f:Nat->Int)(j i:Nat):Int:=if i<j/\G.testBit i=Au then f i+1 else 0
def kz(G:Nat)(f:Nat->Int)(j:Nat):K5:=⟨kq G f j 0,kq G f j 1,kq G f j 2,kq G f j 3,kq G f j 4⟩
theorem kz_zero(G:Nat)(f:Nat->Int):k5C (kz G f 0)=#[O U 0,O U 0,O U 0,O U 0,O U 0]:=by simp[k5C,kz,kq]
theorem kq_not{G:Nat}{f:Nat->Int}{j:Nat}(h:G.testBit j=Aw)(i:Nat):kq G f (j+1) i=kq G f j i:=by
 unfold kq
 by_cases e:i=j
 . subst e;simp[h]
 have:(i<j+1)=(i<j):=by apply propext;omega
 simp only[this]
theorem kz_not{G:Nat}{f:Nat->Int}{j:Nat}(h:G.testBit j=Aw):kz G f (j+1)=kz G f j:=by
 unfold kz;simp only[kq_not h]
theorem kq_hit{G:Nat}{f:Nat->Int}{j:Nat}(h:G.testBit j=Au)(i:Nat):kq G f (j+1) i=if i=j then f j+1 else kq G f j i:=by
 unfold kq
 by_cases e:i=j
 . subst e;simp[h]
 have:(i<j+1)=(i<j):=by apply propext;omega
 simp only[this,if_neg e]
theorem kz_hit{G:Nat}{f:Nat->Int}{j:Nat}(h:G.testBit j=Au)(hj:j<5):k5C (kz G f (j+1))=(k5C (kz G f j)).set! j (O U (f j+1)):=by
 unfold kz k5C;simp only[kq_hit h];rcases j with _ | _ | _ | _ | _ | j
 . simp
 . simp
 . simp
 . simp
 . simp
 omega
theorem k5_cell{w:Ba}{b:Nat}{x:K5}(h:w.heap[b]?=J (Ag (k5C x) 72 (0,0)))(j:Nat)(hj:j<5):∃u,w.cell? ⟨b,j,Z⟩=J u/\∃m,u=O U m:=by
 rcases j with _ | _ | _ | _ | _ | j
 . exact⟨_,zh h 0 rfl,_,rfl⟩
 . exact⟨_,zh h 1 rfl,_,rfl⟩
 . exact⟨_,zh h 2 rfl,_,rfl⟩
 . exact⟨_,zh h 3 rfl,_,rfl⟩
 . exact⟨_,zh h 4 rfl,_,rfl⟩
 omega
theorem gj{h j:Nat}(hh:h<32)(hj:j<5):(bits BinOp.and U ((h:Int) / 2^j) 1==1)=h.testBit j:=by
 match j,hj with
 | 0,_=>exact Lx (jJ (p:=fun h=>decide ((bits BinOp.and U ((h:Int) / 2^0) 1==1)=h.testBit 0)) (by decide +kernel) hh)
 | 1,_=>exact Lx (jJ (p:=fun h=>decide ((bits BinOp.and U ((h:Int) / 2^1) 1==1)=h.testBit 1)) (by decide +kernel) hh)
 | 2,_=>exact Lx (jJ (p:=fun h=>decide ((bits BinOp.and U ((h:Int) / 2^2) 1==1)=h.testBit 2)) (by decide +kernel) hh)
 | 3,_=>exact Lx (jJ (p:=fun h=>decide ((bits BinOp.and U ((h:Int) / 2^3) 1==1)=h.testBit 3)) (by decide +kernel) hh)
 | 4,_=>exact Lx (jJ (p:=fun h=>decide ((bits BinOp.and U ((h:Int) / 2^4) 1==1)=h.testBit 4)) (by decide +kernel) hh)
theorem jt{w:Ba}{g:Nat}{cs:Array Ar}{t:TypeId}(h:w.heap[g]?=J (Ag cs t (0,0)))(i:Nat)(v:Ar) :
  (w.setCell ⟨g,i,Z⟩ v).heap[g]?=J (Ag (cs.set! i v) t (0,0))/\∀k,k≠g->(w.setCell ⟨g,i,Z⟩ v).heap[k]?=w.heap[k]?:=by
 refine⟨?_,fun k hk=>Lf w ⟨g,i,Z⟩ v k hk⟩;rw[World.setCell,PF,Lj rfl,h]
 rfl
theorem tog1_any(s:Sy)(K N:Nat)(hF:Fine s K N)(G:Nat)(GF:G<32)(e k:Nat)(he:e<s.xs.length)(hk:k<=K)(A SV AV AX:Bb)(kc ks kv kx bs bg:Nat)(w:Ba)(hX:XAt w w.heap.size AX s.xs)
  (hb:w.heap[bs]?=J (Ag (s.vs_ A kc SV ks AV kv AX kx) 39 (0,0))) (hg:w.heap[bg]?=J (Ag #[O U (G:Int)] 3 (0,0))) :
  An Al 165 #[Ai #[O U (e:Int),O U (k:Int)],Aj (J ⟨bs,0,Z⟩),Aj (J ⟨bg,0,Z⟩)] w fun r w'=>r=Ak (k5E (kz G (fun q=>xw s.xs[e] k q) N))/\Am w.heap.size w w':=by
 obtain⟨w1,ae,d0,aw,hB⟩:=zm w #[O U (e:Int),O U (k:Int)] 178;obtain⟨w2,aC,d1,bQ,az⟩:=zm w1 #[O U 0,O U 0,O U 0,O U 0,O U 0] 72;obtain⟨w3,cO,d2,dx,ck⟩:=zm w2 #[O U 0,O U 0,O U 0,O U 0,O U 0] 72;have CP:Am w.heap.size w w3:=hB.trans ((az.mono (by omega)).trans (ck.mono (by omega)));have lk:=Le he;obtain⟨eq,an⟩:=hF.views _ lk;obtain⟨bx,ox,A1,c1,A2,c2,eX,ce,x0,x1,x2,ly,sE⟩:=(hX.keep CP).row e he;subst eX;obtain⟨x,hx⟩:∃x,x=s.xs[e]:=⟨_,rfl⟩;rw[<-hx] at eq an x2 sE ⊢;obtain⟨bl,ol,A3,c3,eL,cp,y1,hI⟩:=sE.at_ k (by omega);subst eL;obtain⟨hl,lY⟩:=an _ (Le (by omega:k<x.views.length));have Du:∀row,x.views[k]'(by omega)=row->∀q,xw x k q=row.getD q 0:=fun row hr q=>by unfold xw;rw[zw (by omega:k<x.views.length),hr]
 obtain⟨row,pM⟩:=Kk (x.views[k]'(by omega));have hXW:=Du row pM;rw[pM] at y1 hI hl lY;obtain⟨V,hV⟩:∃V:Nat->Int,(fun q=>xw x k q)=V:=⟨_,rfl⟩;have HV:Aq (∀q,V q=row.getD q 0):=fun q=>by rw[<-hV];exact hXW q
 rw[hV];obtain⟨nv,DF⟩:=Kk x.views.length;rw[DF] at x2 eq;rw[hl] at y1;have eo:=zH hl;have HPO:=zH lY;have HIR:=zH hI;have Hf:=zH hF.lv;have pc:=zH hF.n5;have ak:=zH ae;have dK:=zH aC;have fI:=zH cO;have HB:=zH CP;have lbs:=zk hb;have lbg:=zk hg;have HBG:=zH (Lb CP lbg hg);have eQ:=zH (Lb ck (by omega:w1.heap.size<w2.heap.size) d1);have pW:=Lb ck (by omega:w.heap.size<w2.heap.size) (Lb az (by omega) d0);have mi:=zH d2;obtain⟨g0,g1,_⟩:=Ke pW;have p9:w3.cell? ⟨bs,9,Z⟩=J (I (J ⟨bx,ox,Z⟩) s.xs.length kx):=zh (Lb CP lbs hb) 9 rfl;have h1:(0:Int)<=(e:Int):=by omega
 have h2:(e:Int)<(s.xs.length:Int):=by omega
 have h3:(0:Int)<=(k:Int):=by omega
 have h4:(k:Int)<(nv:Int):=by omega
 clear ae aC cO d0 d1 d2 pW hB az ck CP hX hb hg hF hV hXW DF hx ly sE hI lY an lk Du pM x0 x1 hl eq;go_enter func165,ntmps165;go_wp2_with fail;rw[ak.out];rw[dK.out,fI.out];refine zt [(0,Au),(1,Au),(2,Au),(3,Au),(4,Au),(5,Au),(6,Au),(7,Au),(8,Au),(9,Au),(10,Au),(11,Au),(12,Au)] (fun X=>X=w3.drew) (by kernel_rfl) (by kernel_rfl) rfl ?_
 repeat
  apply zj rfl
  . rintro K' aa X rfl
    go_simp;exact aa
 refine zy ?_;obtain⟨W5,iG⟩:=Kk w3.drew;have HH:Aq (W5.heap=w3.heap):=by rw[<-iG];exact rfl
 have aK:Aq (Am w.heap.size w W5):=by rw[<-iG];exact HB.out.drew
 rw[iG];rw[show w3.heap=W5.heap from HH.out.symm] at HBG eQ mi;have lQ:Aq (∀z,z<w.heap.size->W5.heap[z]?=w3.heap[z]?):=fun z _=>by rw[HH.out]
 have e2:w2.heap.size=w.heap.size+1+1:=by rw[bQ,aw]
 rw[e2] at mi;rw[aw] at eQ;have hK0:Aq (W5.heap[w.heap.size+1+1]?=J (Ag (k5C (kz G V 0)) 72 (0,0))):=by rw[kz_zero];exact mi.out
 have hWl:w.heap.size+3<=W5.heap.size:=by rw[HH.out,dx,bQ,aw];omega
 go_wp2_with fail
 go_loopw [20] (fun i wr=>∃j:Nat,j<=N/\i=O U (j:Int)/\Aq (wr.heap[w.heap.size+1+1]?=J (Ag (k5C (kz G V j)) 72 (0,0)))/\Aq (Wrote (fun z=>z=w.heap.size+1+1) W5 wr)) (fun i _=>N-(Ap i).toNat)
 case atStart=>exact⟨0,by omega,rfl,hK0,Wrote.refl _ _⟩
 obtain⟨j,hj,rfl,BA,mF⟩:=hrel
 by_cases cU:j<N
 . have SJ:j<5:=by have:=pc.out;omega
   have aQ:=gj GF SJ
   have CN:IAt wr w.heap.size A3 row:=HIR.out.sameB fun z hz=>by
    have:=mF.out.block z (by omega) (by show ¬z=w.heap.size+1+1;omega);rw[this];exact lQ.out z hz
   obtain⟨b6,o6,rfl,dj,z0⟩:=CN.at_ j (by rw[eo.out];exact cU);have Ic:=HV.out j;rw[X8 (by rw[eo.out];exact cU)] at Ic;have hur:=HPO.out _ (Le (by rw[eo.out];exact cU:j<row.length));obtain⟨u,hu⟩:=Kk (row[j]'(by rw[eo.out];exact cU));rw[hu] at z0 Ic hur;have HU0:=zH Ic;have q0:=zh ((mF.out.block bg (by omega) (by show ¬bg=w.heap.size+1+1;omega)).trans HBG.out) 0 rfl;have hwv:IntKind.i64.wrap (u+1)=u+1:=by have:=Hf.out;rw[Ll];omega
   obtain⟨old,hold,m5,rfl⟩:=k5_cell BA.out j SJ;have hfr:=zi BA.out j;have SK:(0:Int)<=(j:Int):=by omega
   have Ip:(j:Int)<(N:Int):=by omega
   have hj6:(j:Int)<5:=by omega
   have tM:min j 64=j:=by omega
   by_cases eH:G.testBit j=Au
   case neg=>
    have DZ:G.testBit j=Aw:=by simpa using eH
    rw[DZ] at aQ;have Wu:Aq (wr.heap[w.heap.size+1+1]?=J (Ag (k5C (kz G V (j+1))) 72 (0,0))):=by rw[kz_not DZ];exact BA.out
    go_wp2_with fail
    go_roundw
    case rel=>exact⟨j+1,by omega,by go_num,Wu,mF⟩
    simp[Ap];omega
   rw[eH] at aQ;have HK:=zH (kz_hit (f:=V) eH SJ);have h9:=jt BA.out j (O U (u+1));have Wu:Aq ((wr.setCell ⟨w.heap.size+1+1,j,Z⟩ (O U (u+1))).heap[w.heap.size+1+1]?=J (Ag (k5C (kz G V (j+1))) 72 (0,0))):=by rw[HK.out,HU0.out];exact h9.1
   have IB:Aq (Wrote (fun z=>z=w.heap.size+1+1) W5 (wr.setCell ⟨w.heap.size+1+1,j,Z⟩ (O U (u+1)))):=mF.out.trans (Wrote.of_grown (zQ wr (w.heap.size+1+1) j _) (fun z e _=>by cases e;rfl)) (fun _ _ h=>h);go_wp2_with fail
   go_roundw
   case rel=>exact⟨j+1,by omega,by go_num,Wu,IB⟩
   simp[Ap];omega
 obtain rfl:N=j:=by omega
 obtain⟨Ae,hZ⟩:=Kk (kz G V N);rw[hZ] at BA;obtain⟨za,zb,zc,zd,ze⟩:=Ae;have HZ:=zH hZ;have c0:wr.cell? ⟨w.heap.size+1+1,0,Z⟩=J (O U za):=zh BA.out 0 rfl;have c1:wr.cell? ⟨w.heap.size+1+1,1,Z⟩=J (O U zb):=zh BA.out 1 rfl;have c2:wr.cell? ⟨w.heap.size+1+1,2,Z⟩=J (O U zc):=zh BA.out 2 rfl;have c3:wr.cell? ⟨w.heap.size+1+1,3,Z⟩=J (O U zd):=zh BA.out 3 rfl;have c4:wr.cell? ⟨w.heap.size+1+1,4,Z⟩=J (O U ze):=zh BA.out 4 rfl;have iV:=(mF.out.block (w.heap.size+1) (by omega) (by show ¬w.heap.size+1=w.heap.size+1+1;omega)).trans eQ.out;have r0:wr.cell? ⟨w.heap.size+1,0,Z⟩=J (O U 0):=zh iV 0 rfl;have r1:wr.cell? ⟨w.heap.size+1,1,Z⟩=J (O U 0):=zh iV 1 rfl;have r2:wr.cell? ⟨w.heap.size+1,2,Z⟩=J (O U 0):=zh iV 2 rfl;have r3:wr.cell? ⟨w.heap.size+1,3,Z⟩=J (O U 0):=zh iV 3 rfl;have r4:wr.cell? ⟨w.heap.size+1,4,Z⟩=J (O U 0):=zh iV 4 rfl;have f0:=zi iV 0;have f1:=zi iV 1;have f2:=zi iV 2;have f3:=zi iV 3;have f4:=zi iV 4;have HWr:Aq (Am w.heap.size w wr):=aK.out.trans ((Y0 (H:=w.heap.size+1+1) mF.out (by omega)).mono (by omega));have HR1:=zH iV;go_wp2_with fail
 have ez:Aq ((((((wr.setCell ⟨w.heap.size+1,0,Z⟩ (O U za)).setCell ⟨w.heap.size+1,1,Z⟩ (O U zb)).setCell ⟨w.heap.size+1,2,Z⟩ (O U zc)).setCell ⟨w.heap.size+1,3,Z⟩ (O U zd)).setCell ⟨w.heap.size+1,4,Z⟩ (O U ze)).heap[w.heap.size+1]?=J (Ag (k5C ⟨za,zb,zc,zd,ze⟩) 72 (0,0))):=(jt (jt (jt (jt (jt HR1.out 0 _).1 1 _).1 2 _).1 3 _).1 4 _).1.trans (by simp[k5C])
 (try simp only[Exit.inBlock,Exit.then])
 refine LI (L9 (P:=Al) rfl _ _ (w.heap.size+1) 72 _ (0,0) _ rfl ez.out Pj rfl (by kernel_rfl)) rfl ?_;have ed:w.heap.size<=w.heap.size+1:=Nat.le_succ _;exact⟨by rw[HZ.out];rfl,(((((HWr.out.setCell ed _).setCell ed _).setCell ed _).setCell ed _).setCell ed _)⟩
def togK(s:Sy)(G:Nat)(x:Nat×Nat):K5:=kz G (fun q=>xw (s.xs.getD x.1 default) x.2 q) s.n.toNat
def qm(s:Sy)(g:Int):List Int:=qg ((zu (s.p.k.toNat+1) 0 s.xs.length).map (togK s g.toNat))
def togE(s:Sy)(g:Int):List Int×Int:=if yd s g≠0 then ([],yd s g) else (qm s g,0)
theorem togL_len(s:Sy)(g:Int):(qm s g).length=s.xs.length*(s.p.k.toNat+1):=by unfold qm;rw[qF,LM,kE _ _ (by omega)]
theorem XL(s:Sy)(hs:LowS s)(hf:xu s.p)(g:Int)(A SV AV AX:Bb)(kc ks kv kx:Nat)(w:Ba)(hS:SyAt w w.heap.size A SV AV AX s) :
  An Al 146 #[.agg (s.vs_ A kc SV ks AV kv AX kx),O U g] w (RetOE (togE s g).1 (togE s g).2 w):=by
 obtain⟨w1,ae,d0,d1,aw,hB⟩:=xk w (s.vs_ A kc SV ks AV kv AX kx) #[O U g] 39 3;have HG:=zH (Je s hs hf g A SV AV AX kc ks kv kx w1 (hS.up hB));have di:Aq (yd s g≠0->togE s g=([],yd s g)):=fun h=>Lj h
 have aq:Aq (yd s g=0->togE s g=(qm s g,0)):=fun h=>Lg (by simpa using h)
 have mR:=zH (fun h=>yG hf (uG (s:=s) (g:=g) h).1);have Tu:=zH (fun h=>(uG (s:=s) (g:=g) h).2);have mI:=zH (hS.up hB)
 have AT:=zH (fun (K N G:Nat) (hF:Fine s K N) (hG:G<32) (X:Ba) (hX:SyAt X X.heap.size A SV AV AX s) (bs bp:Nat) (hb:X.heap[bs]?=J (Ag (s.vs_ A kc SV ks AV kv AX kx) 39 (0,0))) (hp:X.heap[bp]?=J (Ag #[O U (G:Int)] 3 (0,0)))=>
  YR s K s.xs.length (by have:=hF.k6;omega) (by have:=hF.lx;omega) hF.k rfl A SV AV AX kc ks kv kx 165 #[Aj (J ⟨bs,0,Z⟩),Aj (J ⟨bp,0,Z⟩)]
   (NC func165 (by kernel_rfl) rfl) (togK s G) (fun _=>False)
   (fun W=>XAt W X.heap.size AX s.xs/\W.heap[bs]?=J (Ag (s.vs_ A kc SV ks AV kv AX kx) 39 (0,0))/\W.heap[bp]?=J (Ag #[O U (G:Int)] 3 (0,0))/\X.heap.size<=W.heap.size) X (fun _ h=>h.elim)
   ⟨hX.fx,hb,hp,Ld _⟩
   (fun W W' h hw=>by
    have cp:Am X.heap.size W W':=⟨hw.os,hw.tape,hw.output,hw.size,fun k hk=>hw.block k (by have:=h.2.2.2;omega) (fun h2=>by omega)⟩
    exact⟨h.1.keep cp,Lb cp (zk hb) h.2.1,Lb cp (zk hp) h.2.2.1,Lr h.2.2.2 hw.size⟩)
   (fun x hx W hJ hW=>by
    obtain⟨_,h1,h2⟩:=xW _ _ x hx;have he:x.1<s.xs.length:=by omega
    have:=tog1_any s K N hF G hG x.1 x.2 he (by omega) A SV AV AX kc ks kv kx bs bp W (hJ.1.more hJ.2.2.2) hJ.2.1 hJ.2.2.1;refine this.mono ?_;rintro r w' ⟨rfl,dZ⟩;unfold togK;rw[zw he,hF.n,Lo]
    refine⟨rfl,⟨hJ.1.keep (dZ.mono hJ.2.2.2),La dZ hJ.2.1,La dZ hJ.2.2.1,Lr hJ.2.2.2 dZ.size⟩,Wrote.of_below dZ⟩))
 have oo:=zH (fun (K G:Nat) (h:s.p.k=(K:Int))=>(by unfold qm;rw[h];rfl:qm s (G:Int)=qg ((zu (K+1) 0 s.xs.length).map (togK s G))));obtain⟨r,hr⟩:=Kk (yd s g);rw[hr] at HG di aq mR Tu;obtain⟨R,fY⟩:=Kk (togE s g);rw[fY] at di aq ⊢;unfold Sy.vs_ at ae d0 HG AT ⊢;have ak:=zH ae;have HB:=zH hB;have HD:=zH d0;have eQ:=zH d1;have p9:=zh (d0) 9 rfl;clear ae d0 d1 hB hS hr fY hs hf;go_enter func146,ntmps146;go_wp2_with fail;rw[ak.out];go_wp2_with fail;refine HG.out.mono ?_;rintro e w2 ⟨rfl,ah⟩;have aT:=zH (HB.out.trans (ah.mono (by omega)));have HD:=zH (La ah HD.out);have eQ:=zH (La ah eQ.out);have fJ:=zH (mI.out.up ah);clear p9 ah HG ak mI
 by_cases h0:r=0
 case neg=>
  have hR:Aq (R=([],r)):=di.out h0;have e0:(r != 0)=Au:=by simpa using h0
  clear di aq HD eQ mR Tu AT oo;go_wp2_with fail
  go_ret2
  rw[hR.out];exact⟨Z,0,rfl,Own.nil _ _,aT.out⟩
 case pos=>
 subst h0;obtain⟨fM,K,N,hF⟩:=mR.out rfl;clear fM;have hR:=zH (aq.out rfl);obtain⟨su,lK⟩:=Tu.out rfl;obtain⟨G,rfl⟩:=Ls su
 have GF:G<32:=by
  have lp:=hF.n5;rw[hF.n,Lo] at lK;have:=Nk (n:=2) (show 0<2 by omega) lp;have h2:((2^N:Nat):Int)=(2:Int)^N:=by push_cast;rfl
  omega
 have HC:=zH (AT.out K N G hF GF w2 fJ.out w.heap.size (w.heap.size+1) HD.out eQ.out);have dy:=oo.out K G hF.k;rw[<-dy] at HC;obtain⟨p0,p1,p2,p3,p4,p5,p6,p7,p8,p9⟩:=zK HD.out;clear di aq HD eQ mR Tu AT oo fJ hF dy su lK;go_wp2_with fail
 all_goals first | (exfalso;omega) | skip
 refine HC.out.mono ?_;rintro e w3 ⟨v,rfl,ho,_,cO⟩;have HO:=zH ho;have al:=gx cO;have bK:=zH (Lc aT.out al);obtain⟨A6,k6,rfl,_,_,_⟩:=HO.out.form;go_wp2_with fail
 go_ret2
 rw[hR.out];exact⟨A6,k6,rfl,HO.out.low aT.out.size,bK.out⟩
end
section
open Go.RowKit
theorem kz_same{G:Nat}{f g:Nat->Int}{p:Nat}(h:G.testBit p=Au)(hp:p<5):kz G f (p+1)=kz G g (p+1)↔kz G f p=kz G g p/\f p=g p:=by
 have z:∀f:Nat->Int,kq G f p p=0:=fun f=>by unfold kq;rw[Lg (by omega)]
 have zf:=z f;have zg:=z g;unfold kz;simp only[kq_hit h,K5.mk.injEq];obtain rfl | rfl | rfl | rfl | rfl:p=0\/p=1\/p=2\/p=3\/p=4:=by omega
 all_goals
  simp[zf,zg]
  try omega
def tgK(s:Sy)(G p:Nat)(x:Nat×Nat):K5:=kz G (fun q=>xw (s.xs.getD x.1 default) x.2 q) p
def tgP(s:Sy)(G p:Nat):List Int:=qg ((zu (s.p.k.toNat+1) 0 s.xs.length).map (tgK s G p))
theorem tgP_len(s:Sy)(G p:Nat):(tgP s G p).length=ptn s:=by unfold tgP;rw[qF,LM,kE _ _ (by omega)];rfl
theorem togL_tgP{s:Sy}{N:Nat}(hN:s.n=(N:Int))(G:Nat):qm s (G:Int)=tgP s G N:=by
 unfold qm tgP
 congr 1
 refine NW fun x _=>?_
 unfold togK tgK;rw[hN,Lo,Lo]
end
section
theorem hear_row{r:Rd}(h:yM r=0)(p:Nat)(hp:p<5):xE r.n p (r.h p)=0:=by
 unfold yM at h
 split at h
 . cases h
 have key : ∀ k, k <= 5 -> yH r (5 - k) k = 0 -> ∀ q, k <= q -> q < 5 -> xE r.n q (r.h q) = 0 := by
  intro k hk
  induction hm:5-k generalizing k with
  | zero=>intro _ q h1 h2;omega
  | succ m ih=>
   intro hz q h1 h2;unfold yH at hz
   split at hz
   . rename_i bC;exact absurd hz bC
   . rename_i bC
     by_cases e:q=k
     . subst e;simpa using bC
     . exact ih (k+1) (by omega) (by omega) hz q (by omega) h2
 exact key 0 (by omega) h p (by omega) hp
theorem jg{r:Rd}{N:Nat}(h:yi r=0)(hn:r.n=(N:Int))(h5:N<=5){q:Nat}(hq:q<N):∃m:Nat,r.h q=(m:Int)/\m<2^N/\m.testBit q=Au:=by
 have h1:=hear_row (kd h).2.2.1 q (by omega);unfold xE at h1;rw[Lg (by omega)] at h1
 split at h1
 . cases h1
 rename_i hb
 split at h1
 . rename_i ht
   rw[hn,Lo] at hb;obtain⟨m,hm⟩:=Ls (show 0<=r.h q by omega);rw[hm] at hb ht ⊢;have hp:=Nat.two_pow_pos N;exact⟨m,rfl,by omega,by simpa using ht⟩
 cases h1
theorem qY{r:Rd}{now:List Int}{q m j:Nat}(hm:r.h q=(m:Int)):zW r q now j=if j<now.length/\m.testBit j=Au then now.getD j 0 else -1:=by
 unfold zW;rw[hm,Lo]
theorem heard_same{r r':Rd}{now nz:List Int}{q N m m':Nat}(hl:now.length=N)(FZ:nz.length=N)(hp:∀i∈now,0<=i)(Sz:∀i∈nz,0<=i)(hm:r.h q=(m:Int))(Im:r'.h q=(m':Int))(hN:m<2^N)(hN':m'<2^N)(h5:N<=5) :
  (∀j,j<5->zW r q now j=zW r' q nz j)↔(m=m'/\∀j,j<N->m.testBit j=Au->now.getD j 0=nz.getD j 0):=by
 have lY:∀ {l:List Int} {j:Nat},(∀i∈l,0<=i)->j<l.length->0<=l.getD j 0:=fun {l j} h hj=>by
  rw[Lh,Lm hj];exact h _ (Le hj)
 constructor
 . intro h
   have hb:∀j,j<N->m.testBit j=m'.testBit j:=fun j hj=>by
    have h1:=h j (by omega);rw[qY hm,qY Im] at h1;have g1:=lY hp (by omega:j<now.length);have g2:=lY Sz (by omega:j<nz.length)
    cases e1:m.testBit j<;>cases e2:m'.testBit j
    . rfl
    . rw[Lg (by rw[e1];simp),Lj ⟨by omega,e2⟩] at h1;omega
    . rw[Lj ⟨by omega,e1⟩,Lg (by rw[e2];simp)] at h1;omega
    . rfl
   refine⟨Nat.eq_of_testBit_eq fun j=>?_,fun j hj ht=>?_⟩
   . by_cases hj:j<N
     . exact hb j hj
     have Bx:2^N<=2^j:=Nk (by omega) (by omega);rw[Rt (by omega),Rt (by omega)]
   have h1:=h j (by omega);rw[qY hm,qY Im,Lj ⟨by omega,ht⟩,Lj ⟨by omega,by rw[<-hb j hj];exact ht⟩] at h1;exact h1
 rintro⟨rfl,h⟩ j hj;rw[qY hm,qY Im]
 by_cases c:j<N/\m.testBit j=Au
 . rw[Lj ⟨by omega,c.2⟩,Lj ⟨by omega,c.2⟩,h j c.1 c.2]
 rw[Lg (by rw[hl];exact c),Lg (by rw[FZ];exact c)]
theorem seen_eq{r r':Rd}{k q:Nat}{now nz:List Int}:xI r k q now=xI r' k q nz↔∀j,j<5->zW r q now j=zW r' q nz j:=by
 constructor
 . intro h j hj
   rw[<-ju r k q now j hj,<-ju r' k q nz j hj,h]
 intro h;unfold xI;rw[h 0 (by omega),h 1 (by omega),h 2 (by omega),h 3 (by omega),h 4 (by omega)]
section
variable {s:Sy} {K N:Nat}
theorem Fine.row(hF:Fine s K N){x:Exn}(hx:x∈s.xs){k:Nat}(hk:k<=K):(x.views.getD k []).length=N/\∀i∈x.views.getD k [],0<=i/\i<s.vs.length:=by
 obtain⟨hl,h⟩:=hF.views x hx;have iZ:k<x.views.length:=by omega
 rw[Lh,Lm iZ];exact h _ (Le iZ)
theorem Fine.round(hF:Fine s K N){x:Exn}(hx:x∈s.xs){k:Nat}(hk:k<K):yi (x.word.getD k default)=0/\(x.word.getD k default).n=(N:Int):=by
 obtain⟨hl,h⟩:=hF.word x hx;have iZ:k<x.word.length:=by omega
 rw[Lh,Lm iZ];exact h _ (Le iZ)
theorem J6(hF:Fine s K N)(h:Sees s K N){x y:Exn}(hx:x∈s.xs)(hy:y∈s.xs){k q:Nat}(hk:k<K)(hq:q<N) :
  xw x (k+1) q=xw y (k+1) q↔((x.word.getD k default).h q=(y.word.getD k default).h q/\∀j,j<N->((x.word.getD k default).h q).toNat.testBit j=Au->xw x k j=xw y k j):=by
 rw[h.same (h.vk x hx k hk q hq) (h.vk y hy k hk q hq),seen_eq];obtain⟨l1,p1⟩:=hF.row hx (by omega:k<=K);obtain⟨l2,p2⟩:=hF.row hy (by omega:k<=K);obtain⟨r1,n1⟩:=hF.round hx hk;obtain⟨r2,n2⟩:=hF.round hy hk;obtain⟨m,hm,U9,_⟩:=jg r1 n1 hF.n5 hq;obtain⟨m',Im,pS,_⟩:=jg r2 n2 hF.n5 hq;rw[heard_same l1 l2 (fun i hi=>(p1 i hi).1) (fun i hi=>(p2 i hi).1) hm Im U9 pS hF.n5,hm,Im,Lo];unfold xw;constructor
 . rintro⟨rfl,g⟩;exact⟨rfl,g⟩
 rintro⟨e,g⟩;exact⟨by omega,g⟩
end
end
section
open Go.RowKit
theorem Yb{i n:Nat}(hn:0<n)(h:0<i % n):(i-1) / n=i / n/\(i-1) % n=i % n-1:=by
 have h1:=Nat.div_add_mod i n;have h2:=Pv i hn;have e:i-1=n*(i / n)+(i % n-1):=by omega
 have ac:i % n-1<n:=by omega
 constructor
 . rw[e,Nat.mul_add_div hn,Nat.div_eq_of_lt ac,Pe]
 rw[e,Nat.mul_add_mod,Rn ac]
theorem rem_facts{p:Pb}(_h:qd p=Au){K N:Nat}(hF:Fine (zO p) K N)(hS:Sees (zO p) K N){q:Nat}(hq:q<N){i k:Nat}(hi:i<ptn (zO p))(hk:k<ptn (zO p))
  (e:(yt (zO p) q).getD i 0=(yt (zO p) q).getD k 0):i % (K+1)=k % (K+1)/\(0<i % (K+1)->(yt (zO p) q).getD (i-1) 0=(yt (zO p) q).getD (k-1) 0):=by
 have tT:(zO p).p.k.toNat=K:=by have:=hF.k;omega
 have lJ:ptn (zO p)=(zO p).xs.length*(K+1):=by unfold ptn;rw[tT]
 have dy:(jK (zO p) q).length=ptn (zO p):=by rw[Zs,tT,lJ]
 have hx:∀ {i:Nat},i<ptn (zO p)->i / (K+1)<(zO p).xs.length:=fun hi=>by
  rw[lJ] at hi;exact(Nat.div_lt_iff_lt_mul (by omega)).2 hi
 have hm:∀i:Nat,i % (K+1)<=K:=fun i=>by have:=Pv i (show 0<K+1 by omega);omega
 have bG:∀ {i:Nat} (hi:i<ptn (zO p)),(jK (zO p) q)[i]'(by omega)=xw ((zO p).xs.getD (i / (K+1)) default) (i % (K+1)) q:=fun hi=>by rw[keyL_at,tT]
 have fb:∀ {i j:Nat} (hi:i<ptn (zO p)) (hj:j<ptn (zO p)),(yt (zO p) q).getD i 0=(yt (zO p) q).getD j 0↔xw ((zO p).xs.getD (i / (K+1)) default) (i % (K+1)) q=xw ((zO p).xs.getD (j / (K+1)) default) (j % (K+1)) q:=fun hi hj=>by
  rw[zw (by rw[j9];exact hi),zw (by rw[j9];exact hj)];unfold yt;rw[wW _ (by omega) (by omega),bG hi,bG hj]
 have hv:=(fb hi hk).1 e;obtain⟨_,hr⟩:=vw_proc hS (x:=(i / (K+1),i % (K+1))) (y:=(k / (K+1),k % (K+1))) (hx hi) (hx hk) (hm i) (hm k) hq hq hv;have hr:i % (K+1)=k % (K+1):=hr;refine⟨hr,fun h0=>?_⟩;obtain⟨a1,a2⟩:=Yb (show 0<K+1 by omega) h0;obtain⟨b1,b2⟩:=Yb (show 0<K+1 by omega) (hr▸h0);refine(fb (by omega) (by omega)).2 ?_;rw[a1,a2,b1,b2,<-hr];rw[<-hr] at hv;rw[zw (hx hi),zw (hx hk)] at hv ⊢;obtain⟨m,Vb⟩:∃m,i % (K+1)=m+1:=⟨i % (K+1)-1,by omega⟩;have hmK:=hm i;rw[Vb] at hv hmK ⊢;have lk:=Le (hx hi);have hym:=Le (hx hk);have:=(J6 hF hS lk hym (show m<K by omega) hq).1 hv;obtain⟨r1,n1⟩:=hF.round lk (show m<K by omega);obtain⟨mm,lZ,_,eH⟩:=jg r1 n1 hF.n5 hq;exact this.2 q hq (by rw[lZ,Lo];exact eH)
end
section
open Go.RowKit
theorem kz_iff{G:Nat}{f g:Nat->Int}:∀n,n<=5->(kz G f n=kz G g n↔∀q,q<n->G.testBit q=Au->f q=g q)
 | 0,_=>⟨fun _ q hq=>absurd hq (by omega),fun _=>by simp[kz,kq]⟩
 | n+1,hn=>by
  have ih:=kz_iff (G:=G) (f:=f) (g:=g) n (by omega)
  cases hb:G.testBit n with
  | false=>
   rw[kz_not hb,kz_not hb,ih];constructor
   . intro h q hq KN
     by_cases e:q=n
     . subst e;rw[hb] at KN;cases KN
     . exact h q (by omega) KN
   . exact fun h q hq=>h q (by omega)
  | true=>
   rw[kz_same hb (by omega),ih];constructor
   . rintro⟨h1,h2⟩ q hq KN
     by_cases e:q=n
     . subst e;exact h2
     . exact h1 q (by omega) KN
   . exact fun h=>⟨fun q hq=>h q (by omega),h n (by omega) hb⟩
section
variable {s:Sy} {K N:Nat}
theorem Js(q:Nat){i j:Nat}(hi:i<ptn s)(hj:j<ptn s):(yt s q).getD i 0=(yt s q).getD j 0↔(jK s q).getD i 0=(jK s q).getD j 0:=by
 have hl:(jK s q).length=ptn s:=Zs s q;rw[zw (by rw[j9];exact hi),zw (by rw[j9];exact hj),zw (by omega),zw (by omega)];unfold yt;exact wW _ (by omega) (by omega)
theorem tog_same(hF:Fine s K N)(G:Nat){i j:Nat}(hi:i<ptn s)(hj:j<ptn s):(qm s (G:Int)).getD i 0=(qm s (G:Int)).getD j 0↔∀q,q<N->G.testBit q=Au->(yt s q).getD i 0=(yt s q).getD j 0:=by
 have hl:∀q,(jK s q).length=ptn s:=fun q=>Zs s q
 rw[togL_tgP hF.n];obtain⟨L,hL⟩:=Kk (zu (s.p.k.toNat+1) 0 s.xs.length);have Wt:L.length=ptn s:=by rw[<-hL,kE _ _ (by omega)];rfl
 have e:tgP s G N=qg (L.map (tgK s G N)):=by unfold tgP;rw[hL]
 rw[zw (by rw[tgP_len];exact hi),zw (by rw[tgP_len];exact hj)];simp only[e];rw[wW _ (by rw[LM];omega) (by rw[LM];omega),Ns,Ns];refine(kz_iff N hF.n5).trans ?_
 have hk:∀q {t:Nat} (ht:t<ptn s),(jK s q).getD t 0=xw (s.xs.getD (L[t]'(by omega)).1 default) (L[t]'(by omega)).2 q:=fun q t ht=>by
  rw[zw (by rw[hl];exact ht)];have e2:jK s q=L.map fun x=>xw (s.xs.getD x.1 default) x.2 q:=by unfold jK;rw[hL]
  simp only[e2,List.getElem_map]
 constructor
 . intro h q hq hb
   rw[Js q hi hj,hk q hi,hk q hj];exact h q hq hb
 intro h q hq hb;have:=h q hq hb;rw[Js q hi hj,hk q hi,hk q hj] at this;exact this
end
end
section
open Go.RowKit
def qb(n:Nat)(a:List Bool):List Bool:=(List.range n).map fun i=>!(a.getD i Aw)
theorem qf(n:Nat)(a:List Bool):(qb n a).length=n:=by simp[qb]
theorem xN{n:Nat}{a:List Bool}{i:Nat}(h:i<n):(qb n a).getD i Aw=!(a.getD i Aw):=by
 rw[zw (by rw[qf];exact h)];simp[qb]
theorem yD{n:Nat}{ls:List Int}{set:List Bool}{i:Nat}(h:i<n):(yo n ls set).getD i Aw=Au↔∀j,j<n->ls.getD j 0=ls.getD i 0->set.getD j Aw=Au:=by
 rw[zw (by rw[yC];exact h),X6 h,Pt]
theorem X5{n:Nat}{ls:List Int}{set:List Bool}{i:Nat}(h:i<n)(e:(yo n ls set).getD i Aw=Au):set.getD i Aw=Au:=(yD h).1 e i h rfl
theorem ins_twice(n:Nat)(ls:List Int)(set:List Bool):yo n ls (yo n ls set)=yo n ls set:=by
 refine xD (yC ..) (yC ..) fun i hi=>⟨fun h=>X5 hi h,fun h=>?_⟩
 rw[yD hi] at h ⊢;intro j hj e;rw[yD hj];intro k hk e2;exact h k hk (e2.trans e)
theorem ins_not(n:Nat)(ls:List Int)(set:List Bool):yo n ls (qb n (yo n ls set))=qb n (yo n ls set):=by
 refine xD (yC ..) (qf ..) fun i hi=>⟨fun h=>X5 hi h,fun h=>?_⟩
 rw[yD hi];intro j hj e;rw[xN hj];rw[xN hi] at h
 cases hb:(yo n ls set).getD j Aw with
 | false=>rfl
 | true=>
  have:(yo n ls set).getD i Aw=Au:=by
   rw[yD hj] at hb;rw[yD hi];intro k hk e2;exact hb k hk (e2.trans e.symm)
  rw[this] at h;cases h
section
variable {n:Nat} {aA:Nat->List Int} {ps:List Nat}
theorem ev_sub(fW:ps≠[]){x:List Bool}{i:Nat}(hi:i<n)(h:(evL n aA ps x).getD i Aw=Au):x.getD i Aw=Au:=by
 obtain⟨p,l,rfl⟩:∃p l,ps=p::l:=by
  cases ps with
  | nil=>exact absurd rfl fW
  | cons p l=>exact⟨p,l,rfl⟩
 exact(ZA hi _).1 h p (by simp) i hi rfl
theorem now_fix{set:List Bool}{M:Nat}(hM:zR n (evL n aA ps) set (M+1)=zR n (evL n aA ps) set M):evL n aA ps (qz n set (zR n (evL n aA ps) set M))=zR n (evL n aA ps) set M:=hM
theorem now_in(fW:ps≠[]){set:List Bool}{M:Nat}(hM:zR n (evL n aA ps) set (M+1)=zR n (evL n aA ps) set M){i:Nat}(hi:i<n)(h:(zR n (evL n aA ps) set M).getD i Aw=Au):set.getD i Aw=Au:=by
 rw[<-hM] at h;have:=ev_sub fW hi h;rw[qa hi,LB] at this;exact this.1
theorem now_ev{set:List Bool}{M:Nat}(hM:zR n (evL n aA ps) set (M+1)=zR n (evL n aA ps) set M):evL n aA ps (zR n (evL n aA ps) set M)=zR n (evL n aA ps) set M:=by
 by_cases fW:ps=[]
 . subst fW
   have:zR n (evL n aA []) set M=List.replicate n Au:=by rw[<-hM];rfl
   rw[this];rfl
 have e:qz n set (zR n (evL n aA ps) set M)=zR n (evL n aA ps) set M:=by
  refine xD (yN ..) (qD _) fun i hi=>?_
  rw[qa hi,LB];exact⟨fun h=>h.2,fun h=>⟨now_in fW hM hi h,h⟩⟩
 have:=now_fix hM;rwa[e] at this
theorem QQ{c:List Bool}(hl:c.length=n)(hc:evL n aA ps c=c):∀m,zR n (evL n aA ps) c (m+1)=c
 | 0=>by
  rw[zR]
  have:qz n c (zR n (evL n aA ps) c 0)=c:=by
   refine xD (yN ..) hl fun i hi=>?_
   rw[qa hi,LB,zR];exact⟨fun h=>h.1,fun h=>⟨h,by simp[List.getD_eq_getElem?_getD,hi]⟩⟩
  rw[this];exact hc
 | m+1=>by
  rw[zR,QQ hl hc m];have:qz n c c=c:=xD (yN ..) hl fun i hi=>by rw[qa hi,Bool.and_self]
  rw[this];exact hc
theorem now_twice{c:List Bool}(hl:c.length=n)(hc:evL n aA ps c=c){M:Nat}(hM:zR n (evL n aA ps) c (M+1)=zR n (evL n aA ps) c M):zR n (evL n aA ps) c M=c:=by rw[<-hM];exact QQ hl hc M
end
section
variable {s:Sy} {K N:Nat}
theorem ins_tog(hF:Fine s K N){G q:Nat}(hq:q<N)(hb:G.testBit q=Au)(x:List Bool){i:Nat}(hi:i<ptn s)(h:(yo (ptn s) (yt s q) x).getD i Aw=Au):(yo (ptn s) (qm s (G:Int)) x).getD i Aw=Au:=by
 rw[yD hi] at h ⊢;exact fun j hj e=>h j hj ((tog_same hF G hj hi).1 e q hq hb)
end
end
section
open Go.RowKit Go.Shelf
attribute [local go_sem] Oper.semAt_some
def evyE(s:Sy)(g:Int)(set:List Bool):List Bool×Int:=if yn s g set≠0 then ([],yn s g set) else (evG s g set,0)
def dstE(s:Sy)(g:Int)(set:List Bool):List Bool×Int:=if yn s g set≠0 then ([],yn s g set) else (yo (ptn s) (qm s g) set,0)
def knwE(s:Sy)(q:Int)(set:List Bool):List Bool×Int:=if zZ s≠0 then ([],zZ s) else if q<0\/s.n<=q then ([],2) else if set.length≠ptn s then ([],15) else (yo (ptn s) (yt s q.toNat) set,0)
theorem own_iat7{w:Ba}{ab:Nat}{A:Bb}{n c:Nat}{xs:List Int}(h:Own w ab (I A n c) xs):IAt w w.heap.size A xs:=own_on h (fun _ _ _=>rfl)
theorem map_cell{w:Ba}{mb m o:Nat}{F:Int->Option Ar}(h:MapOf (O U) w mb m F)(v:Ar):w.cell? ⟨mb,o,Z⟩≠J v:=by
 obtain⟨es,cm,hb,_⟩:=h;intro e;unfold World.cell? at e;rw[hb] at e;simp at e
section
variable {w w':Ba} {mb m:Nat} {F:Int->Option Ar}
theorem jT(h:MapOf (O U) w mb m F)(hg:w.grownBy w' (J mb)){b o:Nat}{v:Ar}(hc:w.cell? ⟨b,o,Z⟩=J v):w'.cell? ⟨b,o,Z⟩=J v:=by
 have bC:b≠mb:=fun e=>map_cell h v (by rw[<-e];exact hc)
 have ac:=LG w _ hc;exact(LN (a:=⟨b,o,Z⟩) (hg.block b ac (fun e=>bC (by cases e;rfl)))).trans hc
theorem IAt.put{B:Nat}{A:Bb}{xs:List Int}(hx:IAt w B A xs)(h:MapOf (O U) w mb m F)(hg:w.grownBy w' (J mb)):IAt w' B A xs:=fun h0=>by
 obtain⟨b,off,e,ac,hc⟩:=hx h0;exact⟨b,off,e,ac,fun i hi=>jT h hg (hc i hi)⟩
theorem BAt.put{B:Nat}{A:Bb}{xs:List Bool}(hx:BAt w B A xs)(h:MapOf (O U) w mb m F)(hg:w.grownBy w' (J mb)):BAt w' B A xs:=fun h0=>by
 obtain⟨b,off,e,ac,hc⟩:=hx h0;exact⟨b,off,e,ac,fun i hi=>jT h hg (hc i hi)⟩
theorem KwAt.put{B bw n N:Nat}{aA:Nat->List Int}(hk:KwAt w B bw n N aA)(h:MapOf (O U) w mb m F)(hg:w.grownBy w' (J mb)):KwAt w' B bw n N aA:=by
 obtain⟨b,off,cC,h1,h2,h3⟩:=hk.rows;refine⟨hk.lt,jT h hg hk.size,⟨b,off,cC,jT h hg h1,h2,fun q hq=>?_⟩,hk.len⟩;obtain⟨A,c,h4,h5⟩:=h3 q hq;exact⟨A,c,jT h hg h4,h5.put h hg⟩
end
structure KwD(s:Sy)(A SV AV AX:Bb)(kc ks kv kx B:Nat)(w:Ba)(bw mb m:Nat)(F:Int->Option Ar):Prop where
 kw:KwAt w w.heap.size bw (ptn s) s.n.toNat (yt s)
 blk:∃AQ cQ,w.heap[bw]?=J (Ag #[O U s.p.t.n,O U s.p.t.ins,O U s.p.t.outs,I A s.p.t.cases.length kc,O U s.p.a.n,I SV s.p.a.sts.length ks,O U s.p.k,O U s.n,I AV s.vs.length kv,I AX s.xs.length kx,O U (ptn s:Int),I AQ s.n.toNat cQ,.map (J mb)] 95 (0,0))
 map:MapOf (O U) w mb m F
 vals:∀g v,F g=J v->∃A c,v=I A (ptn s) c/\IAt w w.heap.size A (qm s g)
 sys:SyAt w B A SV AV AX s
 lowB:B<=w.heap.size
 low:B<=mb
section
variable {s:Sy} {A SV AV AX:Bb} {kc ks kv kx B:Nat} {w w':Ba} {bw mb m:Nat} {F:Int->Option Ar}
theorem KwD.call(h:KwD s A SV AV AX kc ks kv kx B w bw mb m F)(hb:Am w.heap.size w w'):KwD s A SV AV AX kc ks kv kx B w' bw mb m F:=by
 obtain⟨AQ,cQ,h1⟩:=h.blk;refine⟨(h.kw.keep hb).more hb.size,⟨AQ,cQ,La hb h1⟩,h.map.same (hb.block _ h.map.lt),fun g v hv=>?_,h.sys.keep (hb.mono h.lowB),Lr h.lowB hb.size,h.low⟩;obtain⟨A',c',e,hI⟩:=h.vals g v hv;exact⟨A',c',e,(hI.keep hb).more hb.size⟩
theorem KwD.put(h:KwD s A SV AV AX kc ks kv kx B w bw mb m F)(hg:w.grownBy w' (J mb)){g:Int}{A':Bb}{c':Nat}(hI:IAt w w.heap.size A' (qm s g))(hm:MapOf (O U) w' mb (m+1) (ql F g (I A' (ptn s) c'))) :
  KwD s A SV AV AX kc ks kv kx B w' bw mb (m+1) (ql F g (I A' (ptn s) c')):=by
 obtain⟨AQ,cQ,h1⟩:=h.blk;have hs:w.heap.size<=w'.heap.size:=hg.size
 have bC:bw≠mb:=fun e=>by
  obtain⟨es,cm,hb,_⟩:=h.map;rw[<-e,h1] at hb;cases hb
 have hB:Am B w w':=(Li B w).grown hg h.lowB (fun k e=>by cases e;exact h.low);refine⟨(h.kw.put h.map hg).more hs,⟨AQ,cQ,(hg.block _ (zk h1) (fun e=>bC (by cases e;rfl))).trans h1⟩,hm,fun g' v hv=>?_,h.sys.keep hB,Lr h.lowB hs,h.low⟩;unfold ql at hv
 by_cases e:g'=g
 . subst e
   rw[Lj rfl] at hv
   cases hv
   exact⟨A',c',rfl,(hI.put h.map hg).more hs⟩
 rw[Lg e] at hv;obtain⟨A2,c2,e2,Ax⟩:=h.vals g' v hv;exact⟨A2,c2,e2,(Ax.put h.map hg).more hs⟩
end
theorem kdist_any(s:Sy)(hs:LowS s)(hf:xu s.p)(A SV AV AX:Bb)(kc ks kv kx B:Nat)(g:Int)(su:yd s g=0)(hp:ptn s<=100000)(AB:Bb)(kb:Nat)(set:List Bool)(mz:set.length=ptn s)(bw mb m:Nat)(F:Int->Option Ar)(w:Ba)(hK:KwD s A SV AV AX kc ks kv kx B w bw mb m F)(dl:BAt w w.heap.size AB set) :
  An Al 122 #[Aj (J ⟨bw,0,Z⟩),O U g,I AB (ptn s) kb] w fun e w'=>∃g' m' F',e=Ak (I (J ⟨g',0,Z⟩) (ptn s) (ptn s))/\w.heap.size<=g'/\BRow w' g' (yo (ptn s) (qm s g) set)/\KwD s A SV AV AX kc ks kv kx B w' bw mb m' F'/\Wrote (fun z=>z=mb) w w':=by
 obtain⟨AQ,cQ,h1⟩:=hK.blk;have hT:togE s g=(qm s g,0):=Lg (by simpa using su);have hTL:(qm s g).length=ptn s:=togL_len s g;have HC:=zH (fun (X:Ba) (hX:SyAt X X.heap.size A SV AV AX s)=>XL s hs hf g A SV AV AX kc ks kv kx X hX);rw[hT] at HC;unfold RetOE at HC;simp only[hTL] at HC;have mg:=zH (fun (A:Bb) (c:Nat) (X:Ba) (hI:IAt X X.heap.size A (qm s g)) (hB:BAt X X.heap.size AB set)=>Za A AB c kb (ptn s) hp (qm s g) set hTL mz X hI hB);unfold RetB at mg;simp only[yC] at mg;have HK:=zH hK;have iN:=zH dl;have hz:∀W:Ba,(zeroValue 50).run Al W=.ok (I Z 0 0) W:=fun W=>by kernel_rfl
 have ht:Al.underlying 93=J (.map 3 50):=underlying93;have fF:=hK.map.look2 yO ht (hz w) g;have HZ:=zH hz;have HT:=zH ht;have z12:w.cell? ⟨bw,12,Z⟩=J (.map (J mb)):=zh h1 12 rfl;have lbw:=zk h1;unfold Sy.vs_ at HC;obtain⟨n,hn⟩:=Kk (ptn s);have ee:=zH hn;rw[hn] at h1 HC mg ⊢;have H1:=zH h1;go_enter func122,ntmps122
 cases IJ:F g with
 | some v=>
  obtain⟨A4,c4,rfl,S2⟩:=HK.out.vals g v IJ;rw[ee.out] at IJ;rw[IJ] at fF;simp only[Option.getD_some,Option.isSome_some] at fF;have tP:=HK.out.map.look yO HT.out (HZ.out w) g;rw[IJ] at tP;simp only[Option.getD_some] at tP;have dV:=zH (mg.out A4 c4 w S2 iN.out);go_wp2_with fail;refine dV.out.mono ?_;rintro e w2 ⟨g2,rfl,mC,iC,ah⟩;have dH:=zH iC;have aT:=zH ah;go_wp2_with fail;go_ret;exact⟨g2,m,F,rfl,mC,dH.out,HK.out.call aT.out,Wrote.of_below aT.out⟩
 | none=>
  rw[IJ] at fF;simp only[Option.getD_none,Option.isSome_none] at fF;have hKP:∀X,Am w.heap.size w X->X.heap[bw]?=J (Ag #[O U s.p.t.n,O U s.p.t.ins,O U s.p.t.outs,I A s.p.t.cases.length kc,O U s.p.a.n,I SV s.p.a.sts.length ks,O U s.p.k,O U s.n,I AV s.vs.length kv,I AX s.xs.length kx,O U (n:Int),I AQ s.n.toNat cQ,.map (J mb)] 95 (0,0)):=fun X hX=>Lb hX lbw H1.out
  have ai:=zH hKP;clear IJ;go_upto_region 3 with fail
  refine zt [(0,Au),(1,Au),(2,Au),(3,Au),(4,Au),(5,Au),(6,Au),(7,Au),(8,Au),(9,Au),(10,Aw),(11,Au),(12,Au),(13,Au),(14,Aw)] (fun X=>X.heap[bw]?=J (Ag #[O U s.p.t.n,O U s.p.t.ins,O U s.p.t.outs,I A s.p.t.cases.length kc,O U s.p.a.n,I SV s.p.a.sts.length ks,O U s.p.k,O U s.n,I AV s.vs.length kv,I AX s.xs.length kx,O U (n:Int),I AQ s.n.toNat cQ,.map (J mb)] 95 (0,0))) (by kernel_rfl) (by kernel_rfl) (ai.out _ (Li _ w).drew) ?_
  repeat
   apply zj rfl
   . rintro K' aa X u
     have q0:=zh (u) 0 rfl;have q1:=zh (u) 1 rfl;have q2:=zh (u) 2 rfl;have q3:=zh (u) 3 rfl;have q4:=zh (u) 4 rfl;have q5:=zh (u) 5 rfl;have q6:=zh (u) 6 rfl;have q7:=zh (u) 7 rfl;have q8:=zh (u) 8 rfl;have q9:=zh (u) 9 rfl;have q10:=zh (u) 10 rfl;have q11:=zh (u) 11 rfl;have q12:=zh (u) 12 rfl;clear u;go_simp;exact aa
  refine zn rfl ?_;intro K' aa;go_simp;refine(HC.out w.drew ((HK.out.sys.keep ((Li _ w).drew.mono HK.out.lowB)).more HK.out.lowB)).mono ?_;rintro e w5 ⟨A5,c5,rfl,pQ,aj⟩;have G5:Aq (Am w.heap.size w w5):=(Li _ w).drew.trans aj;have K5:=zH (HK.out.call G5.out);have rq:=zH (own_iat7 pQ);obtain⟨W6,ft,hm6,i8⟩:=K5.out.map.put yO HT.out g (I A5 n c5);have HM6:=zH hm6;have ph:=zH i8;have pT:=zk (ai.out w5 G5.out)
  have bC:bw≠mb:=fun e=>by
   obtain⟨es,cm,hb,_⟩:=K5.out.map;rw[<-e,ai.out w5 G5.out] at hb;cases hb
  have Bc:Aq (W6.heap[bw]?=J (Ag #[O U s.p.t.n,O U s.p.t.ins,O U s.p.t.outs,I A s.p.t.cases.length kc,O U s.p.a.n,I SV s.p.a.sts.length ks,O U s.p.k,O U s.n,I AV s.vs.length kv,I AX s.xs.length kx,O U (n:Int),I AQ s.n.toNat cQ,.map (J mb)] 95 (0,0))):=(i8.block _ pT (fun e=>bC (by cases e;rfl))).trans (ai.out w5 G5.out);refine aa _ _ (ai.out w5 G5.out) ?_
  repeat
   apply zj rfl
   . rintro K' aa X u
     go_simp;exact aa
  refine zn rfl ?_;intro K' aa;go_simp;refine aa _ _ Bc.out ?_;refine zy ?_;have hK7:KwD s A SV AV AX kc ks kv kx B W6 bw mb (m+1) (ql F g (I A5 (ptn s) c5)):=K5.out.put ph.out rq.out (by rw[ee.out];exact HM6.out);have Hg:=zH hK7;have tP:=hK7.map.look yO HT.out (HZ.out W6) g;rw[show ql F g (I A5 (ptn s) c5) g=J (I A5 (ptn s) c5) from Lj rfl,ee.out] at tP;simp only[Option.getD_some] at tP;have z12:W6.cell? ⟨bw,12,Z⟩=J (.map (J mb)):=zh Bc.out 12 rfl;have fh:Aq (BAt W6 W6.heap.size AB set):=(((iN.out.keep G5.out).more G5.out.size).put K5.out.map ph.out).more ph.out.size;have dV:=zH (mg.out A5 c5 W6 ((rq.out.put K5.out.map ph.out).more ph.out.size) fh.out);have sU:Aq (Wrote (fun z=>z=mb) w W6):=(Wrote.of_below G5.out).trans (Wrote.of_grown ph.out (fun z e _=>by cases e;rfl)) (fun _ _ h=>h);have fU:w.heap.size<=W6.heap.size:=Lr G5.out.size ph.out.size;go_wp2_with fail;refine dV.out.mono ?_;rintro e w8 ⟨g8,rfl,VD,Su,du⟩;have HR8:=zH Su;have HB8:=zH du;have hg9:w.heap.size<=g8:=by omega
  go_wp2_with fail;go_ret;exact⟨g8,m+1,_,rfl,hg9,HR8.out,Hg.out.call HB8.out,sU.out.trans (Wrote.of_below HB8.out) (fun _ _ h=>h)⟩
end
section
open Go.RowKit
def upd(l:Nat->Bool)(i:Nat):Nat->Bool:=fun j=>j==i||l j
theorem Qp(l:Nat->Bool)(i:Nat):upd l i i=Au:=by simp[upd]
theorem JP{l:Nat->Bool}{i j:Nat}(h:j≠i):upd l i j=l j:=by simp[upd,h]
def yA(ops:Array Oper)(j:Nat):Option Tmp:=(ops[j]?).bind (·.dst)
def yz(ops:Array Oper)(l:Nat->Bool)(val:Nat->Ar)(L:List Nat)(a:Act):Act:=L.foldl (fun a j=>if l j then a.put (yA ops j) (val j) else a) a
theorem Act.put_put_comm(a:Act){x y:Option Tmp}(v u:Ar)(h:∀d,x=J d->y≠J d):(a.put x v).put y u=(a.put y u).put x v:=Act.put_comm a v u h
theorem uk{ops:Array Oper}{l:Nat->Bool}{val:Nat->Ar}{x:Option Tmp}(v:Ar) :
  ∀(L:List Nat) (a:Act),(∀j∈L,∀d,x=J d->yA ops j≠J d)->yz ops l val L (a.put x v)=(yz ops l val L a).put x v
 | [],_,_=>rfl
 | j::L,a,h=>by
  have hj:∀d,x=J d->yA ops j≠J d:=h j (by simp);have hL:∀k∈L,∀d,x=J d->yA ops k≠J d:=fun k hk=>h k (by simp[hk])
  show yz ops l val L (if l j then (a.put x v).put (yA ops j) (val j) else a.put x v)=(yz ops l val L (if l j then a.put (yA ops j) (val j) else a)).put x v
  by_cases hl:l j=Au
  . rw[Lj hl,Lj hl,Act.put_put_comm a v (val j) hj]
    exact uk v L _ hL
  . rw[Lg hl,Lg hl]
    exact uk v L _ hL
theorem qQ{ops:Array Oper}{l l':Nat->Bool}{val val':Nat->Ar} :
  ∀(L:List Nat) (a:Act),(∀j∈L,l' j=l j/\(l j=Au->val' j=val j))->yz ops l' val' L a=yz ops l val L a
 | [],_,_=>rfl
 | j::L,a,h=>by
  have hj:=h j (by simp);show yz ops l' val' L (if l' j then a.put (yA ops j) (val' j) else a)=yz ops l val L (if l j then a.put (yA ops j) (val j) else a);rw[hj.1]
  by_cases hl:l j=Au
  . rw[Lj hl,Lj hl,hj.2 hl]
    exact qQ L _ (fun k hk=>h k (by simp[hk]))
  . rw[Lg hl,Lg hl]
    exact qQ L _ (fun k hk=>h k (by simp[hk]))
theorem j8{ops:Array Oper}{l:Nat->Bool}{val val':Nat->Ar}{i:Nat} :
  ∀(L:List Nat) (a:Act),L.Nodup->i∈L->l i=Aw->(∀j∈L,j≠i->∀d,yA ops i=J d->yA ops j≠J d)->(∀j,l j=Au->val' j=val j) ->
   yz ops (upd l i) val' L a=(yz ops l val L a).put (yA ops i) (val' i)
 | [],_,_,h,_,_,_=>by cases h
 | j::L,a,hn,hi,cy,hd,hv=>by
  obtain⟨hj,DG⟩:=Pr.1 hn
  by_cases e:j=i
  . subst e
    show yz ops (upd l j) val' L (if upd l j j then a.put (yA ops j) (val' j) else a)=(yz ops l val L (if l j then a.put (yA ops j) (val j) else a)).put (yA ops j) (val' j);rw[Qp,Lj rfl,cy];rw[qQ (l:=l) (l':=upd l j) (val:=val) (val':=val') L (a.put (yA ops j) (val' j)) (fun k hk=>⟨JP (by rintro rfl;exact hj hk),hv k⟩)];rw[Lg (by simp)];exact uk _ L a (fun k hk=>hd k (by simp[hk]) (fun e=>hj (e▸hk)))
  · have fX : i ∈ L := by
     rcases LL.1 hi with h | h
     . exact absurd h.symm e
     . exact h
    show yz ops (upd l i) val' L (if upd l i j then a.put (yA ops j) (val' j) else a)=(yz ops l val L (if l j then a.put (yA ops j) (val j) else a)).put (yA ops i) (val' i);rw[JP e]
    by_cases hl:l j=Au
    . rw[Lj hl,Lj hl,hv j hl]
      exact j8 L _ DG fX cy (fun k hk=>hd k (by simp[hk])) hv
    . rw[Lg hl,Lg hl]
      exact j8 L _ DG fX cy (fun k hk=>hd k (by simp[hk])) hv
theorem put_size(a:Act)(x:Option Tmp)(v:Ar):(a.put x v).tmps.size=a.tmps.size:=by cases x<;>simp[Act.put]
theorem put_get_ne(a:Act){x:Option Tmp}(v:Ar){k:Nat}(h:x≠J k):(a.put x v).tmps[k]?=a.tmps[k]?:=by
 cases x with
 | none=>rfl
 | some d=>exact L3 (fun e=>h (by rw[e]))
theorem put_get(a:Act)(v:Ar){k:Nat}(h:k<a.tmps.size):(a.put (J k) v).tmps[k]?=J v:=by simp[Act.put,h]
theorem ul{ops:Array Oper}{l:Nat->Bool}{val:Nat->Ar}{k:Nat}:∀(L:List Nat) (a:Act),(∀j∈L,yA ops j≠J k)->(yz ops l val L a).tmps[k]?=a.tmps[k]?
 | [],_,_=>rfl
 | j::L,a,h=>by
  show(yz ops l val L (if l j then a.put (yA ops j) (val j) else a)).tmps[k]?=a.tmps[k]?;rw[ul L _ (fun i hi=>h i (by simp[hi]))]
  split
  . exact put_get_ne _ _ (h j (by simp))
  . rfl
theorem YD{ops:Array Oper}{l:Nat->Bool}{val:Nat->Ar}{k i:Nat}(hl:l i=Au)(hd:yA ops i=J k) :
  ∀(L:List Nat) (a:Act),L.Nodup->i∈L->(∀j∈L,j≠i->yA ops j≠J k)->k<a.tmps.size->(yz ops l val L a).tmps[k]?=J (val i)
 | [],_,_,h,_,_=>by cases h
 | j::L,a,hn,hi,h,hk=>by
  obtain⟨hj,DG⟩:=Pr.1 hn;show(yz ops l val L (if l j then a.put (yA ops j) (val j) else a)).tmps[k]?=J (val i)
  by_cases e:j=i
  . subst e
    rw[hl,Lj rfl,ul L _ (fun q hq=>h q (by simp[hq]) (fun e=>hj (e▸hq))),hd];exact put_get a _ hk
  · have fX : i ∈ L := by
     rcases LL.1 hi with h' | h'
     . exact absurd h'.symm e
     . exact h'
    refine YD hl hd L _ DG fX (fun q hq=>h q (by simp[hq])) ?_
    split
    . rw[put_size];exact hk
    . exact hk
structure Agr(ops:Array Oper)(a0:Act)(l:Nat->Bool)(val:Nat->Ar)(a:Act):Prop where
 new:∀(i k:Nat),yA ops i=J k->l i=Au->k<a0.tmps.size->a.eval (.tmp k)=val i
 old:∀(k:Nat),(List.range ops.size).all (fun j=>yA ops j != J k)=Au->a.eval (.tmp k)=a0.eval (.tmp k)
theorem Jn(a:Act)(k:Nat):a.eval (.tmp k)=(a.tmps[k]?).getD undef:=by simp[Act.eval]
theorem Agr.newD{ops:Array Oper}{a0:Act}{l:Nat->Bool}{val:Nat->Ar}{a:Act}(h:Agr ops a0 l val a)(i k:Nat)(hd:yA ops i=J k)(hl:l i=Au)(hk:k<a0.tmps.size):(a.tmps[k]?).getD undef=val i:=(Jn a k).symm.trans (h.new i k hd hl hk)
theorem Agr.oldD{ops:Array Oper}{a0:Act}{l:Nat->Bool}{val:Nat->Ar}{a:Act}(h:Agr ops a0 l val a)(k:Nat)(hd:(List.range ops.size).all (fun j=>yA ops j != J k)=Au):(a.tmps[k]?).getD undef=a0.eval (.tmp k):=(Jn a k).symm.trans (h.old k hd)
section
variable {P:Program} {G:Type}
def StepAt(P:Program)(ops:Array Oper)(Q:Exit->Act->Ba->Prop)(a0:Act)(val:G->Nat->Ar)(Af:(Nat->Bool)->G->Ba->Prop)(i:Nat)(o:Oper):Prop:=
 ∀(l:Nat->Bool) (g:G) (w:Ba) (a:Act),Af l g w->l i=Aw->(∀e∈o.after.toList,Region.binds .any e=Au->l e.on=Au)->Agr ops a0 l (val g) a ->
  if Region.wanted o (yielded ops a.tmps) then o.wp P a w (fun a' w'=>∃g' v,a'=a.put o.dst v/\val g' i=v/\(∀j,l j=Au->val g' j=val g j)/\Af (upd l i) g' w') Q
  else ∃g',val g' i=undef/\(∀j,l j=Au->val g' j=val g j)/\Af (upd l i) g' w
def StepsFrom(P:Program)(ops:Array Oper)(Q:Exit->Act->Ba->Prop)(a0:Act)(val:G->Nat->Ar)(Af:(Nat->Bool)->G->Ba->Prop):Nat->List Oper->Prop
 | _,[]=>True
 | i,o::rest=>StepAt P ops Q a0 val Af i o/\StepsFrom P ops Q a0 val Af (i+1) rest
theorem StepsFrom.at_{ops:Array Oper}{Q:Exit->Act->Ba->Prop}{a0:Act}{val:G->Nat->Ar}{Af:(Nat->Bool)->G->Ba->Prop} :
  ∀(n:Nat) (os:List Oper),StepsFrom P ops Q a0 val Af n os->∀i o,os[i]?=J o->StepAt P ops Q a0 val Af (n+i) o
 | _,[],_,i,o,h=>by simp at h
 | n,o'::os,h,0,o,ho=>by
  simp at ho;subst ho;exact h.1
 | n,o'::os,h,i+1,o,ho=>by
  have:=StepsFrom.at_ (n+1) os h.2 i o (by simpa using ho);rwa[show n+(i+1)=n+1+i from by omega]
def dagB(ops:Array Oper):Bool:=
 (List.range ops.size).all fun i=>match ops[i]? with
  | some o=>o.after.toList.all (fun e=>!Region.binds .any e||decide (e.on<i))&&(List.range ops.size).all (fun j=>j==i||o.dst.isNone||yA ops j != o.dst)
  | none=>Au
theorem Jq{ops:Array Oper}(h:dagB ops=Au){i:Nat}{o:Oper}(ho:ops[i]?=J o):∀e∈o.after.toList,Region.binds .any e=Au->e.on<i:=by
 intro e he hb;have hi:i<ops.size:=(Ln.1 ho).1;have:=LH.1 h i (by simpa using hi);simp only[ho,Bool.and_eq_true] at this;have:=LH.1 this.1 e he;simpa[hb] using this
theorem dag_dst{ops:Array Oper}(h:dagB ops=Au){i j d:Nat}(Iq:j≠i)(hj:j<ops.size)(hd:yA ops i=J d):yA ops j≠J d:=by
 unfold yA at hd
 cases ho:ops[i]? with
 | none=>simp[ho] at hd
 | some o=>
  simp[ho] at hd;have hi:i<ops.size:=(Ln.1 ho).1;have h1:=LH.1 h i (by simpa using hi);simp only[ho,Bool.and_eq_true] at h1;have h2:=LH.1 h1.2 j (by simpa using hj);simpa[Iq,hd] using h2
def Yf(l:Nat->Bool)(n:Nat):Nat:=((List.range n).filter fun j=>!l j).length
theorem vQ{α:Type}{p q:α->Bool}(h:∀x,q x=Au->p x=Au):∀(L:List α) (x:α),x∈L->p x=Au->q x=Aw->(L.filter q).length<(L.filter p).length
 | [],_,hx,_,_=>by cases hx
 | y::L,x,hx,hp,hq=>by
  have ed:∀L:List α,(L.filter q).length<=(L.filter p).length:=by
   intro L
   induction L with
   | nil=>simp
   | cons z L ih=>
    rw[Rq,Rq]
    by_cases hz:q z=Au
    . rw[Lj hz,Lj (h z hz)];simpa using ih
    . rw[Lg hz]
      split
      . simp only[List.length_cons];omega
      . exact ih
  rw[Rq,Rq];rcases LL.1 hx with rfl | hx
  . rw[hp,hq]
    have:=ed L;simp;omega
  . have ih:=vQ h L x hx hp hq
    by_cases hz:q y=Au
    . rw[Lj hz,Lj (h y hz)];simpa using ih
    . rw[Lg hz]
      split
      . simp only[List.length_cons];omega
      . exact ih
theorem openN_upd{l:Nat->Bool}{n i:Nat}(hi:i<n)(hl:l i=Aw):Yf (upd l i) n<Yf l n:=by
 unfold Yf;refine vQ (fun x hx=>?_) _ i (by simpa using hi) (by simp[hl]) (by simp[upd]);simp[upd] at hx ⊢;exact hx.2
theorem openN_zero{l:Nat->Bool}{n:Nat}(h:Yf l n=0){i:Nat}(hi:i<n):l i=Au:=by
 unfold Yf at h;have:=Pw.1 h;rw[List.filter_eq_nil_iff] at this;simpa using this i (by simpa using hi)
theorem wpAny_dag{ops:Array Oper}{Q:Exit->Act->Ba->Prop}{a0:Act}{val:G->Nat->Ar}{Af:(Nat->Bool)->G->Ba->Prop}(hd:dagB ops=Au)
  (hs:StepsFrom P ops Q a0 val Af 0 ops.toList)
  (ma:∀(l:Nat->Bool) (g:G) (w:Ba),(∀i,i<ops.size->l i=Au)->Af l g w->Q .normal (yz ops (fun _=>Au) (val g) (List.range ops.size) a0) w) :
  ∀(fuel:Nat) (ag:Array Bool) (l:Nat->Bool) (g:G) (w:Ba),Yf l ops.size<=fuel->ag.size=ops.size->(∀i,i<ops.size->ag.getD i Au=l i)->Af l g w ->
   wpAny P .any ops Q fuel ag (yz ops l (val g) (List.range ops.size) a0) w:=by
 have fin:∀(ag:Array Bool) (l:Nat->Bool) (g:G) (w:Ba),ag.size=ops.size->(∀i,i<ops.size->ag.getD i Au=l i)->Af l g w->(∀i,i<ops.size->l i=Au) ->
   Region.ready .any ops ag=[]/\Q .normal (yz ops l (val g) (List.range ops.size) a0) w:=by
  intro ag l g w bL hl hJ ax;refine⟨?_,?_⟩
  . refine List.eq_nil_iff_forall_not_mem.2 fun i hi=>?_
    obtain⟨h0,o,ho,_⟩:=PT.1 hi;have ac:i<ops.size:=(Ln.1 ho).1;rw[hl i ac,ax i ac] at h0
    cases h0
  . have:=ma l g w ax hJ
    rwa[qQ (l:=l) (val:=val g) _ _ (fun j hj=>⟨(ax j (by simpa using hj)).symm,fun _=>rfl⟩)] at this
 intro fuel
 induction fuel with
 | zero=>
  intro ag l g w hf bL hl hJ;exact fin ag l g w bL hl hJ (fun i hi=>openN_zero (by omega) hi)
 | succ fuel ih=>
  intro ag l g w hf bL hl hJ;refine⟨fun hr=>?_,fun i hi=>?_⟩
  . refine(fin ag l g w bL hl hJ fun i hi=>?_).2
    -- the least that is not in l would be ready
    refine Nat.strongRecOn (motive:=fun i=>i<ops.size->l i=Au) i (fun i IH hi=>?_) hi
    cases cy:l i with
    | true=>rfl
    | false=>
     have:i∈Region.ready .any ops ag:=by
      refine PT.2 ⟨by rw[hl i hi,cy],ops[i],by simp[hi],fun e he hb=>?_⟩;have ac:=Jq hd (o:=ops[i]) (i:=i) (by simp[hi]) e (by simpa using he) hb;have h1:=IH e.on ac (by omega);rw[<-hl e.on (by omega)] at h1;have h2:e.on<ag.size:=by omega
      simpa[Array.getD,h2] using h1
     rw[hr] at this
     cases this
  . obtain⟨h0,o,ho,ax⟩:=PT.1 hi
    have ac:i<ops.size:=(Ln.1 ho).1;have cy:l i=Aw:=by rw[<-hl i ac];exact h0
    have iA:=StepsFrom.at_ 0 ops.toList hs i o (by simpa using ho);rw[LQ] at iA
    have aG:Agr ops a0 l (val g) (yz ops l (val g) (List.range ops.size) a0):=by
     refine⟨fun j k hj hlj hk=>?_,fun k hk=>?_⟩
     · have Vm : j < ops.size := by
        unfold yA at hj;rcases PQ j ops.size with h | h
        . exact h
        . simp[Array.getElem?_eq_none h] at hj
       have:=YD (val:=val g) hlj hj (List.range ops.size) a0 List.nodup_range (by simpa using Vm) (fun q hq Sv=>dag_dst hd Sv (by simpa using hq) hj) hk;simp[Act.eval,Array.getD_eq_getD_getElem?,this]
     . have:=ul (ops:=ops) (l:=l) (val:=val g) (k:=k) (List.range ops.size) a0 (fun j hj=>by have:=LH.1 hk j hj;simpa using this)
       simp only[Act.eval,Array.getD_eq_getD_getElem?,this]
    have Cn:=iA l g w _ hJ cy (fun e he hb=>by
     have h1:=ax e (by simpa using he) hb;have dr:=Jq hd ho e he hb;rw[<-hl e.on (by omega)];have h2:e.on<ag.size:=by omega
     simpa[Array.getD,h2] using h1) aG
    have VM:yA ops i=o.dst:=by simp[yA,ho]
    have go:∀(g':G) (w':Ba) (v:Ar),val g' i=v->(∀j,l j=Au->val g' j=val g j)->Af (upd l i) g' w' ->
      wpAny P .any ops Q fuel (ag.setIfInBounds i Au) ((yz ops l (val g) (List.range ops.size) a0).put o.dst v) w':=by
     intro g' w' v hv dz MW
     have e:=j8 (ops:=ops) (l:=l) (val:=val g) (val':=val g') (i:=i) (List.range ops.size) a0 List.nodup_range (by simpa using ac) cy
      (fun j hj pw d hd'=>dag_dst hd pw (by simpa using hj) hd') dz
     rw[hv,VM] at e;rw[<-e];refine ih (ag.setIfInBounds i Au) (upd l i) g' w' ?_ (by simpa using bL) (fun j hj=>?_) MW
     . have:=openN_upd ac cy;omega
     . by_cases pw:j=i
       . subst pw
         rw[Qp];have:j<ag.size:=by omega
         simp[Array.getD,this]
       . rw[JP pw,<-hl j hj]
         exact getD_set_ne Au (fun e=>pw e.symm)
    unfold wpOp;simp only[ho]
    split
    . rename_i hw
      rw[Lj hw] at Cn;refine .inl (R5 (fun a' w' h=>?_) Cn);obtain⟨g',v,rfl,hv,dz,MW⟩:=h;exact go g' w' v hv dz MW
    . rename_i hw
      rw[Lg hw] at Cn;obtain⟨g',hv,dz,MW⟩:=Cn;exact go g' w undef hv dz MW
theorem kH{ops:Array Oper}{Q:Exit->Act->Ba->Prop}{a0:Act}{w0:Ba}{id:Nat}(hm:P.follows .mixedOrders=Au)(val:G->Nat->Ar)(Af:(Nat->Bool)->G->Ba->Prop)
  (hd:dagB ops=Au) (g0:G) (h0:Af (fun _=>Aw) g0 w0.drew) (hs:StepsFrom P ops Q a0 val Af 0 ops.toList)
  (ma:∀(l:Nat->Bool) (g:G) (w:Ba),(∀i,i<ops.size->l i=Au)->Af l g w->Q .normal (yz ops (fun _=>Au) (val g) (List.range ops.size) a0) w) :
  (Code.region id ops Au).wp P Q a0 w0:=by
 refine wp_region_any hm ?_
 have:=wpAny_dag hd hs ma ops.size (Array.replicate ops.size Aw) (fun _=>Aw) g0 w0.drew (by unfold Yf;exact Lr (List.length_filter_le _ _) (by simp)) (by simp)
  (fun i hi=>by simp[Array.getD,hi]) h0
 have e:yz ops (fun _=>Aw) (val g0) (List.range ops.size) a0=a0:=by
  generalize List.range ops.size=L
  induction L with
  | nil=>rfl
  | cons j L ih=>exact ih
 rw[e] at this;exact this
end
def Xd:List (Option Tmp)->(Nat->Ar)->Nat->Act->Act
 | [],_,_,a=>a
 | d::D,v,i,a=>Xd D v (i+1) (a.put d (v i))
theorem wG(v:Nat->Ar)(i:Nat)(a:Act):Xd [] v i a=a:=rfl
theorem jw(d:Option Tmp)(D:List (Option Tmp))(v:Nat->Ar)(i:Nat)(a:Act):Xd (d::D) v i a=Xd D v (i+1) (a.put d (v i)):=rfl
theorem Zg(ops:Array Oper)(val:Nat->Ar):∀(n i:Nat) (a:Act),i+n=ops.size->yz ops (fun _=>Au) val (List.range' i n) a=Xd ((ops.toList.drop i).map (·.dst)) val i a
 | 0,i,a,h=>by
  have:ops.toList.drop i=[]:=List.drop_eq_nil_of_le (by simp;omega);rw[this];rfl
 | n+1,i,a,h=>by
  have hi:i<ops.toList.length:=by simp;omega
  rw[Ly hi,L4,jw,List.range'_succ];have e:yA ops i=ops.toList[i].dst:=by simp[yA,show i<ops.size by omega]
  rw[<-e];exact Zg ops val n (i+1) _ (by omega)
theorem jD{ops:Array Oper}{val:Nat->Ar}{D:List (Option Tmp)}(hD:ops.toList.map (·.dst)=D)(a:Act):yz ops (fun _=>Au) val (List.range ops.size) a=Xd D val 0 a:=by
 rw[List.range_eq_range',Zg ops val ops.size 0 a (by omega),Ni,hD]
end
section
open Go.RowKit Go.Shelf
attribute [local go_sem] Oper.semAt_some
section
theorem bf{x y:Bool}(h:x=Au->y=Au)(hy:y=Aw):x=Aw:=by cases x with | false=>rfl | true=>rw[h rfl] at hy;cases hy
end
theorem ye{P:Program}{G:Type}{ops:Array Oper}{Q:Exit->Act->Ba->Prop}{val:G->Nat->Ar}{Af:(Nat->Bool)->G->Ba->Prop}{i:Nat}{o:Oper}{l:Nat->Bool}{g:G}{w:Ba}{a:Act}{E:Prop}(i5:o.guard=Z)
  (h:∀K:Act->Ba->Prop,(∀(g':G) (v:Ar) (w':Ba),val g' i=v->(∀j,l j=Au->val g' j=val g j)->Af (upd l i) g' w'->K (a.put o.dst v) w')->o.wp P a w K Q) :
  if Region.wanted o (yielded ops a.tmps) then o.wp P a w (fun a' w'=>∃g' v,a'=a.put o.dst v/\val g' i=v/\(∀j,l j=Au->val g' j=val g j)/\Af (upd l i) g' w') Q else E:=by
 have hw:Region.wanted o (yielded ops a.tmps)=Au:=by simp[Region.wanted,i5]
 rw[Lj hw];exact h _ fun g' v w' h1 h2 h3=>⟨g',v,rfl,h1,h2,h3⟩
end
end Go.Proofs.YtkmbdfdaffmhjaaGreat
