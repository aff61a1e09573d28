/- Parts ReaP FrsA Rf36 CmnC CmnD Rf36B Pcnt PtsG ReaA HrdA HrP AtmP KeysT PtsM PtsV TogB TogA ExF36 ParP KnwP KnwA RepB. -/
import Derived.Test.YtjmckgoegfipeaaGreatDoorPf
import Derived.Test.YtjmckgoegfipeaaGreatDoorProg
import Derived.Test.YtjmckgoegfipeaaGreatDoorPc
import Derived.Test.YtjmckgoegfipeaaGreatDoorPa
import Derived.Test.YtjmckgoegfipeaaGreatDoorPd
import Derived.Deep.QuietTactic
import Derived.BigQuiet
import Derived.Deep.LoopGhost
import Derived.Test.YtjmckgoegfipeaaGreatDoorPe
import Derived.Test.YtjmckgoegfipeaaGreatDoorPb
import Derived.Sort.CutIn
import Derived.Carry

namespace Go.Proofs.YtjmckgoegfipeaaGreatDoor
abbrev Sv:=@List.mk_mem_zipIdx_iff_getElem?
abbrev P8:=@Nat.mod_lt
abbrev Ng:=@decide_eq_true_iff
set_option maxRecDepth 100000
set_option maxHeartbeats 4000000
section
def vwP(s:Sy)(x:Nat×Nat)(q:Nat):Int:=xw (s.xs.getD x.1 default) x.2 q
def qH(V:Nat×Nat->Nat->Int)(ps:List Nat)(c:Nat)(x:Nat×Nat):List (Nat×Int):=ps.map fun q=>(c,V x q)
def shL(V:Nat×Nat->Nat->Int)(ps:List Nat)(pre:List (Nat×Nat)):List (Nat×Int):=pre.zipIdx.flatMap fun y=>qH V ps y.2 y.1
theorem shL_snoc(V:Nat×Nat->Nat->Int)(ps:List Nat)(pre:List (Nat×Nat))(x:Nat×Nat):shL V ps (pre++[x])=shL V ps pre++qH V ps pre.length x:=by
 unfold shL;rw[List.zipIdx_append,Rk];simp
theorem rowPr_nil(V:Nat×Nat->Nat->Int)(c:Nat)(x:Nat×Nat):qH V [] c x=[]:=rfl
theorem rowPr_snoc(V:Nat×Nat->Nat->Int)(ps:List Nat)(q c:Nat)(x:Nat×Nat):qH V (ps++[q]) c x=qH V ps c x++[(c,V x q)]:=by simp[qH]
theorem wS{V:Nat×Nat->Nat->Int}{ps:List Nat}{pre:List (Nat×Nat)}{i:Nat}{v:Int}:(i,v)∈shL V ps pre↔∃h:i<pre.length,∃q∈ps,V pre[i] q=v:=by
 unfold shL qH;simp only[List.mem_flatMap,List.mem_map,Prod.mk.injEq];constructor
 . rintro⟨⟨x,j⟩,hm,q,hq,rfl,rfl⟩
   obtain⟨h1,h2⟩:=Ls.1 (Sv.1 hm);exact⟨h1,q,hq,by rw[h2]⟩
 . rintro⟨h,q,hq,rfl⟩
   exact⟨(pre[i],i),Sv.2 (Lq h),q,hq,rfl,rfl⟩
def ve(L:List (Nat×Int)):Int->Option Value:=fun v=>(L.find? fun p=>p.2==v).map fun p=>.int .i64 (p.1:Int)
theorem fstG_nil:ve []=fun _=>none:=rfl
theorem fstG_some{L:List (Nat×Int)}{v:Int}{u:Value}(h:ve L v=some u):∃i:Nat,u=.int .i64 (i:Int)/\(i,v)∈L:=by
 unfold ve at h;obtain⟨p,hp,rfl⟩:=Option.map_eq_some_iff.1 h;have h1:=List.mem_of_find?_eq_some hp;have h2:=List.find?_some hp;rw[RQ] at h2;exact⟨p.1,rfl,by rw[<-h2];exact h1⟩
theorem fstG_none{L:List (Nat×Int)}{v:Int}(h:ve L v=none)(x:Nat):(x,v)∉L:=fun hm=>by
 unfold ve at h;rw[Option.map_eq_none_iff,List.find?_eq_none] at h;exact h _ hm (by simp)
theorem fstG_put{L:List (Nat×Int)}{v:Int}(h:ve L v=none)(m:Nat):xq (ve L) v (.int .i64 (m:Int))=ve (L++[(m,v)]):=by
 funext x
 have hn:L.find? (fun p=>p.2==v)=none:=by unfold ve at h;rwa[Option.map_eq_none_iff] at h
 unfold xq ve;rw[List.find?_append]
 by_cases e:x=v
 . subst e;rw[Lh rfl,hn];simp
 . rw[Lf e]
   cases hf:L.find? (fun p=>p.2==x) with
   | some p=>rfl
   | none=>simp;exact fun e2=>e e2.symm
theorem fstG_keep{L:List (Nat×Int)}{v:Int}{u:Value}(h:ve L v=some u)(m:Nat):ve (L++[(m,v)])=ve L:=by
 funext x
 unfold ve at *;rw[List.find?_append]
 cases hf:L.find? (fun p=>p.2==x) with
 | some p=>rfl
 | none=>
  have:¬v=x:=fun e=>by subst e;rw[hf] at h;cases h
  simp[this]
theorem vw_proc{s:Sy}{K N:Nat}(hs:Sees s K N){x y:Nat×Nat}{q r:Nat}(hx:x.1<s.xs.length)(hy:y.1<s.xs.length)(hxk:x.2<=K)(hyk:y.2<=K)(hq:q<N)(hr:r<N)(e:vwP s x q=vwP s y r):q=r/\x.2=y.2:=by
 unfold vwP at e;rw[zn hx,zn hy] at e;obtain⟨v,h1,h2,h3⟩:=hs.pr (Ld hx) hxk hq;obtain⟨u,g1,g2,g3⟩:=hs.pr (Ld hy) hyk hr;rw[e] at h1;have:v=u:=LO (h1.2.symm.trans g1.2);subst this;omega
theorem keyL_vw(s:Sy)(q:Nat):qF s q=(zu (s.p.k.toNat+1) 0 s.xs.length).map fun x=>vwP s x q:=rfl
theorem shr_adj{s:Sy}{K N:Nat}(hF:Fine s K N)(hs:Sees s K N){g:Int}{i j:Nat}(hi:i<ptn s)(hj:j<ptn s):shr (shL (vwP s) (psG s g) (zu (K+1) 0 s.xs.length)) i j↔XN s g i j:=by
 have hk:s.p.k.toNat=K:=by have:=hF.k;omega
 have hN:s.n.toNat=N:=by have:=hF.n;omega
 have hlen:(zu (K+1) 0 s.xs.length).length=ptn s:=by rw[xU _ _ (by omega)];unfold ptn;rw[hk]
 have hq:∀q∈psG s g,q<N:=fun q hq=>by unfold psG zr at hq;have:=Sa.1 (List.mem_filter.1 hq).1;omega
 have hcl:∀q,(zX s q).getD i 0=(zX s q).getD j 0↔vwP s ((zu (K+1) 0 s.xs.length)[i]'(by omega)) q=vwP s ((zu (K+1) 0 s.xs.length)[j]'(by omega)) q:=fun q=>by
  have hl:(qF s q).length=ptn s:=vW s q;rw[zW (by rw[xG];exact hi),zW (by rw[xG];exact hj)];have:=kQ (qF s q) (i:=i) (j:=j) (by omega) (by omega);rw[show(zX s q)[i]'(by rw[xG];exact hi)=(yt (qF s q))[i]'(by rw[yj];omega) from rfl,show(zX s q)[j]'(by rw[xG];exact hj)=(yt (qF s q))[j]'(by rw[yj];omega) from rfl,this];simp only[keyL_vw,List.getElem_map,hk]
 have hpl:∀ {t:Nat} (ht:t<(zu (K+1) 0 s.xs.length).length),(zu (K+1) 0 s.xs.length)[t].1<s.xs.length/\(zu (K+1) 0 s.xs.length)[t].2<=K:=fun ht=>by
  obtain⟨_,h1,h2⟩:=xu _ _ _ (Ld ht);omega
 unfold XN xO shr;constructor
 . rintro⟨v,h1,h2⟩
   obtain⟨a1,q,hq1,e1⟩:=wS.1 h1;obtain⟨a2,r,hr1,e2⟩:=wS.1 h2;have e3:=e1.trans e2.symm;obtain⟨rfl,_⟩:=vw_proc hs (hpl a1).1 (hpl a2).1 (hpl a1).2 (hpl a2).2 (hq q hq1) (hq r hr1) e3;exact⟨q,hq1,(hcl q).2 e3⟩
 . rintro⟨q,hq1,e⟩
   exact⟨_,wS.2 ⟨by omega,q,hq1,rfl⟩,wS.2 ⟨by omega,q,hq1,((hcl q).1 e).symm⟩⟩
theorem Q8{s:Sy}{K N:Nat}(hF:Fine s K N)(hs:Sees s K N){g:Int}{ρ:Nat->Nat}(h:FrT (ptn s) (shr (shL (vwP s) (psG s g) (zu (K+1) 0 s.xs.length))) ρ) :
  yt ((zu (K+1) 0 s.xs.length).map fun x=>(ρ (x.1*(K+1)+x.2):Int))=yE (ptn s) (XN s g):=by
 have hk:s.p.k.toNat=K:=by have:=hF.k;omega
 have hlen:(zu (K+1) 0 s.xs.length).length=ptn s:=by rw[xU _ _ (by omega)];unfold ptn;rw[hk]
 refine compL_of (adjG_symm s g) _ (by simpa using hlen) fun i j h1 h2=>?_
 simp only[List.length_map] at h1 h2
 have hat:∀t (ht:t<(zu (K+1) 0 s.xs.length).length),(zu (K+1) 0 s.xs.length)[t].1*(K+1)+(zu (K+1) 0 s.xs.length)[t].2=t:=fun t ht=>by
  rw[prs_at _ _ (by omega)];simp only;rw[Py];exact Nat.div_add_mod t (K+1)
 simp only[List.getElem_map,hat];rw[Int.ofNat_inj,h i j (by omega) (by omega)];constructor
 . exact fun c=>c.mono fun x y hx hy hr=>.one hx hy ((shr_adj hF hs hx hy).1 hr)
 . exact fun c=>c.mono fun x y hx hy hr=>.one hx hy ((shr_adj hF hs hx hy).2 hr)
end
section
open Go.RowKit Go.Shelf
attribute [local go_sem] Oper.semAt_some
theorem YF(n:Nat)(ρ h:Nat->Nat)(f:List Int)(F:Frst n f ρ h)(i:Nat)(hi:i<n)(g:Nat)(w:Ba)(hr:RowAt w g f) :
  Calls Tryz.prog 71 #[.slice (some ⟨g,0,none⟩) n n,.int .i64 (i:Int)] w fun e w'=>e=.returned (.int .i64 (ρ i:Int))/\(∃f',Frst n f' ρ h/\RowAt w' g f')/\Wrote (fun k=>k=g) w w':=by
 have HF:=zH F;have HR:=zH hr;clear F hr;go_enter Tryz.func71,Tryz.ntmps71;go_wp2_with fail
 go_loopw [1] (fun o wr=>∃(k:Nat) (f':List Int),o=.int .i64 (k:Int)/\k<n/\ρ k=ρ i/\Hid (Frst n f' ρ h)/\Hid (RowAt wr g f')/\Hid (Wrote (fun k=>k=g) w wr)) (fun o _=>h (intOf o).toNat)
 case atStart=>exact⟨i,f,rfl,hi,rfl,HF,HR,Wrote.refl _ _⟩
 case round=>
  obtain⟨k,f',rfl,hk,hρ,HF',HR',HW⟩:=hrel;clear HF HR;obtain⟨j,e1,j1,j2,j3,j4⟩:=HF'.out.at_ k hk;obtain⟨m,e2,m1,m2,m3,m4⟩:=HF'.out.at_ j j1;have hl:=HF'.out.len;rw[zW (by omega)] at e1 e2;have c1:=HR'.out.cell k (by omega);have c2:=HR'.out.cell j (by omega);rw[e1] at c1;rw[e2] at c2;have hk0:(0:Int)<=(k:Int):=by omega
  have hk1:(k:Int)<(n:Int):=by omega
  have hj0:(0:Int)<=(j:Int):=by omega
  have hj1:(j:Int)<(n:Int):=by omega
  by_cases hne:j=k
  . subst hne
    have HE:Hid (ρ i=j):=by rw[<-hρ];exact j3 rfl
    clear e1 e2 m1 m2 m3 m4 j1 j2 j3 j4 hl c2 hρ;go_wp2_with fail;go_ret;rw[HE.out];exact⟨rfl,⟨f',HF'.out,HR'.out⟩,HW.out⟩
  . obtain⟨F2,q1,q2,q3⟩:=HF'.out.halve hk (by rw[zW (by omega),e1]) (by rw[zW (by omega),e2]) hne
    have HF2:=zH F2;have HR2:=zH (HR'.out.set k (m:Int));have HW2:Hid (Wrote (fun k=>k=g) w (wr.setCell ⟨g,k,none⟩ (.int .i64 (m:Int)))):=HW.out.trans (Wrote.of_grown (zU wr g k _) (fun k e _=>by cases e;rfl)) (fun _ _ h=>h);have HQ:=zH (And.intro q1 (And.intro (show ρ m=ρ i by omega) q3));have hz0:=zi HR'.out k;have hne':¬(j:Int)=(k:Int):=by omega
    have hlg:=HR'.out.lt;clear e1 e2 m1 m2 m3 m4 j1 j2 j3 j4 hl F2 q1 q2 q3 hρ hne;go_wp2_with fail
    go_roundw
    case rel=>exact⟨m,_,rfl,HQ.out.1,HQ.out.2.1,HF2,HR2,HW2⟩
    case measure=>simpa[intOf] using HQ.out.2.2
theorem reach1_any(n K:Nat)(hn:n<=100000)(hK:K<=100)(ρ h:Nat->Nat)(f:List Int)(F:Frst n f ρ h)(e k:Nat)(he:e*(K+1)+k<n)(C:Array Value)(hC:C[6]?=some (.int .i64 (K:Int)))(g b7 b2:Nat)(w:Ba)(hr:RowAt w g f)
  (h7:w.heap[b7]?=some (.cells #[.slice (some ⟨g,0,none⟩) n n] 112 (0,0))) (h2:w.heap[b2]?=some (.cells C 35 (0,0))) :
  Calls Tryz.prog 73 #[.agg #[.int .i64 (e:Int),.int .i64 (k:Int)],.pointer (some ⟨b7,0,none⟩),.pointer (some ⟨b2,0,none⟩)] w fun r w'=>r=.returned (.int .i64 (ρ (e*(K+1)+k):Int))/\(∃f',Frst n f' ρ h/\RowAt w' g f')/\Wrote (fun k=>k=g) w w':=by
 obtain⟨w1,hw1,d0,hs1,hB⟩:=zm w #[.int .i64 (e:Int),.int .i64 (k:Int)] 118;have HC:=zH (YF n ρ h f F _ he g w1 (Lb hB hr.lt hr));obtain⟨q0,q1,_⟩:=Ka d0;have z0:=zh (La hB h7) 0 rfl;have z6:=zh (La hB h2) 6 hC;have y0:=zh h7 0 rfl;have y6:=zh h2 6 hC;have l7:=zj h7;have l2:=zj h2;have HW:Hid (Wrote (fun k=>k=g) w w1):=Wrote.of_below hB;have hm1:e<=e*(K+1):=PT _ (by omega);have a1:IntKind.i64.wrap ((K:Int)+1)=(K:Int)+1:=by rw[Ll];omega
 have a2:IntKind.i64.wrap ((e:Int)*((K:Int)+1))=((e*(K+1):Nat):Int):=by rw[show(e:Int)*((K:Int)+1)=((e*(K+1):Nat):Int) by push_cast;rfl,Ll];omega
 have a3:IntKind.i64.wrap (((e*(K+1):Nat):Int)+(k:Int))=((e*(K+1)+k:Nat):Int):=by rw[Ll];omega
 have HW1:=zH hw1;obtain⟨t,ht⟩:=Ki (e*(K+1));rw[ht] at a2 a3 HC ⊢;obtain⟨u,hu⟩:=Ki (t+k);rw[hu] at a3 HC ⊢;clear hw1 d0 hB F he hr h7 h2 hC ht hu hm1;go_enter Tryz.func73,Tryz.ntmps73;go_wp2_with fail;rw[HW1.out];go_wp2_with fail;refine HC.out.mono ?_;rintro r w2 ⟨rfl,hf,hw⟩;have HF:=zH hf;have HW2:=zH (HW.out.trans hw (fun _ _ h=>h));clear hf hw HC HW;go_wp2_with fail;go_ret;exact⟨rfl,HF.out,HW2.out⟩
def ZV(xs:List Int)(w:Ba)(e:Ending)(w':Ba):Prop:=∃A c,e=.returned (.slice A xs.length c)/\Own w' w.heap.size (.slice A xs.length c) xs/\Below w.heap.size w w'
theorem J5(A:Bb)(cap:Nat)(keys:List Int)(hl:keys.length<=100000)(w:Ba)(hA:IAt w w.heap.size A keys) :
  Calls Tryz.prog 118 #[.slice A keys.length cap] w (ZV (yt keys) w):=by
 have HA:=zH hA;clear hA;go_enter Tryz.func118,Tryz.ntmps118;go_wp2_with fail
 go_loopw [3,4,5] (fun o nx i wr=>∃k:Nat,k<=keys.length/\i=.int .i64 (k:Int)/\nx=.int .i64 (((yA (keys.take k)).length:Nat):Int)/\Hid (Own wr w.heap.size o (yt (keys.take k)))/\Hid (Below w.heap.size w wr)) (fun _ _ i _=>keys.length-(intOf i).toNat)
 case atStart=>exact⟨0,by omega,rfl,rfl,Own.nil _ _,Lm _ _⟩
 case round=>
  obtain⟨k,hk,rfl,rfl,HO,hb⟩:=hrel;obtain⟨Ao,co,rfl,_,_,hIo⟩:=HO.out.form;have hll:(yt (keys.take k)).length=k:=by rw[yj];simp;omega
  rw[hll] at HO ⊢
  by_cases hlt:k<keys.length
  . have hul:(yA (keys.take k)).length<=100000:=by have:=XQ (keys.take k);simp at this;omega
    obtain⟨b,off,eA,hbl,z0⟩:=(HA.out.keep hb.out).at_ k hlt;subst eA;obtain⟨y,hy⟩:=Ki (keys[k]);rw[hy] at z0;have HI:=zH (HA.out.keep hb.out);have HIO:=zH hIo;have HKY:=zH hy;have hkl:(k:Int)<(keys.length:Int):=by omega
    have hsn:=qY (keys.take k) y;have hus:=qu (keys.take k) y;have htk:keys.take k++[y]=keys.take (k+1):=by rw[Lu hlt,hy]
    rw[htk] at hsn hus;have HSN:=zH hsn;have HUS:=zH hus;have hbw:b<wr.heap.size:=by have:=hb.out.size;omega
    obtain⟨NX,hNX⟩:=Ki ((yA (keys.take k)).length);rw[hNX] at hul ⊢;have HNX:=zH hNX;obtain⟨wo,hwo⟩:∃wo,wo=wr:=⟨_,rfl⟩;rw[<-hwo] at HO hb HI HIO z0 hbw ⊢;clear hIo hsn hus htk hll hNX hwo;have hk00:(0:Int)<=(k:Int):=by omega
    go_wp2_with fail
    go_loopw [6,7] (fun lb j wq=>∃m q:Nat,m<=k/\j=.int .i64 (m:Int)/\Hid (wq=wo.drewN q)/\((lb=.int .i64 (-1)/\Hid (∀i,i<m->keys.getD i 0≠y))\/∃x:Nat,lb=.int .i64 (x:Int)/\Hid (y∈keys.take k/\x=(yA (keys.take k)).idxOf y/\x<=100000))) (fun _ j _=>k-(intOf j).toNat)
    case atStart=>exact⟨0,0,by omega,rfl,rfl,.inl ⟨rfl,fun i hi=>absurd hi (by omega)⟩⟩
    case round=>
     obtain⟨m,q,hm,rfl,hw,hlb⟩:=hrel;rcases hlb with ⟨rfl,hno⟩ | ⟨x,rfl,hx⟩
     . by_cases hmk:m<k
       . obtain⟨b1,off1,eA1,hbl1,z1⟩:=HI.out.at_ m (by omega)
         cases eA1
         obtain⟨b2,off2,eA2,hbl2,z2⟩:=HIO.out.at_ m (by rw[yj];simp;omega);subst eA2;have hcw:Hid (∀p,wr.cell? p=wo.cell? p):=fun p=>by rw[hw.out];rfl
         have u0:=(hcw.out _).trans z0;have u1:=(hcw.out _).trans z1;have u2:=(hcw.out _).trans z2;obtain⟨t,ht⟩:=Ki (keys[m]'(by omega));rw[ht] at u1
         have hlm:(yt (keys.take k))[m]'(by rw[yj];simp;omega)=(((yA (keys.take k)).idxOf t:Nat):Int):=by
          rw[j5 _ m (by simp;omega)];rw[PA,ht]
         rw[hlm] at u2;have hm0:(0:Int)<=(m:Int):=by omega
         have hm1:(m:Int)<(k:Int):=by omega
         have hm2:(m:Int)<(keys.length:Int):=by omega
         have hgm:keys.getD m 0=t:=by rw[zW (by omega)];exact ht
         have HGM:=zH hgm
         have htm:t∈keys.take k:=by
          rw[<-ht];exact N7.2 ⟨m,by omega,rfl⟩
         have HTM:=zH htm;obtain⟨ix,hix⟩:=Ki ((yA (keys.take k)).idxOf t);rw[hix] at u2;have HIX:=zH hix;clear z1 z2 ht hlm hgm htm hix
         by_cases hty:t=y
         . subst hty
           have hxx:Hid (t∈keys.take k/\ix=(yA (keys.take k)).idxOf t/\ix<=100000):=⟨HTM.out,HIX.out.symm,by
            have h1:=Pn (yo.2 HTM.out);rw[HIX.out] at h1;have h2:=HNX.out
            omega⟩
           clear hno HTM HIX HGM;go_wp2_with fail;go_quiet (fail);go_wp2_with fail
           go_roundw
           case rel=>exact⟨m+1,q+nq,by omega,by go_num,by rw[Hid,hw.out,jj],.inr ⟨ix,rfl,hxx⟩⟩
           case measure=>simp[intOf];omega
         · have hno2 : Hid (∀ i, i < m + 1 → keys.getD i 0 ≠ y) := fun i hi => by
            by_cases e:i=m
            . subst e;rw[HGM.out];exact hty
            . exact hno.out i (by omega)
           clear hno HTM HIX HGM;go_wp2_with fail;go_quiet (fail);go_wp2_with fail
           go_roundw
           case rel=>exact⟨m+1,q+nq,by omega,by go_num,by rw[Hid,hw.out,jj],.inl ⟨rfl,hno2⟩⟩
           case measure=>simp[intOf];omega
       . obtain rfl:m=k:=by omega
         have hny:y∉keys.take m:=fun hin=>by
          obtain⟨i,hi,e⟩:=N7.1 hin;exact hno.out i (by omega) (by rw[zW (by omega)];exact e)
         have HS2:Hid (yt (keys.take (m+1))=yt (keys.take m)++[(NX:Int)]):=by rw[Hid,HSN.out,Lf hny,HNX.out]
         have HU2:Hid ((yA (keys.take (m+1))).length=NX+1):=by
          rw[Hid,HUS.out];unfold qk;rw[Lf (fun e=>hny (yo.1 e)),Lw,HNX.out];rfl
         have hO5:Hid (Own wr w.heap.size (.slice Ao m co) (yt (keys.take m))):=by rw[hw.out];exact HO.out.drewN q
         have hb5:Hid (Below w.heap.size w wr):=by rw[hw.out];exact zY hb.out q
         have hl5:(yt (keys.take m)).length<=100000:=by rw[yj];simp;omega
         clear hno hny HSN HUS hw HI HIO z0;go_wp2_with (at_builtin;go_must (refine xp rfl _ _ rfl w.heap.size (.slice Ao m co) _ (NX:Int) rfl hO5.out rfl (by omega) hb5.out.size ?_);intro v' w5 hown1 hg1 hb1)
         go_roundw
         case rel=>exact⟨m+1,by omega,by go_num,by rw[HU2.out];go_num,by rw[HS2.out];exact hown1,hb5.out.trans hb1⟩
         case measure=>simp[intOf];omega
     . have HS2:Hid (yt (keys.take (k+1))=yt (keys.take k)++[(x:Int)]):=by rw[Hid,HSN.out,Lh hx.out.1,hx.out.2.1]
       have HU2:Hid ((yA (keys.take (k+1))).length=NX):=by
        rw[Hid,HUS.out];unfold qk;rw[Lh (yo.2 hx.out.1),HNX.out]
       have hO5:Hid (Own wr w.heap.size (.slice Ao k co) (yt (keys.take k))):=by rw[hw.out];exact HO.out.drewN q
       have hb5:Hid (Below w.heap.size w wr):=by rw[hw.out];exact zY hb.out q
       have hl5:(yt (keys.take k)).length<=100000:=by rw[yj];simp;omega
       have hx0:¬(x:Int)<0:=by omega
       clear hx HSN HUS hw HI HIO z0
       by_cases hmk:m<k
       . have hm1:(m:Int)<(k:Int):=by omega
         go_wp2_with (at_builtin;go_must (refine xp rfl _ _ rfl w.heap.size (.slice Ao k co) _ (x:Int) rfl hO5.out rfl (by omega) hb5.out.size ?_);intro v' w5 hown1 hg1 hb1)
         go_roundw
         case rel=>exact⟨k+1,by omega,by go_num,by rw[HU2.out],by rw[HS2.out];exact hown1,hb5.out.trans hb1⟩
         case measure=>simp[intOf];omega
       . have hm1:¬(m:Int)<(k:Int):=by omega
         go_wp2_with (at_builtin;go_must (refine xp rfl _ _ rfl w.heap.size (.slice Ao k co) _ (x:Int) rfl hO5.out rfl (by omega) hb5.out.size ?_);intro v' w5 hown1 hg1 hb1)
         go_roundw
         case rel=>exact⟨k+1,by omega,by go_num,by rw[HU2.out],by rw[HS2.out];exact hown1,hb5.out.trans hb1⟩
         case measure=>simp[intOf];omega
  . obtain rfl:k=keys.length:=by omega
    have hO9:=HO.out;rw[LJ] at hO9;have HO9:=zH hO9;clear hO9 HO hlt;go_wp2_with fail;go_ret;refine⟨Ao,co,by rw[yj];rfl,?_,hb.out⟩;rw[yj];exact HO9.out
def kK(a b:List Int)(k:Nat):List Int:=a.take k++b.drop k
theorem jK(a b:List Int):kK a b 0=b:=by simp[kK]
theorem vx{a b:List Int}(h:a.length=b.length){k:Nat}(hk:k=b.length):kK a b k=a:=by subst hk;simp[kK,<-h]
theorem ja{a b:List Int}(h:a.length=b.length)(k:Nat):(kK a b k).length=b.length:=by simp[kK];omega
theorem wK{a b:List Int}(h:a.length=b.length){k:Nat}(hk:k<b.length):(kK a b k)[k]'(by rw[ja h];exact hk)=b[k]:=by
 unfold kK;rw[Pu (by simp;omega)];simp[show min k a.length=k by omega]
theorem midL_get{a b:List Int}(h:a.length=b.length){k:Nat}(hk:k<=b.length)(i:Nat):(kK a b k)[i]?=if i<k then a[i]? else b[i]?:=by
 unfold kK
 by_cases e:i<k
 . rw[Lh e,LW (by simp;omega),N9,Lh e]
 . rw[Lf e,LT (by simp;omega),Ru]
   congr 1
   simp;omega
theorem jL{a b:List Int}(h:a.length=b.length){k:Nat}(hk:k<b.length):(kK a b k).set k (a[k]'(by omega))=kK a b (k+1):=by
 refine List.ext_getElem? fun i=>?_
 rw[RG,midL_get h (by omega),midL_get h (by omega),ja h]
 by_cases e:k=i
 . subst e
   rw[Lh rfl,Lh hk,Lh (by omega),Lq]
 . rw[Lf e]
   by_cases e2:i<k
   . rw[Lh e2,Lh (by omega)]
   . rw[Lf e2,Lf (by omega)]
theorem gS{a b:List Int}(h:a.length=b.length){k:Nat}(hk:k<b.length)(e:a[k]'(by omega)=b[k]):kK a b k=kK a b (k+1):=by
 rw[<-jL h hk,e,<-wK h hk];exact(List.set_getElem_self _).symm
theorem RowAt.iat{w:Ba}{g:Nat}{xs:List Int}(h:RowAt w g xs):IAt w w.heap.size (some ⟨g,0,none⟩) xs:=fun _=>⟨g,0,rfl,h.lt,fun i hi=>by rw[LL];exact h.cell i hi⟩
theorem set3{w:Ba}{g:Nat}{x0 x1 x2:Value}{t:TypeId}(h:w.heap[g]?=some (.cells #[x0,x1,x2] t (0,0)))(y0 y1 y2:Value) :
  ∃W,(((w.setCell ⟨g,0,none⟩ y0).setCell ⟨g,1,none⟩ y1).setCell ⟨g,2,none⟩ y2)=W/\W.heap[g]?=some (.cells #[y0,y1,y2] t (0,0))/\(∀k,k≠g->W.heap[k]?=w.heap[k]?)/\∀B,B<=g->Below B w W:=by
 refine⟨_,rfl,?_,fun k hk=>?_,fun B hB=>?_⟩
 . have a1:=Ln w g 0 _ _ y0 h
   have a2:=Ln _ g 1 _ _ y1 a1;exact Ln _ g 2 _ _ y2 a2
 . exact(Lg _ ⟨g,2,none⟩ y2 k hk).trans ((Lg _ ⟨g,1,none⟩ y1 k hk).trans (Lg _ ⟨g,0,none⟩ y0 k hk))
 . exact(((Lm B w).setCell (by show B<=g;omega) y0).setCell (by show B<=g;omega) y1).setCell (by show B<=g;omega) y2
theorem vT(s:Sy)(K N:Nat)(hF:Fine s K N)(A SV AV AX:Bb)(kc ks kv kx:Nat)(w:Ba) :
  Calls Tryz.prog 67 #[.agg (s.vs_ A kc SV ks AV kv AX kx)] w fun e w'=>e=.returned (.int .i64 (ptn s:Int))/\Below w.heap.size w w':=by
 obtain⟨w1,hw1,d0,hs1,hB⟩:=zm w (s.vs_ A kc SV ks AV kv AX kx) 35;have hlx:=hF.lx;have hk:=hF.k;have hk6:=hF.k6;have hn:ptn s=s.xs.length*(K+1):=by unfold ptn;rw[hk];rfl
 have hb:=LM hlx (show K+1<=7 by omega);rw[hn];unfold Sy.vs_ at hw1 d0 ⊢;rw[hk] at hw1 d0 ⊢;obtain⟨M,hM⟩:=Ki s.xs.length;rw[hM] at hw1 d0 hb hlx ⊢;have HW1:=zH hw1;have HB:=zH hB
 have HWR:Hid (wrap64 ((M:Int)*((K:Int)+1))=((M*(K+1):Nat):Int)):=by
  show wrap64 _=_;rw[show(M:Int)*((K:Int)+1)=((M*(K+1):Nat):Int) by push_cast;rfl];exact IntWalk.wrap64_in _ (by omega)
 have p6:=zh d0 6 rfl;have p9:=zh d0 9 rfl;clear hw1 d0 hB hF hk hn hM hb;go_enter Tryz.func67,Tryz.ntmps67;go_wp2_with fail;rw[HW1.out];go_wp2_with fail;go_ret;exact⟨by rw[<-HWR.out];rfl,HB.out⟩
theorem JX(s:Sy)(K N:Nat)(hF:Fine s K N)(i:Nat)(hi:i<ptn s)(A SV AV AX:Bb)(kc ks kv kx:Nat)(w:Ba)(hX:XAt w w.heap.size AX s.xs) :
  Calls Tryz.prog 162 #[.agg (s.vs_ A kc SV ks AV kv AX kx),.int .i64 (i:Int)] w fun e w'=>∃A1 c1 A2 c2,e=.returned (.tuple #[.agg #[.int .i64 (s.xs.getD (i / (K+1)) default).c,.slice A1 (s.xs.getD (i / (K+1)) default).word.length c1,.slice A2 (s.xs.getD (i / (K+1)) default).views.length c2],.int .i64 ((i % (K+1):Nat):Int)]) /\
   LAt w' w.heap.size A2 (s.xs.getD (i / (K+1)) default).views/\RAt w' w.heap.size A1 (s.xs.getD (i / (K+1)) default).word/\Below w.heap.size w w':=by
 obtain⟨w1,hw1,d0,d1,hs1,hB⟩:=yL w (s.vs_ A kc SV ks AV kv AX kx) #[.int .i64 0,.slice none 0 0,.slice none 0 0] 35 80;have hlx:=hF.lx;have hk:=hF.k;have hk6:=hF.k6;have hn:ptn s=s.xs.length*(K+1):=by unfold ptn;rw[hk];rfl
 have hq:i / (K+1)<s.xs.length:=by rw[hn,Py] at hi;exact Nat.div_lt_of_lt_mul hi
 have hb:=LM hlx (show K+1<=7 by omega);have hil:i<=700:=by omega
 rw[zn hq];obtain⟨bx,ox,A1,c1,A2,c2,eX,hbx,x0,x1,x2,hRw,hL⟩:=(hX.keep hB).row _ hq;subst eX;obtain⟨q,hqq⟩:=Ki (i / (K+1))
 have hq1:((i:Int)).tdiv ((K:Int)+1)=(q:Int):=by
  rw[<-hqq,Int.tdiv_eq_ediv_of_nonneg (by omega)]
  push_cast;rfl
 have hr1:((i:Int)).tmod ((K:Int)+1)=((i % (K+1):Nat):Int):=by
  rw[Int.tmod_eq_emod_of_nonneg (by omega)]
  push_cast;rfl
 simp only[hqq] at hq x0 x1 x2 hRw hL ⊢;have hql:q<=100:=by omega
 obtain⟨rr,hrr⟩:=Ki (i % (K+1));have hrl:rr<K+1:=by rw[<-hrr];exact P8 _ (by omega)
 rw[hrr] at hr1 ⊢;obtain⟨x,hx⟩:=Ki (s.xs[q]);rw[hx] at x0 x1 x2 hRw hL ⊢;unfold Sy.vs_ at hw1 d0 ⊢;rw[hk] at hw1 d0 ⊢;obtain⟨M,hM⟩:=Ki s.xs.length;rw[hM] at hw1 d0 hq ⊢;have HW1:=zH hw1;have HB:=zH hB;have HL:=zH hL;have HRw:=zH hRw;have HD1:=zH d1;have p6:=zh d0 6 rfl;have hd0:=zH d0;have hq0:(0:Int)<=(q:Int):=by omega
 have hq2:(q:Int)<(M:Int):=by omega
 have hkz:¬((K:Int)+1)=0:=by omega
 have hwk:IntKind.i64.wrap ((K:Int)+1)=(K:Int)+1:=by rw[Ll];omega
 have hwq:IntKind.i64.wrap (q:Int)=(q:Int):=by rw[Ll];omega
 have hwr:IntKind.i64.wrap (rr:Int)=(rr:Int):=by rw[Ll];omega
 clear hw1 d0 d1 hB hF hk hn hM hb hX hL hRw hx hqq hrr hlx;go_enter Tryz.func162,Tryz.ntmps162;go_wp2_with fail;rw[HW1.out];go_wp2_with fail;have hbxw:bx<w.heap.size:=by omega
 refine zx [(0,true),(1,true),(2,true),(3,true),(4,true),(5,true),(6,true),(7,true),(8,true),(9,true),(10,false),(11,false)] (fun X=>X.heap[w.heap.size]?=w1.heap[w.heap.size]?/\X.heap[bx]?=w1.heap[bx]?) (by kernel_rfl) (by kernel_rfl) ⟨rfl,rfl⟩ ?_
 repeat
  apply zy rfl
  . rintro K' hK' X ⟨u1,u2⟩
    have y0:=(LE u2).trans x0;have y1:=(LE u2).trans x1;have y2:=(LE u2).trans x2;have y9:X.cell? ⟨w.heap.size,9,none⟩=some (.slice (some ⟨bx,ox,none⟩) M kx):=zh (u1.trans hd0.out) 9 rfl;clear u1 u2;go_simp;exact hK'
 have HBd:=zH (HB.out.drew);have HDd:Hid (w1.drew.heap[w.heap.size+1]?=some (.cells #[.int .i64 0,.slice none 0 0,.slice none 0 0] 80 (0,0))):=HD1.out;have HLd:Hid (LAt w1.drew w.heap.size A2 x.views):=HL.out.keep (Lm _ _).drew;have HRd:Hid (RAt w1.drew w.heap.size A1 x.word):=HRw.out.keep (Lm _ _).drew;have HO0:Hid (w1.drew.heap[w.heap.size]?=w1.heap[w.heap.size]?/\w1.drew.heap[bx]?=w1.heap[bx]?):=⟨rfl,rfl⟩;obtain⟨W5,hW5⟩:=Ki w1.drew;rw[hW5] at HBd HDd HLd HRd HO0 ⊢;clear hW5 HL HRw x0 x1 x2;obtain⟨r0,r1,r2,_⟩:=Kc HDd.out;have g0:=zi HDd.out 0;have g1:=zi HDd.out 1;have g2:=zi HDd.out 2;have l1:=zj HDd.out;refine zA rfl ?_;intro K' hK';go_simp;obtain⟨W,hW,e1,e2,e3⟩:=set3 HDd.out (.int .i64 x.c) (.slice A1 x.word.length c1) (.slice A2 x.views.length c2);rw[hW];have HWB:=zH (e3 w.heap.size (by omega));have hkp:W.heap[w.heap.size]?=w1.heap[w.heap.size]?/\W.heap[bx]?=w1.heap[bx]?:=⟨(e2 _ (by omega)).trans HO0.out.1,(e2 bx (by omega)).trans HO0.out.2⟩;refine hK' _ _ hkp ?_;clear hK' K' r0 r1 r2 g0 g1 g2 l1 hW;refine zA rfl ?_;intro K' hK';go_simp;refine hK' _ _ hkp ?_;refine zL ?_;clear hK' K';go_wp2_with fail;obtain⟨q0,q1,q2,_⟩:=Kc e1;refine L5 (v:=.tuple #[.agg #[.int .i64 x.c,.slice A1 x.word.length c1,.slice A2 x.views.length c2],.int .i64 (rr:Int)]) (by simp[results,Tryz.results162,go_sem,q0,q1,q2]) rfl ?_;exact⟨A1,c1,A2,c2,rfl,HLd.out.keep HWB.out,HRd.out.keep HWB.out,HBd.out.trans HWB.out⟩
theorem rpoint_any(s:Sy)(K N:Nat)(hF:Fine s K N)(i:Nat)(hi:i<ptn s)(A SV AV AX:Bb)(kc ks kv kx:Nat)(w:Ba)(hX:XAt w w.heap.size AX s.xs) :
  Calls Tryz.prog 162 #[.agg (s.vs_ A kc SV ks AV kv AX kx),.int .i64 (i:Int)] w fun e w'=>∃A1 c1 A2 c2,e=.returned (.tuple #[.agg #[.int .i64 (s.xs.getD (i / (K+1)) default).c,.slice A1 (s.xs.getD (i / (K+1)) default).word.length c1,.slice A2 (s.xs.getD (i / (K+1)) default).views.length c2],.int .i64 ((i % (K+1):Nat):Int)]) /\
   LAt w' w.heap.size A2 (s.xs.getD (i / (K+1)) default).views/\Below w.heap.size w w':=
 (JX s K N hF i hi A SV AV AX kc ks kv kx w hX).mono fun e w' h=>by
  obtain⟨A1,c1,A2,c2,h1,h2,_,h3⟩:=h;exact⟨A1,c1,A2,c2,h1,h2,h3⟩
theorem rview_any(s:Sy)(K N:Nat)(hF:Fine s K N)(i q:Nat)(hi:i<ptn s)(hq:q<N)(A SV AV AX:Bb)(kc ks kv kx:Nat)(w:Ba)(hX:XAt w w.heap.size AX s.xs) :
  Calls Tryz.prog 117 #[.agg (s.vs_ A kc SV ks AV kv AX kx),.int .i64 (i:Int),.int .i64 (q:Int)] w fun e w'=>e=.returned (.int .i64 ((qF s q).getD i 0))/\Below w.heap.size w w':=by
 obtain⟨w1,hw1,d0,hs1,hB⟩:=zm w (s.vs_ A kc SV ks AV kv AX kx) 35;have hk:=hF.k;have hn:ptn s=s.xs.length*(K+1):=by unfold ptn;rw[hk];rfl
 have hql:i / (K+1)<s.xs.length:=by rw[hn,Py] at hi;exact Nat.div_lt_of_lt_mul hi
 have HP:=zH (rpoint_any s K N hF i hi A SV AV AX kc ks kv kx w1 ((hX.keep hB).more hB.size));obtain⟨hvl,hrow⟩:=hF.views _ (Ld hql)
 have hkey:(qF s q).getD i 0=xw (s.xs.getD (i / (K+1)) default) (i % (K+1)) q:=by
  have hil:i<(qF s q).length:=by rw[vW];exact hi
  rw[zW hil,keyL_at,hk,Lo]
 rw[hkey];rw[zn hql] at HP ⊢;obtain⟨x,hx⟩:=Ki (s.xs[i / (K+1)]);rw[hx] at HP hvl hrow ⊢;obtain⟨rr,hrr⟩:=Ki (i % (K+1));have hrl:rr<K+1:=by rw[<-hrr];exact P8 _ (by omega)
 rw[hrr] at HP ⊢;have hrv:rr<x.views.length:=by omega
 have hrow2:=(hrow _ (Ld hrv)).1;have hxw:xw x rr q=(x.views[rr]).getD q 0:=by unfold xw;rw[zn hrv]
 rw[hxw];have hqr:q<(x.views[rr]).length:=by omega
 rw[zW hqr];have HVLn:=zH hvl;rw[hvl] at HP;unfold Sy.vs_ at hw1 d0 HP ⊢;have HW1:=zH hw1;have HB:=zH hB;obtain⟨p0,p1,p2,p3,p4,p5,p6,p7,p8,p9⟩:=zw d0;clear hw1 d0 hB hF hk hn hX hkey hx hrr hrow hxw hvl;go_enter Tryz.func117,Tryz.ntmps117;go_wp2_with fail;rw[HW1.out];go_wp2_with fail;refine HP.out.mono ?_;rintro e w2 ⟨A1,c1,A2,c2,rfl,hL,hb2⟩;have HB2:=zH (HB.out.trans (hb2.mono (by omega)));have HL:=zH hL;have hs12:=hb2.size;clear p0 p1 p2 p3 p4 p5 p6 p7 p8 p9 hb2 hL HW1 HP;go_upto_region 2 with fail
 obtain⟨w3,hw3,d3,hs3,hB3⟩:=zm w2 #[.int .i64 x.c,.slice A1 x.word.length c1,.slice A2 (K+1) c2] 80;rw[hw3];have HL3:=zH (HL.out.keep (hB3.mono hs12));have HB3:=zH (Lc HB2.out hB3);have z2:=zh d3 2 rfl;clear hw3 d3 hB3 HL;obtain⟨bl,ol,A3,c3,eL,hbl,y1,hI⟩:=HL3.out.at_ rr hrv;subst eL;obtain⟨b4,o4,e4,hb4,z4⟩:=hI.at_ q hqr;subst e4;obtain⟨u,hu⟩:=Ki ((x.views[rr])[q]);rw[hu] at z4;have HU:=zH hu;obtain⟨nr,hnr⟩:=Ki ((x.views[rr]).length);rw[hnr] at y1 hrow2 hqr;have h1:(0:Int)<=(rr:Int):=by omega
 have h2:(rr:Int)<((K+1:Nat):Int):=by omega
 have h22:(rr:Int)<(K:Int)+1:=by omega
 have h3:(0:Int)<=(q:Int):=by omega
 have h4:(q:Int)<(nr:Int):=by omega
 clear hu hnr hI;go_wp2_with fail;go_ret;exact⟨by rw[HU.out];rfl,HB3.out⟩
theorem JZ(s:Sy)(K N:Nat)(hF:Fine s K N)(q:Nat)(hq:q<N)(A SV AV AX:Bb)(kc ks kv kx:Nat)(w:Ba)(hX:XAt w w.heap.size AX s.xs) :
  Calls Tryz.prog 83 #[.agg (s.vs_ A kc SV ks AV kv AX kx),.int .i64 (q:Int)] w (ZV (zX s q) w):=by
 obtain⟨w1,hw1,d0,hs1,hB⟩:=zm w (s.vs_ A kc SV ks AV kv AX kx) 35;have HSZ:=zH (fun (X:Ba)=>vT s K N hF A SV AV AX kc ks kv kx X);have HVW:=zH (fun (i:Nat) (hi:i<ptn s) (X:Ba) (hX:XAt X X.heap.size AX s.xs)=>rview_any s K N hF i q hi hq A SV AV AX kc ks kv kx X hX)
 have hpn:ptn s<=700:=by
  have hk:=hF.k;have hk6:=hF.k6;have:=LM hF.lx (show s.p.k.toNat+1<=7 by omega);unfold ptn;omega
 have hkl:(qF s q).length=ptn s:=by rw[vW];rfl
 have HLB:=zH (fun (A:Bb) (c:Nat) (X:Ba) (hI:IAt X X.heap.size A (qF s q))=>J5 A c (qF s q) (by omega) X hI);have HCL:Hid (zX s q=yt (qF s q)):=rfl;rw[HCL.out];obtain⟨L,hL⟩:=Ki (qF s q);obtain⟨n,hn⟩:=Ki (ptn s);rw[hL] at HVW HLB hkl ⊢;rw[hn] at HSZ HVW hpn hkl;have HX:=zH (hX.keep hB);unfold Sy.vs_ at hw1 d0 HSZ HVW ⊢;have HW1:=zH hw1;have HB:=zH hB;have HD:=zH d0;clear hw1 d0 hB hF hX hL hn HCL hq;go_enter Tryz.func83,Tryz.ntmps83;go_wp2_with fail;rw[HW1.out];go_wp2_with fail;clear HW1
 go_loopw [5,6] (fun o i wr=>∃k:Nat,k<=n/\i=.int .i64 (k:Int)/\Hid (Own wr w1.heap.size o (L.take k))/\Hid (Below w1.heap.size w1 wr)) (fun _ i _=>n-(intOf i).toNat)
 case atStart=>exact⟨0,by omega,rfl,Own.nil _ _,Lm _ _⟩
 case round=>
  obtain⟨k,hk,rfl,HO,hb⟩:=hrel;obtain⟨Ao,co,rfl,_,_,hIo⟩:=HO.out.form;have htl:(L.take k).length=k:=by simp;omega
  rw[htl] at HO ⊢;have dd:=La hb.out HD.out;obtain⟨p0,p1,p2,p3,p4,p5,p6,p7,p8,p9⟩:=zw dd;clear dd hIo;go_wp2_with fail;refine(HSZ.out wr).mono ?_;rintro e w2 ⟨rfl,hb2⟩;have hsz:=hb.out.size;have HB2:=zH (hb.out.trans (hb2.mono hsz));have HO2:=zH (HO.out.below hb2 (Le _));clear p0 p1 p2 p3 p4 p5 p6 p7 p8 p9 hb2;have dd:=La HB2.out HD.out;obtain⟨p0,p1,p2,p3,p4,p5,p6,p7,p8,p9⟩:=zw dd;clear dd
  by_cases hlt:k<n
  . have hkn:(k:Int)<(n:Int):=by omega
    have HC:=zH (HVW.out k hlt w2 ((HX.out.keep (HB2.out.mono (by omega))).more (by have:=HB2.out.size;omega)));have htk:L.take k++[L.getD k 0]=L.take (k+1):=by rw[zW (by omega),Lu (by omega)]
    have HTK:=zH htk;obtain⟨u,hu⟩:=Ki (L.getD k 0);rw[hu] at HC HTK;clear htk hu;go_wp2_with fail;refine HC.out.mono ?_;rintro e w3 ⟨rfl,hb3⟩;have hsz2:=HB2.out.size;have HB3:=zH (HB2.out.trans (hb3.mono hsz2));have HO3:=zH (HO2.out.below hb3 (Le _));have hsz3:=HB3.out.size;clear hb3 HC p0 p1 p2 p3 p4 p5 p6 p7 p8 p9 HO2 HO HB2;go_wp2_with (at_builtin;go_must (refine xp rfl _ _ rfl w1.heap.size (.slice Ao k co) (L.take k) u rfl HO3.out rfl (by omega) hsz3 ?_);intro v' w5 hown1 hg1 hb1)
    go_roundw
    case rel=>exact⟨k+1,by omega,by go_num,by rw[<-HTK.out];exact hown1,HB3.out.trans hb1⟩
    case measure=>simp[intOf];omega
  . obtain rfl:k=n:=by omega
    have hO9:=HO2.out;rw[<-hkl,LJ] at hO9
    have HI9:Hid (IAt w2 w2.heap.size Ao L):=by
     obtain⟨A',c',e',_,_,hI'⟩:=hO9.form;simp only[Value.slice.injEq] at e';obtain⟨e1',-,-⟩:=e';subst e1';exact hI'
    have HC:=zH (HLB.out Ao co w2 HI9.out);rw[hkl] at HC;clear hO9 HO HO2 HSZ HVW HLB p0 p1 p2 p3 p4 p5 p6 p7 p8 p9;go_wp2_with fail;refine HC.out.mono ?_;rintro e w3 ⟨A5,c5,rfl,ho5,hb5⟩;have hsz2:=HB2.out.size;have HO5:=zH ho5;have HB5:=zH (HB2.out.trans (hb5.mono hsz2));clear hb5 ho5;go_wp2_with fail;go_ret;exact⟨A5,c5,rfl,HO5.out.low (by have:=HB2.out.size;omega),HB.out.trans (HB5.out.mono (by omega))⟩
theorem YQ(s:Sy)(K N:Nat)(hF:Fine s K N)(A SV AV AX:Bb)(kc ks kv kx:Nat)(w:Ba) :
  Calls Tryz.prog 69 #[.agg (s.vs_ A kc SV ks AV kv AX kx)] w fun e w'=>e=.returned (.int .i64 (ptn s:Int))/\Below w.heap.size w w':=by
 obtain⟨w1,hw1,d0,hs1,hB⟩:=zm w (s.vs_ A kc SV ks AV kv AX kx) 35;have hlx:=hF.lx;have hk:=hF.k;have hk6:=hF.k6;have hn:ptn s=s.xs.length*(K+1):=by unfold ptn;rw[hk];rfl
 have hb:=LM hlx (show K+1<=7 by omega);rw[hn];unfold Sy.vs_ at hw1 d0 ⊢;rw[hk] at hw1 d0 ⊢;obtain⟨M,hM⟩:=Ki s.xs.length;rw[hM] at hw1 d0 hb hlx ⊢;have HW1:=zH hw1;have HB:=zH hB
 have HWR:Hid (wrap64 ((M:Int)*((K:Int)+1))=((M*(K+1):Nat):Int)):=by
  show wrap64 _=_;rw[show(M:Int)*((K:Int)+1)=((M*(K+1):Nat):Int) by push_cast;rfl];exact IntWalk.wrap64_in _ (by omega)
 have p6:=zh d0 6 rfl;have p9:=zh d0 9 rfl;clear hw1 d0 hB hF hk hn hM hb;go_enter Tryz.func69,Tryz.ntmps69;go_wp2_with fail;rw[HW1.out];go_wp2_with fail;go_ret;exact⟨by rw[<-HWR.out];rfl,HB.out⟩
def uk(s:Sy):Int×Int:=if zZ s≠0 then (0,zZ s) else ((ptn s:Int),0)
theorem pCount_any(s:Sy)(hs:LowS s)(hf:yM s.p)(A SV AV AX:Bb)(kc ks kv kx:Nat)(w:Ba)(hS:SyAt w w.heap.size A SV AV AX s) :
  Calls Tryz.prog 78 #[.agg (s.vs_ A kc SV ks AV kv AX kx)] w fun e w'=>e=.returned (.tuple #[.int .i64 (uk s).1,.int .i64 (uk s).2])/\Below w.heap.size w w':=by
 obtain⟨w1,hw1,d0,hs1,hB⟩:=zm w (s.vs_ A kc SV ks AV kv AX kx) 35;have HV:=zH (wg s hs hf A SV AV AX kc ks kv kx w1 (hS.up hB));have HE0:Hid (zZ s≠0->uk s=(0,zZ s)):=fun h=>Lh h
 have HE1:Hid (zZ s=0->uk s=((ptn s:Int),0)/\∀X,Calls Tryz.prog 69 #[.agg (s.vs_ A kc SV ks AV kv AX kx)] X fun e w'=>e=.returned (.int .i64 (ptn s:Int))/\Below X.heap.size X w'):=fun h=>by
  obtain⟨_,K,N,hF⟩:=yv hf h;exact⟨Lf (by simpa using h),fun X=>YQ s K N hF A SV AV AX kc ks kv kx X⟩
 obtain⟨r,hr⟩:=Ki (zZ s);rw[hr] at HV HE0 HE1;obtain⟨R,hRR⟩:=Ki (uk s);rw[hRR] at HE0 HE1 ⊢;unfold Sy.vs_ at hw1 d0 HV HE1 ⊢;have HW1:=zH hw1;have HB:=zH hB;have HD:=zH d0;obtain⟨p0,p1,p2,p3,p4,p5,p6,p7,p8,p9⟩:=zw (d0);clear hw1 d0 hB hS hr hRR hs hf;go_enter Tryz.func78,Tryz.ntmps78;go_wp2_with fail;rw[HW1.out];go_wp2_with fail;refine HV.out.mono ?_;rintro e w2 ⟨rfl,hb2⟩;have HB2:=zH (HB.out.trans (hb2.mono (by omega)));have d0:=Lb hb2 (by omega:w.heap.size<w1.heap.size) HD.out;clear p0 p1 p2 p3 p4 p5 p6 p7 p8 p9 hb2 HV HW1 HD;obtain⟨p0,p1,p2,p3,p4,p5,p6,p7,p8,p9⟩:=zw (d0);clear d0
 by_cases h0:r=0
 case neg=>
  have hR:Hid (R=(0,r)):=HE0.out h0;have e0:(r != 0)=true:=by simpa using h0
  clear HE0 HE1;go_wp2_with fail
  go_ret2
  rw[hR.out];exact⟨rfl,HB2.out⟩
 case pos=>
 subst h0;obtain⟨hRe,hC⟩:=HE1.out rfl;have HC:=zH (hC w2);have hR:=zH hRe;clear HE0 HE1 hRe hC;go_wp2_with fail;refine HC.out.mono ?_;rintro e w3 ⟨rfl,hb3⟩;have HB3:=zH (Lc HB2.out hb3);clear hb3 HC HB2 p0 p1 p2 p3 p4 p5 p6 p7 p8 p9;go_wp2_with fail
 go_ret2
 rw[hR.out];exact⟨rfl,HB3.out⟩
theorem ZK(s:Sy)(hs:LowS s)(hf:yM s.p)(g:Int)(A SV AV AX:Bb)(kc ks kv kx:Nat)(w:Ba)(hS:SyAt w w.heap.size A SV AV AX s) :
  Calls Tryz.prog 68 #[.agg (s.vs_ A kc SV ks AV kv AX kx),.int .i64 g] w fun e w'=>e=.returned (.int .i64 (zQ s g))/\Below w.heap.size w w':=by
 obtain⟨w1,hw1,d0,hs1,hB⟩:=zm w (s.vs_ A kc SV ks AV kv AX kx) 35;have HV:=zH (wg s hs hf A SV AV AX kc ks kv kx w1 (hS.up hB));have HE0:Hid (zZ s≠0->zQ s g=zZ s):=fun h=>Lh h
 have HE1:Hid (zZ s=0->zQ s g=if xE s.n g=0 then 0 else 2):=fun h=>by
  obtain⟨_,K,N,hF⟩:=yv hf h;have hn:=hF.n;have hn1:=hF.n1;have hn5:=hF.n5;have h2:((2^N:Nat):Int)=(2:Int)^N:=by push_cast;rfl
  have h3:¬(s.n<1\/5<s.n):=by omega
  have e2:zQ s g=if g<0\/(2:Int)^N<=g then 2 else 0:=by unfold zQ;rw[Lf (by simpa using h),hn,Lo]
  have e3:xE s.n g=if g<0\/(2:Int)^N<=g then 2 else 0:=by unfold xE;rw[Lf h3,hn,Lo,h2]
  rw[e2,e3]
  by_cases hg:g<0\/(2:Int)^N<=g
  . simp only[if_pos hg];rfl
  . simp only[if_neg hg];rfl
 obtain⟨r,hr⟩:=Ki (zZ s);rw[hr] at HV HE0 HE1;obtain⟨R,hRR⟩:=Ki (zQ s g);rw[hRR] at HE0 HE1 ⊢;unfold Sy.vs_ at hw1 d0 HV ⊢;have HW1:=zH hw1;have HB:=zH hB;have HD:=zH d0;obtain⟨p0,p1,p2,p3,p4,p5,p6,p7,p8,p9⟩:=zw (d0);clear hw1 d0 hB hS hr hRR hs hf;go_enter Tryz.func68,Tryz.ntmps68;go_wp2_with fail;rw[HW1.out];go_wp2_with fail;refine HV.out.mono ?_;rintro e w2 ⟨rfl,hb2⟩;have HB2:=zH (HB.out.trans (hb2.mono (by omega)));have d0:=Lb hb2 (by omega:w.heap.size<w1.heap.size) HD.out;clear p0 p1 p2 p3 p4 p5 p6 p7 p8 p9 hb2 HV HW1 HD
 by_cases h0:r=0
 case neg=>
  have hR:Hid (R=r):=HE0.out h0;have e0:(r != 0)=true:=by simpa using h0
  clear HE0 HE1 d0;go_wp2_with fail;go_ret;rw[hR.out];exact⟨rfl,HB2.out⟩
 case pos=>
 subst h0;have p7:=zh d0 7 rfl;have HC:=zH (Qu s.n g w2);have hR:=zH (HE1.out rfl);obtain⟨q,hq⟩:=Ki (xE s.n g);rw[hq] at HC hR;clear HE0 HE1 d0 hq;go_wp2_with fail;refine HC.out.mono ?_;rintro e w3 ⟨rfl,rfl⟩;clear HC p7
 by_cases h1:q=0
 . subst h1
   have hR2:Hid (R=0):=hR.out;clear hR;go_wp2_with fail;go_ret;rw[hR2.out];exact⟨rfl,HB2.out⟩
 . have hR2:Hid (R=2):=by rw[Hid,hR.out,Lf h1]
   have e1:(q != 0)=true:=by simpa using h1
   clear hR;go_wp2_with fail;go_ret;rw[hR2.out];exact⟨rfl,HB2.out⟩
end
section
open Go.RowKit Go.Shelf
attribute [local go_sem] Oper.semAt_some
theorem make_frst(n:Nat)(hn:n<=100000)(W:Ba):(Instr.makeSlice 112 (.int .i64 n) (.int .i64 n)).run Tryz.prog W=.ok (.slice (some ⟨W.heap.size,0,none⟩) n n) (W.alloc (.cells ((List.replicate n 0).map (Value.int .i64)).toArray 3)):=by
 obtain⟨i0,hi,hz0,hz1,hz2⟩:=xa gZ;have hb:i0.bytes=8:=hz2;have hs:i0.size=1:=hz1;have h:=run_make (P:=Tryz.prog) W 112 3 i0 (.int .i64 0) Tryz.underlying112 hi hz0 .i64 .i64 (n:Int) (n:Int) (by omega) (SF _) (by rw[hb];omega) (by omega);rw[h,hs];simp only[Int.toNat_natCast];rw[show(Value.int .i64 0).cells=#[.int .i64 0] from rfl,made_row]
structure ReIn(H E n:Nat)(S:Array Value)(w X:Ba)(L:List (Nat×Int))(c:Nat):Prop where
 below:Below H w X
 b7:X.heap[H+1]?=some (.cells #[.slice (some ⟨H,0,none⟩) n n] 112 (0,0))
 b9:X.heap[E+1]?=some (.cells #[.map (some E)] 113 (0,0))
 b10:X.heap[E+1+1]?=some (.cells #[.int .i64 (c:Int)] 3 (0,0))
 b5:X.heap[E+1+1+1]?=some (.cells S 35 (0,0))
 row:∃f ρ h,RowAt X H f/\Frst n f ρ h/\FrT n (shr L) ρ
 hm:∃m,MapOf (Value.int .i64) X E m (ve L)
 sz:E+4<=X.heap.size
 he:H+2=E
section
variable {H E n c c':Nat} {S:Array Value} {w X X':Ba} {L L':List (Nat×Int)}
theorem ReIn.upd(h:ReIn H E n S w X L c)(hb:Below H X X')(hk:∀k,H<k->k<E+4->k≠E->k≠E+1+1->X'.heap[k]?=X.heap[k]?)(hr:∃f ρ h,RowAt X' H f/\Frst n f ρ h/\FrT n (shr L') ρ)(hm:∃m,MapOf (Value.int .i64) X' E m (ve L'))
  (h10:X'.heap[E+1+1]?=some (.cells #[.int .i64 (c':Int)] 3 (0,0))):ReIn H E n S w X' L' c':=by
 have he:=h.he;exact⟨h.below.trans hb,(hk _ (by omega) (by omega) (by omega) (by omega)).trans h.b7,(hk _ (by omega) (by omega) (by omega) (by omega)).trans h.b9,h10,(hk _ (by omega) (by omega) (by omega) (by omega)).trans h.b5,hr,hm,LB h.sz hb.size,he⟩
theorem ReIn.same(h:ReIn H E n S w X L c)(hb:Below (E+4) X X'):ReIn H E n S w X' L c:=by
 have he:=h.he;obtain⟨f,ρ,hh,r1,r2,r3⟩:=h.row;obtain⟨m,hm⟩:=h.hm;exact h.upd (hb.mono (by omega)) (fun k _ h2 _ _=>hb.block k h2) ⟨f,ρ,hh,Lb hb (by omega) r1,r2,r3⟩ ⟨m,hm.same (hb.block _ (by omega))⟩ (Lb hb (by omega) h.b10)
theorem ReIn.turn{row:Option Nat}(h:ReIn H E n S w X L c)(hg:X.grownBy X' row)(hr:∀r,row=some r->E+4<=r):ReIn H E n S w X' L c:=
 h.same ((Lm _ _).grown hg h.sz hr)
end
theorem vO{H:Nat}{w w':Ba}(h:Wrote (fun k=>k=H) w w')(hH:H<=w.heap.size):Below H w w':=⟨h.os,h.tape,h.output,h.size,fun k hk=>h.block k (by omega) (by omega)⟩
theorem shL_low{V:Nat×Nat->Nat->Int}{ps:List Nat}{pre:List (Nat×Nat)}{p:Nat×Int}(h:p∈shL V ps pre):p.1<pre.length:=by
 obtain⟨i,v⟩:=p;exact(wS.1 h).1
theorem rowPr_low{V:Nat×Nat->Nat->Int}{ps:List Nat}{c:Nat}{x:Nat×Nat}{p:Nat×Int}(h:p∈qH V ps c x):p.1=c:=by
 unfold qH at h;obtain⟨q,_,rfl⟩:=LY.1 h
 rfl
theorem reach_any(s:Sy)(hs:LowS s)(hf:yM s.p)(g:Int)(A SV AV AX:Bb)(kc ks kv kx:Nat)(w:Ba)(hS:SyAt w w.heap.size A SV AV AX s) :
  Calls Tryz.prog 35 #[.agg (s.vs_ A kc SV ks AV kv AX kx),.int .i64 g] w (RetOE (uV s g).1 (uV s g).2 w):=by
 obtain⟨w1,hw1,d0,d1,hs1,hB⟩:=yL w (s.vs_ A kc SV ks AV kv AX kx) #[.int .i64 g] 35 3;have HG:=zH (ZK s hs hf g A SV AV AX kc ks kv kx w1 (hS.up hB));have HX:=zH (hS.keep hB).fx;have HE0:Hid (zQ s g≠0->uV s g=([],zQ s g)):=fun h=>Lh h
 have HE1:Hid (zQ s g=0->uV s g=(yE (ptn s) (XN s g),0)):=fun h=>Lf (by simpa using h)
 have HVF:=zH (fun h=>yv hf (kV (s:=s) (g:=g) h).1);have HRV:=zH (fun h=>(kV (s:=s) (g:=g) h).2);obtain⟨r,hr⟩:=Ki (zQ s g);rw[hr] at HG HE0 HE1 HVF HRV;obtain⟨R,hRR⟩:=Ki (uV s g);rw[hRR] at HE0 HE1 ⊢;have HU:Hid (s.vs_ A kc SV ks AV kv AX kx=#[.int .i64 s.p.t.n,.int .i64 s.p.t.ins,.int .i64 s.p.t.outs,.slice A s.p.t.cases.length kc,.int .i64 s.p.a.n,.slice SV s.p.a.sts.length ks,.int .i64 s.p.k,.int .i64 s.n,.slice AV s.vs.length kv,.slice AX s.xs.length kx]):=rfl;unfold Sy.vs_ at hw1 d0 HG ⊢;have HW1:=zH hw1;have HB:=zH hB;have HD:=zH d0;have HD1:=zH d1;have q0:=zh d1 0 rfl;obtain⟨p0,p1,p2,p3,p4,p5,p6,p7,p8,p9⟩:=zw (d0);clear hw1 d0 d1 hB hS hr hRR hs hf;refine yQ Tryz.func35 rfl ?_;simp only[Tryz.ntmps35,List.size_toArray,List.length_cons,List.length_nil,Nat.reduceAdd,Nat.reduceSub,Array.replicate_succ,Array.replicate_zero,List.push_toArray,List.append_toArray,List.nil_append,List.cons_append];go_wp2_with fail;rw[HW1.out];go_wp2_with fail;refine HG.out.mono ?_;rintro e w2 ⟨rfl,hb2⟩;have HB2:=zH (HB.out.trans (hb2.mono (by omega)));have HD:=zH (La hb2 HD.out);have HD1:=zH (La hb2 HD1.out);have HX2:=zH (HX.out.keep (hb2.mono (by omega)));clear p0 p1 p2 p3 p4 p5 p6 p7 p8 p9 q0 hb2 HG HW1 HX
 by_cases h0:r=0
 case neg=>
  have hR:Hid (R=([],r)):=HE0.out h0;have e0:(r != 0)=true:=by simpa using h0
  clear HE0 HE1 HD HD1 HVF HRV;go_wp2_with fail;refine xn (Marks.nil w.heap.size w2) (v:=.tuple #[.slice none 0 0,.int .i64 r]) (fun W=>by kernel_rfl) ?_;intro X hX;rw[hR.out];exact⟨none,0,rfl,Own.nil _ _,HB2.out.trans hX.below⟩
 case pos=>
 subst h0;obtain⟨hsb,K,N,hF⟩:=HVF.out rfl;have hSe:Sees s K N:=by rw[hsb];exact uW (by rw[<-hsb];exact hF)
 clear hsb;have hR:=zH (HE1.out rfl);obtain⟨hg0,hg1⟩:=HRV.out rfl;obtain⟨G,rfl⟩:=Lr hg0;have HC:=zH (YQ s K N hF A SV AV AX kc ks kv kx w2);rw[HU.out] at HC;have HN5:=zH hF.n5
 have hG32:G<32:=by
  rw[hF.n,Lo] at hg1;have:=Nb (n:=2) (show 0<2 by omega) HN5.out;have h2:((2^N:Nat):Int)=(2:Int)^N:=by push_cast;rfl
  omega
 have hpn:ptn s<=700:=by
  have hk:=hF.k;have hk6:=hF.k6;have:=LM hF.lx (show K+1<=7 by omega);unfold ptn;rw[hk,Lo];omega
 have HPS:Hid (psG s (G:Int)=zr G N):=by show psG s _=_;unfold psG;rw[hF.n];rfl
 have HLB:Hid (∀ρ,FrT (ptn s) (shr (shL (vwP s) (psG s G) (zu (K+1) 0 s.xs.length))) ρ->yt ((zu (K+1) 0 s.xs.length).map fun x=>(ρ (x.1*(K+1)+x.2):Int))=yE (ptn s) (XN s G)):=fun ρ h=>Q8 hF hSe h
 have HFF:=zH hF
 have HPN:Hid ((zu (K+1) 0 s.xs.length).length=ptn s):=by
  show _=_;have hk:s.p.k.toNat=K:=by have:=hF.k;omega
  rw[xU _ _ (by omega)];unfold ptn;rw[hk]
 obtain⟨n,hn⟩:=Ki (ptn s);rw[hn] at HC HLB hpn HPN hR;have hmk:=make_frst n (by omega);obtain⟨AR,har⟩:=Ki (((List.replicate n 0).map (Value.int .i64)).toArray);rw[har] at hmk;have HAR:=zH har;obtain⟨p0,p1,p2,p3,p4,p5,p6,p7,p8,p9⟩:=zw (HD.out);clear HE0 HE1 HVF HRV hg0 hg1 hF hSe hn har;go_wp2_with fail;refine HC.out.mono ?_;rintro e w3 ⟨rfl,hb3⟩;have HB3:=zH (Lc HB2.out hb3);have HD:=zH (La hb3 HD.out);have HD1:=zH (La hb3 HD1.out);have HX3:=zH (HX2.out.keep (hb3.mono HB2.out.size));clear p0 p1 p2 p3 p4 p5 p6 p7 p8 p9 hb3 HC HB2 HX2;go_upto_region 5 with fail
 obtain⟨a4,h4,x4,y4,z4⟩:=zm w3 AR 3;rw[h4];obtain⟨a5,h5,x5,y5,z5⟩:=zm a4 #[.slice (some ⟨w3.heap.size,0,none⟩) n n] 112;rw[h5];rw[y4] at x5 y5;have HB5:=zH (z4.trans (z5.mono (by omega)));obtain⟨al,hal⟩:∃al,(List.range n).map (fun (i:Nat)=>(i:Int))=al:=⟨_,rfl⟩;have hall:al.length=n:=by rw[<-hal];simp
 have halk:Hid (∀k (h:k<al.length),al[k]=(k:Int)):=fun k h=>by subst hal;simp
 have hbl:(List.replicate n (0:Int)).length=n:=by simp
 have hab:al.length=(List.replicate n (0:Int)).length:=by rw[hall,hbl]
 have HAL:=zH hal;have HALL:=zH hall;have HBL:=zH hbl;have HAB:=zH hab
 have HR5:Hid (RowAt a5 w3.heap.size (kK al (List.replicate n 0) 0)):=by
  rw[jK];show _=_;rw[HAR.out];exact Lb z5 (by omega) x4
 have H75:=zH x5;have hys:a5.heap.size=w3.heap.size+1+1:=y5;have HYS:=zH hys;have p0:=zh x5 0 rfl;clear h4 x4 y4 z4 h5 x5 y5 z5 hal hall hbl hab hys hmk;go_wp2_with fail
 go_loopw [27] (fun i wr=>∃k:Nat,k<=n/\i=.int .i64 (k:Int)/\Hid (RowAt wr w3.heap.size (kK al (List.replicate n 0) k))/\Hid (wr.heap[w3.heap.size+1]?=some (.cells #[.slice (some ⟨w3.heap.size,0,none⟩) n n] 112 (0,0)))/\Hid (Below w3.heap.size w3 wr)/\Hid (wr.heap.size=w3.heap.size+1+1)) (fun i _=>n-(intOf i).toNat)
 case atStart=>exact⟨0,by omega,rfl,HR5,H75,HB5,HYS⟩
 case round=>
  obtain⟨k,hk,rfl,hrow,h7,hb,hz⟩:=hrel;clear HR5 H75 HB5 HYS p0;have p0:=zh h7.out 0 rfl
  by_cases hlt:k<n
  . have hkb:k<(List.replicate n (0:Int)).length:=by rw[HBL.out];exact hlt
    have hml:=ja HAB.out k;have y0:=hrow.out.cell k (by rw[hml];exact hkb);have f0:=hrow.out.froz k;have hka:k<al.length:=by rw[HALL.out];exact hlt
    have hset:=jL HAB.out hkb;rw[halk.out k hka] at hset;have hnew:=hrow.out.set k (k:Int);rw[hset] at hnew;have HNEW:=zH hnew;have HBN:=zH (hb.out.setCell (p:=⟨w3.heap.size,k,none⟩) (by show w3.heap.size<=w3.heap.size;omega) (.int .i64 (k:Int)));have H7N:Hid ((wr.setCell ⟨w3.heap.size,k,none⟩ (.int .i64 (k:Int))).heap[w3.heap.size+1]?=some (.cells #[.slice (some ⟨w3.heap.size,0,none⟩) n n] 112 (0,0))):=(Lg wr ⟨w3.heap.size,k,none⟩ _ _ (by show w3.heap.size+1≠w3.heap.size;omega)).trans h7.out;have HZN:Hid ((wr.setCell ⟨w3.heap.size,k,none⟩ (.int .i64 (k:Int))).heap.size=w3.heap.size+1+1):=by rw[Hid,<-hz.out];simp[World.setCell]
    have hk0:(0:Int)<=(k:Int):=by omega
    have hk1:(k:Int)<(n:Int):=by omega
    have hl3:=hrow.out.lt;obtain⟨u,hu⟩:=Ki ((kK al (List.replicate n 0) k)[k]'(by rw[hml];exact hkb));rw[hu] at y0;clear hset hnew hml hkb hka hrow hb hu;go_wp2_with fail
    go_roundw
    case rel=>exact⟨k+1,by omega,by go_num,HNEW,H7N,HBN,HZN⟩
    case measure=>simp[intOf];omega
  . obtain rfl:n=k:=by omega
    have hrow2:=hrow.out;rw[vx HAB.out (by rw[HBL.out])] at hrow2;have HROW:Hid (RowAt wr w3.heap.size ((List.range n).map fun (i:Nat)=>(i:Int))):=by rw[HAL.out];exact hrow2
    clear hrow hrow2 HAB HBL HALL halk HAL HAR p0;obtain⟨wE,rfl⟩:∃x,x=wr:=⟨_,rfl⟩;have hmm:=@run_makeMap Tryz.prog;go_upto_region 12 with fail
    obtain⟨b1,e1⟩:=Ki (wE.alloc (.map #[] 0));have m1:MapOf (Value.int .i64) b1 wE.heap.size 0 (fun _=>none):=by rw[<-e1];exact MapOf.made wE
    have s1:b1.heap.size=wE.heap.size+1:=by rw[<-e1];simp
    have z1:Below wE.heap.size wE b1:=by rw[<-e1];exact yg _ _
    rw[e1];obtain⟨b2,e2,x2,s2,z2⟩:=zm b1 #[.map (some wE.heap.size)] 113;rw[e2];obtain⟨b3,e3,x3,s3,z3⟩:=zm b2 #[.int .i64 0] 3;rw[e3];rw[s1] at x2 s2;rw[s2] at x3 s3;obtain⟨S,hS⟩:∃S:Array Value,#[.int .i64 s.p.t.n,.int .i64 s.p.t.ins,.int .i64 s.p.t.outs,.slice A s.p.t.cases.length kc,.int .i64 s.p.a.n,.slice SV s.p.a.sts.length ks,.int .i64 s.p.k,.int .i64 s.n,.slice AV s.vs.length kv,.slice AX s.xs.length kx]=S:=⟨_,rfl⟩;obtain⟨b4,e4,x4,s4,z4⟩:=zm b3 S 35;rw[s3] at x4 s4;have HALc:=Yk s A SV AV AX kc ks kv kx b3;have e4':b3.alloc (.cells #[.int .i64 s.p.t.n,.int .i64 s.p.t.ins,.int .i64 s.p.t.outs,.slice A s.p.t.cases.length kc,.int .i64 s.p.a.n,.slice SV s.p.a.sts.length ks,.int .i64 s.p.k,.int .i64 s.n,.slice AV s.vs.length kv,.slice AX s.xs.length kx] 35)=b4:=by rw[hS];exact e4
    rw[HU.out,s3,e4'] at HALc;have hB34:Below w3.heap.size w3 b4:=hb.out.trans ((z1.trans ((z2.mono (by omega)).trans ((z3.mono (by omega)).trans (z4.mono (by omega))))).mono (by have:=hb.out.size;omega));have hold:∀k,k<wE.heap.size->b4.heap[k]?=wE.heap[k]?:=fun k hk=>Lb z4 (by omega) (Lb z3 (by omega) (Lb z2 (by omega) (z1.block _ hk)))
    have hzo:=hz.out
    have hRe:ReIn w3.heap.size wE.heap.size n S w3 b4 (shL (vwP s) (psG s G) []) 0:=
     ⟨hB34,(hold _ (by omega)).trans h7.out,Lb z4 (by omega) (Lb z3 (by omega) x2),Lb z4 (by omega) x3,x4,⟨_,id,fun _=>0,(hold _ (by omega)).trans HROW.out,Frst.start n,FrT.start n⟩,
      ⟨0,by rw[show shL (vwP s) (psG s G) []=[] from rfl,fstG_nil];exact m1.same (Lb z4 (by omega) (Lb z3 (by omega) (z2.block _ (by omega))))⟩,by omega,by omega⟩
    have hC:PtC S K s.xs.length AX kx:=⟨by rw[<-hS,<-HFF.out.k];rfl,by rw[<-hS];rfl⟩;have HIT:=zH (uf S K s.xs.length (by have:=HFF.out.k6;omega) (by have:=HFF.out.lx;omega) AX kx hC (wE.heap.size+1+1+1) b4 hRe.b5);have HC1:=zH HALc;have HRE:=zH hRe;have HSS:=zH hS;have HS4:Hid (b4.heap.size=wE.heap.size+4):=s4;have HD3:Hid (∀X,Below w3.heap.size w3 X->X.heap[w.heap.size]?=some (.cells #[.int .i64 s.p.t.n,.int .i64 s.p.t.ins,.int .i64 s.p.t.outs,.slice A s.p.t.cases.length kc,.int .i64 s.p.a.n,.slice SV s.p.a.sts.length ks,.int .i64 s.p.k,.int .i64 s.n,.slice AV s.vs.length kv,.slice AX s.xs.length kx] 35 (0,0))/\X.heap[w.heap.size+1]?=some (.cells #[.int .i64 (G:Int)] 3 (0,0))/\XAt X w.heap.size AX s.xs):=fun X hX=>⟨La hX HD.out,La hX HD1.out,HX3.out.keep (hX.mono HB3.out.size)⟩
    have HB33:Hid (Below w3.heap.size w3 b3):=hb.out.trans ((z1.trans ((z2.mono (by omega)).trans (z3.mono (by omega)))).mono (by have:=hb.out.size;omega));obtain⟨p0,p1,p2,p3,p4,p5,p6,p7,p8,p9⟩:=zw (((HD3.out b3 HB33.out).1));clear e1 m1 s1 z1 e2 x2 s2 z2 e3 x3 s3 z3 hS e4 e4' x4 s4 z4 HALc hB34 hold hzo hRe hC h7 HROW hb hz HD HD1 HX3 hmm;go_wp2_with fail;refine HC1.out.mono ?_;rintro e w5 ⟨rfl,rfl⟩;clear HC1 p0 p1 p2 p3 p4 p5 p6 p7 p8 p9;go_wp2_with fail
    refine kN rfl (N5 RT (by kernel_rfl) rfl) HIT.out (by rintro x rfl;have:=HS4.out;omega) (fun _=>rfl)
     (fun (pre:List { x:Nat×Nat // x∈zu (K+1) 0 s.xs.length }) (X:Ba)=>ReIn w3.heap.size wE.heap.size n S w3 X (shL (vwP s) (psG s G) (pre.map (·.1))) pre.length)
     (fun _ _ _=>False) ?hI (fun _ _ _ _ _ h _ _=>h) HRE.out (fun x=>#[.int .i64 x.1,.int .i64 x.2]) 118 ?a1 ?assign ?body ?done ?stop (fun _ _ h=>by have:=h.sz;have:=HS4.out;omega)
    case hI=>
     intro pre X X' row hX hg hr;exact hX.turn hg fun r e=>by have:=(hr r e).1;have:=HS4.out;omega
    case assign=>
     intro l pre x X K' hI hK;obtain⟨g',hg'⟩:∃g',g'=X.heap.size:=⟨_,rfl⟩;have HK:=zH (hK g' hg' (hI.same ((yg X _).mono hI.sz)));have HGg:=zH hg';clear hK hg' hI;gi_wp2;rw[<-HGg.out];exact HK.out
    case body=>
     intro l pre x gp X3 hgp hgb hI hlt;obtain⟨⟨e,k⟩,hxm⟩:=x;obtain⟨_,hx1,hx2⟩:=xu _ _ _ hxm;have he:e<s.xs.length:=by simp only at hx1;omega
     have hk:k<=K:=by simp only at hx2;omega
     have HSN:Hid (shL (vwP s) (psG s G) ((pre++[(⟨(e,k),hxm⟩:{ x:Nat×Nat // x∈zu (K+1) 0 s.xs.length })]).map (·.1))=shL (vwP s) (psG s G) (pre.map (·.1))++qH (vwP s) (psG s G) pre.length (e,k)):=by
      show _=_;rw[LP,L3,Ny,shL_snoc,LF]
     have hcn:pre.length<n:=by have:=HPN.out;omega
     have hll:∀p∈shL (vwP s) (psG s G) (pre.map (·.1)),p.1<pre.length:=fun p hp=>by have:=shL_low hp;rwa[LF] at this
     obtain⟨L0,hL0⟩:=Ki (shL (vwP s) (psG s G) (pre.map (·.1)));rw[hL0] at HSN hI hll;have HLE:Hid ((pre++[(⟨(e,k),hxm⟩:{ x:Nat×Nat // x∈zu (K+1) 0 s.xs.length })]).length=pre.length+1):=by show _=_;simp
     obtain⟨c,hc⟩:=Ki pre.length;rw[hc] at HSN hI hcn HLE hll;have HLL:=zH hll;obtain⟨hd,hd1,hXA⟩:=HD3.out X3 hI.below;obtain⟨hvl,hrow⟩:=HFF.out.views _ (Ld he);obtain⟨bx,ox,A1,c1,A2,c2,eX,hbx,x0,x1,x2,hRw,hLv⟩:=hXA.row e he;obtain⟨y,hy⟩:∃y,y=s.xs[e]:=⟨_,rfl⟩;have HVW:Hid (∀q,vwP s (e,k) q=xw y k q):=fun q=>by unfold vwP;rw[zn he,hy]
     rw[<-hy] at hvl hrow x2 hLv;obtain⟨bl,ol,A3,c3,eL,hbl,y1,hIr⟩:=hLv.at_ k (by omega);subst eL;obtain⟨hl,hpos⟩:=hrow _ (Ld (by omega:k<y.views.length));have hxw:∀q,xw y k q=(y.views[k]'(by omega)).getD q 0:=fun q=>by unfold xw;rw[zn (by omega:k<y.views.length)]
     obtain⟨row,hrw⟩:=Ki (y.views[k]'(by omega));rw[hrw] at y1 hIr hl hpos;have HXW:Hid (∀q,vwP s (e,k) q=row.getD q 0):=fun q=>by rw[HVW.out,hxw,hrw]
     obtain⟨nv,hnv⟩:=Ki y.views.length;rw[hnv] at x2 hvl;rw[hl] at y1;have HIR:Hid (∀X,Below w3.heap.size w3 X->IAt X w.heap.size A3 row):=fun X hX=>hIr.sameB fun z hz=>(hX.block z (by have:=HB3.out.size;omega)).trans (hI.below.block z (by have:=HB3.out.size;omega)).symm
     have HRL:=zH hl;have hwH:=HB3.out.size;have HI:=zH hI;have p9:X3.drew.cell? ⟨w.heap.size,9,none⟩=some (.slice AX s.xs.length kx):=zh hd 9 rfl;have g0:X3.drew.cell? ⟨gp,0,none⟩=some (.int .i64 (e:Int)):=zh hgb 0 rfl;have g1:X3.drew.cell? ⟨gp,1,none⟩=some (.int .i64 (k:Int)):=zh hgb 1 rfl;subst eX;have x2:X3.drew.cell? ⟨bx,ox+e*3+2,none⟩=some (.slice (some ⟨bl,ol,none⟩) nv c2):=x2;have y1:X3.drew.cell? ⟨bl,ol+k,none⟩=some (.slice A3 N c3):=y1;have h1:(0:Int)<=(e:Int):=by omega
     have h2:(e:Int)<(s.xs.length:Int):=by omega
     have h3:(0:Int)<=(k:Int):=by omega
     have h4:(k:Int)<(nv:Int):=by omega
     have HBK:=zH (And.intro hk hcn);have H35:=zH hI.b5;clear hll hd hd1 hXA hRw hLv hIr hI hpos hrow hxw hrw hL0 hvl hnv hl x0 x1 hx1 hx2 hlt hc HVW he hy hbx hbl HIT HRE hgb hcn hk;gi_wp2_with fail;refine yW [(0,true),(1,true),(2,true),(3,true),(4,true),(5,true),(6,true),(7,true),(8,true),(9,true),(10,true),(11,true),(12,true)] (fun X=>X=X3.drew) (by kernel_rfl) (by kernel_rfl) (by kernel_rfl) (by rintro⟨_,_,h⟩;exact h) rfl ?_
     repeat
      apply zy rfl
      . rintro K' hK' X rfl
        go_simp;exact hK'
     refine zL ?_;have HI5:Hid (ReIn w3.heap.size wE.heap.size n S w3 X3.drew L0 c):=HI.out.same ((Lm _ _).drew);have HO5:Hid (X3.drew.heap=X3.heap):=rfl;obtain⟨W5,hW5⟩:=Ki X3.drew;rw[hW5] at HI5 HO5 ⊢;have ht:Tryz.prog.underlying 113=some (.map 3 3):=Tryz.underlying113;have hz:∀W:Ba,(zeroValue 3).run Tryz.prog W=.ok (.int .i64 0) W:=fun W=>by kernel_rfl
     have HTM:=zH ht;have HZ:=zH hz;clear hW5 p9 g0 g1 x2 y1 h1 h2 h3 h4 HI ht hz;gi_wp2_with fail
     gi_loopw [51] (fun i wr=>∃j:Nat,j<=N/\i=.int .i64 (j:Int)/\Hid (ReIn w3.heap.size wE.heap.size n S w3 wr (L0++qH (vwP s) (zr G j) c (e,k)) c)/\Hid (Wrote (fun z=>z<wE.heap.size+4) W5 wr)) (fun i _=>N-(intOf i).toNat)
     case atStart => exact ⟨0, by omega, rfl, by have e0 : zr G 0 = [] := by simp [zr]
                                                 rw[e0,rowPr_nil,Nk];exact HI5,Wrote.refl _ _⟩
     case round=>
      obtain⟨j,hj,rfl,hRe,hWr⟩:=hrel;clear HI5;have hHE:=hRe.out.he;have hszq:=hRe.out.sz;obtain⟨_,hd1,_⟩:=HD3.out wr hRe.out.below
      by_cases hjl:j<N
      . have hb0:=QG hG32 (show j<5 by have:=HN5.out;omega)
        obtain⟨b6,o6,rfl,hb6,z0⟩:=(HIR.out wr hRe.out.below).at_ j (by rw[HRL.out];exact hjl);have hu0:=HXW.out j;rw[zW (by rw[HRL.out];exact hjl)] at hu0;obtain⟨u,hu⟩:=Ki (row[j]'(by rw[HRL.out];exact hjl));rw[hu] at z0 hu0;have HU0:=zH hu0;have q0:=zh hd1 0 rfl;have hj0:(0:Int)<=(j:Int):=by omega
        have hj1:(j:Int)<(N:Int):=by omega
        have hG00:(0:Int)<=(G:Int):=by omega
        have hj5:j<5:=by have:=HN5.out;omega
        have hmn:min j 64=j:=by omega
        clear hu hu0 hd1
        by_cases hbit:G.testBit j=true
        case neg=>
         have hbf:G.testBit j=false:=by simpa using hbit
         rw[hbf] at hb0;have hE:zr G (j+1)=zr G j:=by rw[xM,Lf hbit]
         have hRe2:Hid (ReIn w3.heap.size wE.heap.size n S w3 wr (L0++qH (vwP s) (zr G (j+1)) c (e,k)) c):=by rw[hE];exact hRe
         clear hRe hE hbit hbf;gi_wp2_with fail
         go_roundw
         case rel=>exact⟨j+1,by omega,by go_num,hRe2,hWr⟩
         case measure=>simp[intOf];omega
        case pos=>
        rw[hbit] at hb0;have hE:L0++qH (vwP s) (zr G (j+1)) c (e,k)=L0++qH (vwP s) (zr G j) c (e,k)++[(c,u)]:=by rw[xM,Lh hbit,rowPr_snoc,HU0.out,Nd]
        have HE:=zH hE
        have HL1:Hid (∀p∈L0++qH (vwP s) (zr G j) c (e,k),p.1<n):=fun p hp=>by
         have h9:=HBK.out.2;rcases Nh.1 hp with h | h
         . have:=HLL.out p h;omega
         . have:=rowPr_low h;omega
        obtain⟨L1,hL1⟩:=Ki (L0++qH (vwP s) (zr G j) c (e,k));rw[hL1] at HE hRe HL1;have q9:=zh hRe.out.b9 0 rfl;have q10:=zh hRe.out.b10 0 rfl;obtain⟨m,hm⟩:=hRe.out.hm;obtain⟨f,ρ,hh,r1,r2,r3⟩:=hRe.out.row;have hlk:=hm.look2 yp HTM.out (HZ.out wr) u;clear hE hL1 hbit
        cases hf:ve L1 u with
        | none=>
         rw[hf] at hlk;simp only[Option.getD_none,Option.isSome_none] at hlk;obtain⟨W6,hrun,hm6,hg6⟩:=hm.put yp HTM.out u (.int .i64 (c:Int));rw[fstG_put hf] at hm6;have hb6:Below w3.heap.size wr W6:=(Lm _ _).grown hg6 (by omega) (fun r e=>by cases e;omega)
         have hRe6:Hid (ReIn w3.heap.size wE.heap.size n S w3 W6 (L0++qH (vwP s) (zr G (j+1)) c (e,k)) c):=by
          rw[HE.out];exact hRe.out.upd hb6 (fun z _ h2 h3 _=>hg6.block z (by omega) (fun e=>h3 (by cases e;rfl))) ⟨f,ρ,hh,(hg6.block _ (by omega) (fun e=>by have:=LO e;omega)).trans r1,r2,r3.fresh (fstG_none hf)⟩ ⟨_,hm6⟩ ((hg6.block _ (by omega) (fun e=>by have:=LO e;omega)).trans hRe.out.b10)
         have HW6:Hid (Wrote (fun z=>z<wE.heap.size+4) W5 W6):=hWr.out.trans (Wrote.of_grown hg6 (fun z e _=>by cases e;omega)) (fun _ _ h=>h);clear hm hm6 hg6 hb6 r1 r2 r3 hf hRe hWr;gi_wp2_with fail
         go_roundw
         case rel=>exact⟨j+1,by omega,by go_num,hRe6,HW6⟩
         case measure=>simp[intOf];omega
        | some v=>
         rw[hf] at hlk;simp only[Option.getD_some,Option.isSome_some] at hlk;obtain⟨i,rfl,him⟩:=fstG_some hf;have hin:i<n:=HL1.out _ him;have hcn:=HBK.out.2;obtain⟨ra1,ra2⟩:=r2.root c hcn;obtain⟨rb1,rb2⟩:=r2.root i hin;have HJT:=zH (r3.join hcn hin him);have HJF:Hid (∀f',Frst n f' ρ hh->Frst n (f'.set (ρ c) (ρ i:Int)) _ _):=fun f' F'=>F'.join hcn hin
         have HC1:=zH (YF n ρ hh f r2 c hcn w3.heap.size wr.drew r1);have HC2:=zH (fun (f':List Int) (F':Frst n f' ρ hh) (X:Ba) (hr:RowAt X w3.heap.size f')=>YF n ρ hh f' F' i hin w3.heap.size X hr);obtain⟨a,ha⟩:=Ki (ρ c);obtain⟨b,hb⟩:=Ki (ρ i);rw[ha] at ra1 HC1 HJF HJT;rw[hb] at HC2 HJF HJT;have ha0:(0:Int)<=(a:Int):=by omega
         have ha1:(a:Int)<(n:Int):=by omega
         have HRA:=zH ra1;have HMM:=zH (show MapOf (Value.int .i64) wr wE.heap.size m (ve (L1++[(c,u)])) by rw[fstG_keep hf];exact hm);have HBX:=zH (And.intro hRe.out.b7 hRe.out.b10);have hlH:w3.heap.size<wr.heap.size:=r1.lt;clear r1 r2 r3 ra1 ra2 rb1 rb2 him hf hm ha hb HL1;gi_wp2_with fail;refine yW [(0,true),(1,true),(2,true),(4,true),(5,true),(3,false),(6,false),(7,false),(8,false)] (fun X=>X.heap[w3.heap.size+1]?=some (.cells #[.slice (some ⟨w3.heap.size,0,none⟩) n n] 112 (0,0))/\X.heap[wE.heap.size+1+1]?=some (.cells #[.int .i64 (c:Int)] 3 (0,0))) (by kernel_rfl) (by kernel_rfl) (by kernel_rfl) (by rintro⟨_,_,h⟩;exact h) HBX.out ?_
         repeat
          apply zy rfl
          . rintro K' hK' X ⟨y1,y2⟩
            have p7:=zh y1 0 rfl;have p10:=zh y2 0 rfl;clear y1 y2;go_simp;exact hK'
         refine zA rfl ?_;intro K' hK';go_simp;refine HC1.out.mono ?_;rintro e W6 ⟨rfl,⟨f6,F6,R6⟩,hw6⟩;have HBX6:Hid (W6.heap[w3.heap.size+1]?=some (.cells #[.slice (some ⟨w3.heap.size,0,none⟩) n n] 112 (0,0))/\W6.heap[wE.heap.size+1+1]?=some (.cells #[.int .i64 (c:Int)] 3 (0,0))):=⟨(hw6.block _ (by show _<wr.heap.size;omega) (by omega)).trans HBX.out.1,(hw6.block _ (by show _<wr.heap.size;omega) (by omega)).trans HBX.out.2⟩;refine hK' _ _ HBX6.out ?_;clear hK' K' HC1;have HC3:=zH (HC2.out f6 F6 W6 R6);have HW6:Hid (Wrote (fun z=>z=w3.heap.size) wr W6):=(Wrote.of_below ((Lm _ wr).drew)).trans hw6 (fun _ _ h=>h);clear hw6 R6 F6 HC2;refine zA rfl ?_;intro K' hK';go_simp;refine HC3.out.mono ?_;rintro e W7 ⟨rfl,⟨f7,F7,R7⟩,hw7⟩;have HW7:=zH (HW6.out.trans hw7 (fun _ _ h=>h));have hs7:=HW7.out.size;have HBX7:Hid (W7.heap[w3.heap.size+1]?=some (.cells #[.slice (some ⟨w3.heap.size,0,none⟩) n n] 112 (0,0))/\W7.heap[wE.heap.size+1+1]?=some (.cells #[.int .i64 (c:Int)] 3 (0,0))):=⟨(HW7.out.block _ (by omega) (by omega)).trans HBX.out.1,(HW7.out.block _ (by omega) (by omega)).trans HBX.out.2⟩;refine hK' _ _ HBX7.out ?_;clear hK' K';refine zA rfl ?_;intro K' hK';go_simp;refine hK' _ _ HBX7.out ?_;clear hK' K' HC3 hw7 HBX6 HW6;have hfl7:a<f7.length:=by rw[F7.len];exact HRA.out
         have y0:=R7.cell a hfl7;have y1:=R7.froz a;have y2:=R7.lt;have hset:=R7.set a (b:Int);have hoth:∀z,z≠w3.heap.size->(W7.setCell ⟨w3.heap.size,a,none⟩ (.int .i64 (b:Int))).heap[z]?=W7.heap[z]?:=fun z hz=>Lg W7 ⟨w3.heap.size,a,none⟩ _ z hz
         have hw8:Wrote (fun z=>z=w3.heap.size) W7 (W7.setCell ⟨w3.heap.size,a,none⟩ (.int .i64 (b:Int))):=Wrote.of_grown (zU W7 w3.heap.size a _) (fun z e _=>by cases e;rfl);have hw9:=HW7.out.trans hw8 (fun _ _ h=>h)
         have hRe8:Hid (ReIn w3.heap.size wE.heap.size n S w3 (W7.setCell ⟨w3.heap.size,a,none⟩ (.int .i64 (b:Int))) (L0++qH (vwP s) (zr G (j+1)) c (e,k)) c):=by
          rw[HE.out];exact hRe.out.upd (vO hw9 (by omega)) (fun z h1 h2 _ _=>hw9.block z (by omega) (by omega)) ⟨_,_,_,hset,HJF.out f7 F7,HJT.out⟩ ⟨_,HMM.out.same (hw9.block _ (by omega) (by omega))⟩ ((hw9.block _ (by omega) (by omega)).trans HBX.out.2)
         have HW8:Hid (Wrote (fun z=>z<wE.heap.size+4) W5 (W7.setCell ⟨w3.heap.size,a,none⟩ (.int .i64 (b:Int)))):=hWr.out.trans hw9 (fun z _ h=>by omega);have HBX8:Hid ((W7.setCell ⟨w3.heap.size,a,none⟩ (.int .i64 (b:Int))).heap[w3.heap.size+1]?=some (.cells #[.slice (some ⟨w3.heap.size,0,none⟩) n n] 112 (0,0))/\(W7.setCell ⟨w3.heap.size,a,none⟩ (.int .i64 (b:Int))).heap[wE.heap.size+1+1]?=some (.cells #[.int .i64 (c:Int)] 3 (0,0))):=⟨(hoth _ (by omega)).trans HBX7.out.1,(hoth _ (by omega)).trans HBX7.out.2⟩;obtain⟨u7,hu7⟩:=Ki (f7[a]'hfl7);rw[hu7] at y0;clear hset hoth hw8 hw9 F7 R7 hu7 hRe hWr;refine zA rfl ?_;intro K' hK';go_simp;refine hK' _ _ HBX8.out ?_;clear hK' K';refine zL ?_;gi_wp2_with fail
         go_roundw
         case rel=>exact⟨j+1,by omega,by go_num,hRe8,HW8⟩
         case measure=>simp[intOf];omega
      . obtain rfl:N=j:=by omega
        have hq:=hRe.out.b10;have q10:=zh hq 0 rfl;have f10:=zi hq 0;have l10:=zj hq;have hcn:=HBK.out.2;have hwc:IntKind.i64.wrap ((c:Int)+1)=(c:Int)+1:=by rw[Ll];omega
        obtain⟨x1,x2,x3⟩:=set_box hq (.int .i64 ((c:Int)+1))
        have hend:Hid (ReIn w3.heap.size wE.heap.size n S w3 (wr.setCell ⟨wE.heap.size+1+1,0,none⟩ (.int .i64 ((c:Int)+1))) (L0++qH (vwP s) (zr G N) c (e,k)) (c+1)):=by
         obtain⟨f,ρ,hh,r1,r2,r3⟩:=hRe.out.row;obtain⟨m,hm⟩:=hRe.out.hm;exact hRe.out.upd ((Lm _ _).setCell (by show w3.heap.size<=wE.heap.size+1+1;omega) _) (fun z _ _ _ h=>x3 z h) ⟨f,ρ,hh,(x3 _ (by omega)).trans r1,r2,r3⟩ ⟨m,hm.same (x3 _ (by omega))⟩ (by push_cast;exact x1)
        have hw9:Hid (Wrote (fun z=>z<wE.heap.size+4) W5 (wr.setCell ⟨wE.heap.size+1+1,0,none⟩ (.int .i64 ((c:Int)+1)))):=hWr.out.trans (Wrote.of_grown (grown_set hq _) (fun z e _=>by cases e;omega)) (fun _ _ h=>h);clear x1 x2 x3 hq hRe hWr hd1;gi_wp2_with fail;refine⟨⟨by have:=hw9.out.size;rw[HO5.out] at this;exact this,fun z o h1 h2 _=>?_⟩,⟨by have:=hw9.out.size;rw[HO5.out] at this;exact this,fun z h1 _=>?_⟩,?_⟩
        . have h4:=HS4.out
          have h5:=zj h2;exact(hw9.out.block z (by rw[HO5.out];exact(Lp.1 h2).1) (by omega)).trans (by rw[HO5.out];exact h2)
        . subst h1
          exact hend.out.b5.trans H35.out.symm
        . dsimp only
          rw[HSN.out,HLE.out,HPS.out];exact hend.out
    case done=>
     intro D ys W hD hys hI hDk
     have hlen:ys.length=n:=by
      have h:=congrArg List.length hys;rw[LF] at h;rw[h];exact HPN.out
     rw[hys] at hI;obtain⟨f,ρ,hh,r1,r2,r3⟩:=hI.row;have hres:=HLB.out ρ r3;obtain⟨hd,hd1,hXA⟩:=HD3.out W hI.below;have hwH:=HB3.out.size;have hwHW:=hI.below.size;have hwlt:=zj (HD3.out w3 (Lm _ _)).1
     have hidx:∀x∈zu (K+1) 0 s.xs.length,x.1*(K+1)+x.2<n:=fun x hx=>by
      obtain⟨_,h1,h2⟩:=xu _ _ x hx;have h3:=HPN.out;rw[xU _ _ (by omega)] at h3;have h4:=LM (show x.1+1<=s.xs.length by omega) (Le (K+1));rw[Re,Nat.one_mul] at h4;omega
     have hnb:=wF s K s.xs.length (by have:=HFF.out.k6;omega) (by have:=HFF.out.lx;omega) HFF.out.k rfl A SV AV AX kc ks kv kx 73 #[.pointer (some ⟨w3.heap.size+1,0,none⟩),.pointer (some ⟨w.heap.size,0,none⟩)]
      (N5 Tryz.func73 (by kernel_rfl) rfl) (fun x=>(ρ (x.1*(K+1)+x.2):Int)) (fun k=>k=w3.heap.size)
      (fun X=>(∃f',Frst n f' ρ hh/\RowAt X w3.heap.size f')/\X.heap[w3.heap.size+1]?=some (.cells #[.slice (some ⟨w3.heap.size,0,none⟩) n n] 112 (0,0))/\X.heap[w.heap.size]?=some (.cells #[.int .i64 s.p.t.n,.int .i64 s.p.t.ins,.int .i64 s.p.t.outs,.slice A s.p.t.cases.length kc,.int .i64 s.p.a.n,.slice SV s.p.a.sts.length ks,.int .i64 s.p.k,.int .i64 s.n,.slice AV s.vs.length kv,.slice AX s.xs.length kx] 35 (0,0))/\W.heap.size<=X.heap.size) W (fun _ h=>by subst h;exact r1.lt)
      ⟨⟨f,r2,r1⟩,hI.b7,hd,Le _⟩
      (fun X X' hJ hw=>by
       obtain⟨⟨f',F',R'⟩,j1,j2,j3⟩:=hJ;have hl1:=R'.lt;have hl7:=zj hI.b7;have hl2:=zj hd;have old:∀z,z<W.heap.size->X'.heap[z]?=X.heap[z]?:=fun z hz=>hw.block z (by omega) (by omega)
       exact⟨⟨f',F',(old _ r1.lt).trans R'⟩,(old _ hl7).trans j1,(old _ (by omega)).trans j2,LB j3 hw.size⟩)
      (fun x hx X hJ hX=>by
       obtain⟨⟨f',F',R'⟩,j1,j2,j3⟩:=hJ;refine(reach1_any n K (by omega) (by have:=HFF.out.k6;omega) ρ hh f' F' x.1 x.2 (hidx x hx) _ (by show some _=some _;rw[<-HFF.out.k];rfl) w3.heap.size (w3.heap.size+1) w.heap.size X R' j1 j2).mono ?_;rintro r w' ⟨rfl,⟨f2,F2,R2⟩,hw⟩;have hl7:=zj j1;have hl2:=zj j2
       exact⟨rfl,⟨⟨f2,F2,R2⟩,(hw.block _ hl7 (by omega)).trans j1,(hw.block _ hl2 (by omega)).trans j2,LB j3 hw.size⟩,hw⟩)
     rw[hres,HU.out] at hnb;have HC:=zH hnb;have HBW:=zH (HB3.out.trans (hI.below.mono hwH));have HDk:=zH hDk;have hgD:w3.heap.size<D:=by have:=HS4.out;have:=hI.he;omega
     have HDD:=zH hd;have hWH:w3.heap.size<=W.heap.size:=hwHW;obtain⟨p0,p1,p2,p3,p4,p5,p6,p7,p8,p9⟩:=zw hd;clear hnb hI r1 r2 r3 hres hd hd1 hXA hidx hDk hys hlen HIT HRE;go_wp2_with fail;refine HC.out.mono ?_;rintro e W9 ⟨v,rfl,ho,_,hw9⟩;obtain⟨A9,c9,rfl,_,_,_⟩:=ho.form;have HO:=zH ho;have HW9:=zH (vO hw9 hWH);have HD9:Hid (W9.heap[D]?=some (Obj.deferred (some []))):=(hw9.block _ (Lp.1 HDk.out).1 (by omega)).trans HDk.out;clear hw9 HC p0 p1 p2 p3 p4 p5 p6 p7 p8 p9;go_wp2_with fail;refine xn (B:=w3.heap.size) (w:=W9) (show Marks w3.heap.size _ W9 from⟨[D],rfl,by simp,fun r hr=>by rw[LZ] at hr;subst hr;exact⟨by omega,HD9.out⟩⟩) (v:=.tuple #[.slice A9 (yE n (XN s G)).length c9,.int .i64 0]) (fun W=>by kernel_rfl) ?_;intro X hS;rw[hR.out];exact⟨A9,c9,rfl,(HO.out.shut hS).low (by omega),HBW.out.trans ((HW9.out.trans hS.below).mono hwH)⟩
    case stop=>
     intro D c pre W _ _ h;exact h.elim
end
section
open Go.RowKit Go.Shelf
attribute [local go_sem] Oper.semAt_some
def XE(r:Int)(i:Nat)(x:Int)(o:List Int):List Int:=if 0<r/\0<=x then o.set i (bits BinOp.or IntKind.i64 (o.getD i 0) (o.getD x.toNat 0)) else o
def jA(v:Vw)(i:Nat)(o:List Int):Nat->List Int
 | 0=>o.set i ((2^v.p.toNat:Nat):Int)
 | q+1=>XE v.r i (v.h q) (jA v i o q)
def kB(vs:List Vw):Nat->List Int
 | 0=>List.replicate vs.length 0
 | k+1=>jA (vs.getD k default) k (kB vs k) 5
theorem hrd1_len{r:Int}{i:Nat}{x:Int}{o:List Int}:(XE r i x o).length=o.length:=by unfold XE;split<;>simp
theorem Y4{v:Vw}{i:Nat}{o:List Int}(q:Nat):(jA v i o q).length=o.length:=by
 induction q with
 | zero=>simp[jA]
 | succ q ih=>rw[jA,hrd1_len,ih]
theorem jM{vs:List Vw}(k:Nat):(kB vs k).length=vs.length:=by
 induction k with
 | zero=>simp[kB]
 | succ k ih=>rw[kB,Y4,ih]
theorem index_h5(v:Vw)(k:Nat)(hk:k<5)(w:Ba):(Instr.index 128 (.agg #[.int .i64 v.h0,.int .i64 v.h1,.int .i64 v.h2,.int .i64 v.h3,.int .i64 v.h4]) (.int .i64 (k:Int))).run Tryz.prog w=.ok (.int .i64 (v.h k)) w:=by
 obtain rfl | rfl | rfl | rfl | rfl:k=0\/k=1\/k=2\/k=3\/k=4:=by omega
 all_goals kernel_rfl
theorem pheard_any(s:Sy)(hn:s.vs.length<=2100)(hv:∀v∈s.vs,(∃q:Nat,v.p=(q:Int)/\q<5)/\∀q,q<5->v.h q<(s.vs.length:Int))(A SV AV AX:Bb)(kc ks kv kx:Nat)(w:Ba)(hV:VAt w w.heap.size AV s.vs) :
  Calls Tryz.prog 138 #[.agg (s.vs_ A kc SV ks AV kv AX kx)] w fun e w'=>∃g:Nat,e=.returned (.slice (some ⟨g,0,none⟩) s.vs.length s.vs.length)/\w.heap.size<=g/\RowAt w' g (kB s.vs s.vs.length)/\Below w.heap.size w w':=by
 obtain⟨w1,hw1,d0,hs1,hB⟩:=zm w (s.vs_ A kc SV ks AV kv AX kx) 35;obtain⟨w2,hw2,d2,hs2,hB2⟩:=zm w1 ((List.replicate s.vs.length 0).map (Value.int .i64)).toArray 3;have hmk:=vY s.vs.length (by omega);have hBB:Below w.heap.size w w2:=hB.trans (hB2.mono (by omega));have hR0:Hid (RowAt w2 (w.heap.size+1) (kB s.vs 0)):=by rw[<-hs1];exact d2
 have HD:=zH (Lb hB2 (by omega:w.heap.size<w1.heap.size) d0);have HV:Hid (VAt w2 w.heap.size AV s.vs):=hV.keep hBB;obtain⟨vs,hvs⟩:=Ki s.vs;unfold Sy.vs_ at hw1 d0 HD ⊢;rw[hvs] at hw1 hw2 d0 hmk hR0 HV HD hn hv ⊢;obtain⟨n,hnn⟩:=Ki vs.length;have HNL:=zH hnn;rw[hnn] at hw1 hw2 d0 HD hmk hn hv ⊢;have HVV:=zH hv;have HW1:=zH hw1;have HW2:=zH hw2;have HBB:=zH hBB;have p8:=zh d0 8 rfl;have HMK:=zH hmk;clear hw1 hw2 d0 d2 hB hB2 hBB hV hv hvs hmk hnn;go_enter Tryz.func138,Tryz.ntmps138;go_upto_region 1 with fail
 rw[HW1.out];have hmk:=HMK.out;go_upto_region 2 with fail
 rw[show((w1.alloc (.cells (Array.replicate n (Value.int .i64 0)) 3)))=w2 from(by rw[show Array.replicate n (Value.int .i64 0)=((List.replicate n 0).map (Value.int .i64)).toArray by simp];exact HW2.out)];clear hmk HMK HW1 HW2 p8;have p8:=zh HD.out 8 rfl;go_wp2_with fail
 go_loopw [17] (fun i wr=>∃k:Nat,k<=n/\i=.int .i64 (k:Int)/\Hid (RowAt wr (w.heap.size+1) (kB vs k))/\Hid (Below (w.heap.size+1) w2 wr)) (fun i _=>n-(intOf i).toNat)
 case atStart=>exact⟨0,by omega,rfl,hR0,Lm _ _⟩
 case round=>
  obtain⟨k,hk,rfl,hRk,hBk⟩:=hrel;clear hR0;obtain⟨wE,rfl⟩:∃x,x=wr:=⟨_,rfl⟩
  by_cases hkn:k<n
  . obtain⟨v,hvk⟩:∃v,vs[k]'(by have:=HNL.out;omega)=v:=⟨_,rfl⟩
    have hvm:v∈vs:=by rw[<-hvk];exact Ld _
    have HGV:Hid (vs.getD k default=v):=by rw[zn (by have:=HNL.out;omega),hvk];exact rfl
    obtain⟨⟨pp,hp,hp5⟩,hh⟩:=HVV.out v hvm;have hVE:VAt wE w.heap.size AV vs:=HV.out.keep (hBk.out.mono (by omega));obtain⟨ba,oa,rfl,hba,hcell⟩:=hVE (by have:=HNL.out;omega);have hcl:=hcell k (by have:=HNL.out;omega);rw[hvk] at hcl;have c0:wE.cell? ⟨ba,oa+k*8,none⟩=some (.int .i64 v.p):=hcl 0 _ rfl;have c1:wE.cell? ⟨ba,oa+k*8+1,none⟩=some (.int .i64 v.r):=hcl 1 _ rfl;have c2:wE.cell? ⟨ba,oa+k*8+2,none⟩=some (.int .i64 v.i):=hcl 2 _ rfl;have c3:wE.cell? ⟨ba,oa+k*8+3,none⟩=some (.int .i64 v.h0):=hcl 3 _ rfl;have c4:wE.cell? ⟨ba,oa+k*8+4,none⟩=some (.int .i64 v.h1):=hcl 4 _ rfl;have c5:wE.cell? ⟨ba,oa+k*8+5,none⟩=some (.int .i64 v.h2):=hcl 5 _ rfl;have c6:wE.cell? ⟨ba,oa+k*8+6,none⟩=some (.int .i64 v.h3):=hcl 6 _ rfl;have c7:wE.cell? ⟨ba,oa+k*8+7,none⟩=some (.int .i64 v.h4):=hcl 7 _ rfl;rw[hp] at c0;have hk0:(0:Int)<=(k:Int):=by omega
    have hk1:(k:Int)<(n:Int):=by omega
    obtain⟨W5,hW5,d5,hs5,hB5⟩:=zm wE #[.int .i64 (pp:Int),.int .i64 v.r,.int .i64 v.i,.int .i64 v.h0,.int .i64 v.h1,.int .i64 v.h2,.int .i64 v.h3,.int .i64 v.h4] 153;have HD5:=zH d5;have HW5:=zH hW5;have HB5:=zH hB5;have HH:=zH hh;have HP:=zH hp;clear hvk hvm hVE hcell hcl hW5 d5 hB5 hh hp;go_upto_region 5 with fail
    rw[HW5.out];clear HW5 c0 c1 c2 c3 c4 c5 c6 c7;have hlk:=hRk.out;obtain⟨o,ho⟩:=Ki (kB vs k);have HO:=zH ho;have hol:o.length=n:=by rw[<-ho,jM];exact HNL.out
    have HOL:=zH hol;have hR5:RowAt W5 (w.heap.size+1) o:=by rw[<-ho];exact Lb HB5.out hlk.lt hlk
    have hz0:=zi hR5 k;obtain⟨zq,q0⟩:∃z,W5.cell? ⟨w.heap.size+1,k,none⟩=some (.int .i64 z):=⟨_,hR5.cell k (by omega)⟩;have p0:=zh HD5.out 0 rfl;have hsh:=shl_one (N:=pp) (by omega);have hlg:=hR5.lt;have hp0:(0:Int)<=(pp:Int):=by omega
    have HR5:=zH hR5;clear hlk ho hol hR5 hRk;go_upto_region 6 with fail
    have hw2:wrap64 (2^pp)=((2^pp:Nat):Int):=by
     obtain rfl | rfl | rfl | rfl | rfl:pp=0\/pp=1\/pp=2\/pp=3\/pp=4:=by omega
     all_goals kernel_rfl
    rw[hw2];have hset:=HR5.out.set k ((2^pp:Nat):Int);have hoth:∀z,z≠w.heap.size+1->(W5.setCell ⟨w.heap.size+1,k,none⟩ (.int .i64 ((2^pp:Nat):Int))).heap[z]?=W5.heap[z]?:=fun z hz=>Lg W5 ⟨w.heap.size+1,k,none⟩ _ z hz
    have hle1:w.heap.size+1<=wE.heap.size:=by
     have:=hBk.out.size;have:=hs1;have:=hs2;omega
    have hbel:Below (w.heap.size+1) wE (W5.setCell ⟨w.heap.size+1,k,none⟩ (.int .i64 ((2^pp:Nat):Int))):=(HB5.out.mono hle1).setCell (Le _) _;obtain⟨W6,hW6⟩:=Ki (W5.setCell ⟨w.heap.size+1,k,none⟩ (.int .i64 ((2^pp:Nat):Int)));rw[hW6] at hset hoth hbel ⊢;have hEl:w.heap.size+2<=wE.heap.size:=by have:=hBk.out.size;omega
    have HEl:=zH hEl;have HD6:=zH ((hoth wE.heap.size (by omega)).trans HD5.out)
    have HQ0:Hid (RowAt W6 (w.heap.size+1) (jA v k o 0)):=by
     show RowAt W6 _ (o.set k ((2^v.p.toNat:Nat):Int));rw[HP.out,Lo];exact hset
    have HB6:=zH hbel;have HS6:Hid (wE.heap.size<W6.heap.size):=zj HD6.out;have c3:=zh HD6.out 3 rfl;have c4:=zh HD6.out 4 rfl;have c5:=zh HD6.out 5 rfl;have c6:=zh HD6.out 6 rfl;have c7:=zh HD6.out 7 rfl;clear hz0 q0 p0 hsh hlg hp0 HR5 hw2 hset hoth hbel hW6 HD5 hs5 HB5 hEl;go_wp2_with fail
    go_loopw [30] (fun i wr=>∃q:Nat,q<=5/\i=.int .i64 (q:Int)/\Hid (RowAt wr (w.heap.size+1) (jA v k o q))/\Hid (Wrote (fun z=>z=w.heap.size+1) W6 wr)) (fun i _=>5-(intOf i).toNat)
    case atStart=>exact⟨0,by omega,rfl,HQ0,Wrote.refl _ _⟩
    case round=>
     obtain⟨q,hq,rfl,hRq,hWq⟩:=hrel;clear HQ0;have hEl:=HEl.out;have hbx:=(hWq.out.block wE.heap.size HS6.out (by show ¬wE.heap.size=w.heap.size+1;omega)).trans HD6.out;clear hEl
     by_cases hq5:q<5
     . have hix:=index_h5 v q hq5 wr
       have hxn:=HH.out q hq5;have hstep:jA v k o (q+1)=XE v.r k (v.h q) (jA v k o q):=rfl;obtain⟨x,hx⟩:=Ki (v.h q);rw[hx] at hix hxn hstep;obtain⟨oq,hoq⟩:=Ki (jA v k o q);have hoql:oq.length=n:=by rw[<-hoq,Y4,HOL.out]
       rw[hoq] at hRq hstep;have r1:=zh hbx 1 rfl;have HST:=zH hstep;have hq0:(0:Int)<=(q:Int):=by omega
       have hq1:(q:Int)<5:=by omega
       clear hx hoq hbx hstep
       by_cases hr0:0<v.r
       case neg=>
        have hRn:Hid (RowAt wr (w.heap.size+1) (jA v k o (q+1))):=by rw[HST.out];unfold XE;rw[Lf (by omega)];exact hRq.out
        have e0:decide (v.r>0)=false:=Li (by omega);clear hRq HST hoql;go_wp2_with fail
        go_roundw
        case rel=>exact⟨q+1,by omega,by go_num,hRn,hWq⟩
        case measure=>simp[intOf];omega
       have e0:decide (v.r>0)=true:=Lk (by omega)
       by_cases hx0:0<=x
       case neg=>
        have hRn:Hid (RowAt wr (w.heap.size+1) (jA v k o (q+1))):=by rw[HST.out];unfold XE;rw[Lf (by omega)];exact hRq.out
        have e1:decide (x>=0)=false:=Li (by omega);clear hRq HST hoql;go_wp2_with fail
        go_roundw
        case rel=>exact⟨q+1,by omega,by go_num,hRn,hWq⟩
        case measure=>simp[intOf];omega
       obtain⟨y,rfl⟩:=Lr hx0;have e1:decide ((y:Int)>=0)=true:=Lk (by omega);have hyn:y<n:=by omega
       have c1:=hRq.out.cell k (by omega);have c2:=hRq.out.cell y (by omega);have hd1:oq.getD k 0=oq[k]'(by omega):=zn (by omega) 0;have hd2:oq.getD y 0=oq[y]'(by omega):=zn (by omega) 0;rw[<-hd1] at c1;rw[<-hd2] at c2;have hE:XE v.r k (y:Int) oq=oq.set k (bits BinOp.or IntKind.i64 (oq.getD k 0) (oq.getD y 0)):=by unfold XE;rw[Lh (by omega),Lo]
       rw[hE] at HST;obtain⟨a1,ha1⟩:=Ki (oq.getD k 0);obtain⟨a2,ha2⟩:=Ki (oq.getD y 0);rw[ha1] at c1 HST;rw[ha2] at c2 HST;have hz0:=zi hRq.out k;have hlg:=hRq.out.lt;clear hd1 hd2 hE ha1 ha2;have hRs:=hRq.out.set k (bits BinOp.or IntKind.i64 a1 a2);rw[<-HST.out] at hRs;have hRn:Hid (RowAt (wr.drew.setCell ⟨w.heap.size+1,k,none⟩ (.int .i64 (bits BinOp.or IntKind.i64 a1 a2))) (w.heap.size+1) (jA v k o (q+1))):=hRs;have hWn:Hid (Wrote (fun z=>z=w.heap.size+1) W6 (wr.drew.setCell ⟨w.heap.size+1,k,none⟩ (.int .i64 (bits BinOp.or IntKind.i64 a1 a2)))):=(hWq.out.trans (Wrote.of_below ((Lm _ wr).drew)) (fun _ _ h=>h)).trans (Wrote.of_grown (zU wr.drew (w.heap.size+1) k _) (fun z e _=>by cases e;rfl)) (fun _ _ h=>h);clear hRs hRq hWq HST;go_upto_region 10 with fail
       refine zx [(0,true),(1,true),(2,true),(3,true),(4,true),(5,true),(6,true),(7,true),(8,true),(9,false),(10,false)] (fun X=>X=wr.drew) (by kernel_rfl) (by kernel_rfl) rfl ?_
       repeat
        apply zy rfl
        . rintro K' hK' X rfl
          go_simp;exact hK'
       refine zA rfl ?_;intro K' hK';go_simp;refine hK' _ _ rfl ?_;clear hK' K';refine xt rfl (by kernel_rfl) ?_;intro K' hK';go_simp;refine hK' (fun _=>True) _ _ trivial ?_;refine zL ?_;clear hK' K';go_wp2_with fail
       go_roundw
       case rel=>exact⟨_,_,_,_,_,_,_,_,_,_,_,_,_,_,_,_,_,_,_,_,_,_,⟨q+1,by omega,by go_num,hRn,hWn⟩,rfl⟩
       case measure=>simp[intOf];omega
     . obtain rfl:q=5:=by omega
       have hRn:Hid (RowAt wr (w.heap.size+1) (kB vs (k+1))):=by
        show RowAt wr _ (jA (vs.getD k default) k (kB vs k) 5);rw[HGV.out,HO.out];exact hRq.out
       have hBn:Hid (Below (w.heap.size+1) w2 wr):=(hBk.out.trans HB6.out).trans (vO hWq.out (by have:=HEl.out;have:=HS6.out;omega));clear hbx hRq hWq c3 c4 c5 c6 c7;go_wp2_with fail
       go_roundw
       case rel=>exact⟨k+1,by omega,by go_num,hRn,hBn⟩
       case measure=>simp[intOf];omega
  . obtain rfl:n=k:=by omega
    clear p8;go_wp2_with fail;go_ret;exact⟨w.heap.size+1,rfl,Nat.le_succ _,hRk.out,HBB.out.trans (hBk.out.mono (Nat.le_succ _))⟩
end
section
open Go.RowKit
def LowV(vs:List Vw):Prop:=∀i (hi:i<vs.length),∀q,q<5->vs[i].h q<(i:Int)
theorem LowV.snoc{vs:List Vw}{v:Vw}(h:LowV vs)(hv:∀q,q<5->v.h q<(vs.length:Int)):LowV (vs++[v]):=fun i hi q hq=>by
 by_cases hlt:i<vs.length
 . rw[RJ hlt];exact h i hlt q hq
 . rw[Lw,RY] at hi
   obtain rfl:i=vs.length:=by omega
   rw[Pu (by omega)];simpa using hv q hq
theorem putW_asc{vs:List Vw}{v:Vw}(h:LowV vs)(hv:∀q,q<5->v.h q<(vs.length:Int)):LowV (qJ vs v).1:=by
 unfold qJ
 split
 . exact h
 . exact h.snoc hv
theorem YB{f:Nat->Vw}{vs:List Vw}(h:LowV vs):∀n,(∀p,p<n->∀q,q<5->(f p).h q<(vs.length:Int))->LowV (yF f vs n).1
 | 0,_=>h
 | n+1,hf=>by
  rw[yF];refine putW_asc (YB h n fun p hp=>hf p (by omega)) fun q hq=>?_
  have h1:=hf n (by omega) q hq;obtain⟨us,hu⟩:=ws f vs n;rw[hu,Lw];omega
theorem firstE_h(p:Nat)(i:Int)(q:Nat)(_hq:q<5):(xg p i).h q=-1:=by
 match q,_hq with
 | 0,_=>rfl
 | 1,_=>rfl
 | 2,_=>rfl
 | 3,_=>rfl
 | 4,_=>rfl
theorem play_asc{vs:List Vw}{n:Nat}{inp:List Int}{word:List Rd}(h:LowV vs):∀j,LowV (zG vs n inp word j).1
 | 0=>by
  rw[zG];refine YB h n fun p _ q hq=>?_
  rw[firstE_h p _ q hq];omega
 | j+1=>by
  rw[zG];refine YB (play_asc h j) n fun p _ q hq=>?_
  rw[wl _ _ _ _ q hq];unfold yu;rw[jZ vs n inp word j j (Le _)]
  split
  . rename_i hc
    rw[vn] at hc;exact(Z5 vs n inp word j j q (Le _) hc.1).lt.2
  . omega
theorem runW_asc(p:Pb)(l:List (Nat×List Rd)):LowV (zI p l).1:=by
 have key:∀n,n<=l.length->LowV (zI p (l.take n)).1:=by
  intro n
  induction n with
  | zero=>intro _;rw[L4,vj];intro i hi;cases hi
  | succ n ih=>
   intro hn;rw[Lu (by omega),qV];exact play_asc (ih (by omega)) _
 have:=key l.length (Le _);rwa[LJ] at this
theorem built_asc(p:Pb):LowV (zN p).vs:=runW_asc p _
theorem or_32{a b:Nat}(ha:a<32)(hb:b<32):bits BinOp.or IntKind.i64 (a:Int) (b:Int)=((a ||| b:Nat):Int):=by
 have h:∀a:Nat,a<32->∀b:Nat,b<32->bits BinOp.or IntKind.i64 (a:Int) (b:Int)=((a ||| b:Nat):Int):=by decide +kernel
 exact h a ha b hb
theorem ua{l:List Int}{i j:Nat}{x:Int}:(l.set i x).getD j 0=if i=j/\i<l.length then x else l.getD j 0:=by
 rw[Lj,Lj,RG]
 by_cases e:i=j
 . subst e
   by_cases h:i<l.length
   . simp[h]
   . simp[h]
 . simp[e]
theorem Y3{v:Vw}{i j:Nat}{o:List Int}(h:i≠j)(q:Nat):(jA v i o q).getD j 0=o.getD j 0:=by
 induction q with
 | zero=>rw[jA,ua,Lf (fun e=>h e.1)]
 | succ q ih=>
  rw[jA];unfold XE
  split
  . rw[ua,Lf (fun e=>h e.1),ih]
  . exact ih
theorem Za{vs:List Vw}{k:Nat}:∀m,k<=m->∀i,i<k->(kB vs m).getD i 0=(kB vs k).getD i 0
 | 0,hm,i,hi=>by omega
 | m+1,hm,i,hi=>by
  by_cases e:k=m+1
  . subst e;rfl
  . rw[kB,Y3 (by omega),Za m (by omega) i hi]
theorem Y1{vs:List Vw}(hl:LowV vs){i:Nat}(hi:i<vs.length){p:Nat}(hp:vs[i].p=(p:Int))(hp5:p<5)
  (hE:∀j,j<i->∃S:Nat,(kB vs vs.length).getD j 0=(S:Int)/\S<32) :
  ∃S:Nat,(kB vs vs.length).getD i 0=(S:Int)/\S<32/\∀o,o<5->(S.testBit o=true↔o=p\/(0<vs[i].r/\∃q,q<5/\0<=vs[i].h q/\∃T:Nat,(kB vs vs.length).getD (vs[i].h q).toNat 0=(T:Int)/\T.testBit o=true)):=by
 have hv:vs.getD i default=vs[i]:=by rw[Lj,Lq hi];rfl
 have key:∀q,q<=5->∃S:Nat,(jA vs[i] i (kB vs i) q).getD i 0=(S:Int)/\S<32/\∀o,o<5->(S.testBit o=true↔o=p\/(0<vs[i].r/\∃q',q'<q/\0<=vs[i].h q'/\∃T:Nat,(kB vs vs.length).getD (vs[i].h q').toNat 0=(T:Int)/\T.testBit o=true)):=by
  intro q
  induction q with
  | zero=>
   intro _;refine⟨2^p,?_,?_,fun o ho=>?_⟩
   . rw[jA,ua,Lh ⟨rfl,by rw[jM];exact hi⟩,hp,Lo]
   . exact LI (Nat.pow_lt_pow_right (by omega) hp5) (by decide)
   . rw[Nat.testBit_two_pow]
     simp only[decide_eq_true_eq];constructor
     . intro e;exact .inl e.symm
     . rintro(e | ⟨_,q',hq',_⟩)
       . exact e.symm
       . omega
  | succ q ih=>
   intro hq;obtain⟨S,e,hS,hb⟩:=ih (by omega);rw[jA];unfold XE
   by_cases hc:0<vs[i].r/\0<=vs[i].h q
   . rw[Lh hc]
     have hlt:=hl i hi q (by omega);obtain⟨T,eT,hT⟩:=hE (vs[i].h q).toNat (by omega)
     have eT2:(jA vs[i] i (kB vs i) q).getD (vs[i].h q).toNat 0=(T:Int):=by
      rw[Y3 (by omega),<-Za vs.length (show i<=vs.length by omega) _ (show(vs[i].h q).toNat<i by omega),eT]
     refine⟨S ||| T,?_,Nat.or_lt_two_pow (n:=5) hS hT,fun o ho=>?_⟩
     . rw[ua,Lh ⟨rfl,by rw[Y4,jM];exact hi⟩,e,eT2]
       exact or_32 hS hT
     . rw[Nat.testBit_or,PS,hb o ho]
       constructor
       . rintro((e1 | ⟨h0,q',hq',r⟩) | h)
         . exact .inl e1
         . exact .inr ⟨h0,q',by omega,r⟩
         . exact .inr ⟨hc.1,q,by omega,hc.2,T,eT,h⟩
       . rintro(e1 | ⟨h0,q',hq',h2,T',eT',r⟩)
         . exact .inl (.inl e1)
         . by_cases e2:q'=q
           . subst e2
             rw[eT] at eT';have:T=T':=by omega
             subst this;exact .inr r
           . exact .inl (.inr ⟨h0,q',by omega,h2,T',eT',r⟩)
   . rw[Lf hc]
     refine⟨S,e,hS,fun o ho=>(hb o ho).trans ?_⟩;constructor
     . rintro(e1 | ⟨h0,q',hq',r⟩)
       . exact .inl e1
       . exact .inr ⟨h0,q',by omega,r⟩
     . rintro(e1 | ⟨h0,q',hq',h2,r⟩)
       . exact .inl e1
       . by_cases e2:q'=q
         . subst e2;exact absurd ⟨h0,h2⟩ hc
         . exact .inr ⟨h0,q',by omega,h2,r⟩
 obtain⟨S,e,hS,hb⟩:=key 5 (Le _);refine⟨S,?_,hS,hb⟩;rw[Za vs.length (show i+1<=vs.length by omega) i (by omega),kB,hv];exact e
theorem hrd_small{vs:List Vw}(hl:LowV vs)(hp:∀v∈vs,∃p:Nat,v.p=(p:Int)/\p<5):∀i,i<vs.length->∃S:Nat,(kB vs vs.length).getD i 0=(S:Int)/\S<32:=by
 intro i
 induction i using Nat.strongRecOn with
 | ind i ih=>
  intro hi;obtain⟨p,h1,h2⟩:=hp _ (Ld hi);obtain⟨S,e,hS,_⟩:=Y1 hl hi h1 h2 (fun j hj=>ih j hj (by omega));exact⟨S,e,hS⟩
def HR(N:Nat)(word:List Rd):Nat->Nat->Nat->Prop
 | 0,q,o=>o=q
 | k+1,q,o=>∃m,m<N/\((word.getD k default).h q).toNat.testBit m=true/\HR N word k m o
theorem HR_own{s:Sy}{K N:Nat}(hF:Fine s K N){x:Exn}(hx:x∈s.xs):∀k,k<=K->∀q,q<N->HR N x.word k q q
 | 0,_,q,_=>rfl
 | k+1,hk,q,hq=>by
  obtain⟨r1,n1⟩:=hF.round hx (show k<K by omega);obtain⟨m,hm,_,hb⟩:=Qh r1 n1 hF.n5 hq;exact⟨q,hq,by rw[hm,Lo];exact hb,HR_own hF hx k (by omega) q hq⟩
theorem hrd_view{s:Sy}{K N:Nat}(hF:Fine s K N)(hS:Sees s K N)(hl:LowV s.vs){x:Exn}(hx:x∈s.xs):∀k,k<=K->∀q,q<N->∃S:Nat,(kB s.vs s.vs.length).getD (xw x k q).toNat 0=(S:Int)/\S<32/\∀o,o<5->(S.testBit o=true↔HR N x.word k q o):=by
 have hn5:=hF.n5;have hsm:=hrd_small hl (fun v hv=>by obtain⟨⟨p,h1,h2⟩,_⟩:=hF.vs v hv;exact⟨p,h1,by omega⟩);intro k
 induction k with
 | zero=>
  intro _ q hq;have ha:=hS.v0 x hx q hq;have hlt:=ha.lt;obtain⟨hi,e⟩:=Ls.1 ha.2;obtain⟨S,e1,e2,e3⟩:=Y1 hl hi (p:=q) (by rw[e];rfl) (by omega) (fun j hj=>hsm j (by omega));refine⟨S,e1,e2,fun o ho=>(e3 o ho).trans ?_⟩;rw[e];constructor
  . rintro(h | ⟨h0,_⟩)
    . exact h
    . exact absurd h0 (by show ¬((0:Int)<0);omega)
  . exact fun h=>.inl h
 | succ k ih=>
  intro hk q hq;have ha:=hS.vk x hx k (by omega) q hq;obtain⟨hi,e⟩:=Ls.1 ha.2;obtain⟨S,e1,e2,e3⟩:=Y1 hl hi (p:=q) (by rw[e];rfl) (by omega) (fun j hj=>hsm j (by omega));obtain⟨r1,n1⟩:=hF.round hx (show k<K by omega);obtain⟨m0,hm0,hmN,hb⟩:=Qh r1 n1 hn5 hq;obtain⟨hl1,hp1⟩:=hF.row hx (show k<=K by omega);refine⟨S,e1,e2,fun o ho=>(e3 o ho).trans ?_⟩;rw[e]
  have hbit:∀m,((x.word.getD k default).h q).toNat.testBit m=true->m<N:=fun m hm=>by
   rw[hm0,Lo] at hm
   by_cases h:m<N
   . exact h
   . rw[Nat.testBit_lt_two_pow (LI hmN (Nb (by omega) (by omega)))] at hm
     cases hm
  constructor
  . rintro(rfl | ⟨_,m,hm5,hm0',T,eT,hT⟩)
    . exact HR_own hF hx (k+1) hk o hq
    . rw[wl _ _ _ _ m hm5] at hm0' eT
      unfold yu at hm0' eT
      by_cases hc:m<(x.views.getD k []).length/\((x.word.getD k default).h q).toNat.testBit m=true
      . rw[Lh hc] at eT
        have hmN':m<N:=by omega
        obtain⟨S',f1,f2,f3⟩:=ih (by omega) m hmN';have e':(x.views.getD k []).getD m 0=xw x k m:=rfl;rw[e',f1] at eT;have:S'=T:=by omega
        subst this;exact⟨m,hmN',hc.2,(f3 o ho).1 hT⟩
      . rw[Lf hc] at hm0'
        exact absurd hm0' (by omega)
  . rintro⟨m,hmN',hmb,hR⟩
    obtain⟨S',f1,f2,f3⟩:=ih (by omega) m hmN';have e':(x.views.getD k []).getD m 0=xw x k m:=rfl;have hc:m<(x.views.getD k []).length/\((x.word.getD k default).h q).toNat.testBit m=true:=⟨by omega,hmb⟩;refine .inr ⟨by show(0:Int)<((k+1:Nat):Int);omega,m,by omega,?_,S',?_,(f3 o ho).2 hR⟩
    . rw[wl _ _ _ _ m (by omega)]
      unfold yu;rw[Lh hc,e'];obtain⟨v,hv,_⟩:=hS.pr hx (show k<=K by omega) hmN';exact hv.lt.1
    . rw[wl _ _ _ _ m (by omega)]
      unfold yu;rw[Lh hc,e',f1]
def qo(s:Sy)(out:List Int)(h:Fh)(x:Nat×Nat):Bool:=
 if h.op=0 then true
 else if h.op=1 then decide ((yJ s.p (s.xs.getD x.1 default).c.toNat).getD h.p.toNat 0=h.v)
 else if h.op=2 then decide (h.v∈yJ s.p (s.xs.getD x.1 default).c.toNat)
 else if h.op=3 then ((kB s.vs s.vs.length).getD (xw (s.xs.getD x.1 default) x.2 h.p.toNat).toNat 0).toNat.testBit h.o.toNat
 else if h.op=4 then decide (0<x.2)&&(((s.xs.getD x.1 default).word.getD (x.2-1) default).f).toNat.testBit h.p.toNat
 else if h.op=5 then decide (0<out.length)&&decide (out.getD (xw (s.xs.getD x.1 default) x.2 h.p.toNat).toNat 0=h.v)
 else decide ((x.2:Int)=h.v)
def gj(s:Sy)(out:List Int)(h:Fh):List Bool:=(zu (s.p.k.toNat+1) 0 s.xs.length).map (qo s out h)
def atmE(s:Sy)(out:List Int)(d:Nat)(f:Fm):List Bool×Int:=
 if zZ s≠0 then ([],zZ s) else if 0<out.length/\out.length≠s.vs.length then ([],15) else if je s.n d f≠0 then ([],je s.n d f) else if 0<f.args.length then ([],11) else (gj s out f.h,0)
theorem Xq(s:Sy)(out:List Int)(h:Fh):(gj s out h).length=s.xs.length*(s.p.k.toNat+1):=by unfold gj;rw[LF,xU _ _ (by omega)]
structure AtmOk(N:Nat)(h:Fh):Prop where
 op0:0<=h.op
 op6:h.op<=6
 p:h.op=1\/h.op=3\/h.op=4\/h.op=5->0<=h.p/\h.p<(N:Int)
 o:h.op=3->0<=h.o/\h.o<(N:Int)
theorem atm_ok{n:Int}{N:Nat}(hn:n=(N:Int)){d:Nat}{f:Fm}(h:je n d f=0)(ha:f.args.length=0):AtmOk N f.h:=by
 have hnod:kJ N f.h 0=0:=by
  unfold je at h
  split at h
  . cases h
  . split at h
    . rename_i h2;exact absurd h h2
    · have e : jI n.toNat d f = if kJ N f.h 0 ≠ 0 then kJ N f.h 0 else jI n.toNat d f := by
       have hN:n.toNat=N:=by omega
       rw[hN]
       cases d<;>(unfold jI nodS;rw[ha];split<;>simp_all)
      rw[e] at h
      split at h
      . exact h
      . rename_i h3;simpa using h3
 unfold kJ at hnod
 by_cases h1:f.h.op<0\/17<f.h.op
 . rw[Lh h1] at hnod;cases hnod
 rw[Lf h1] at hnod
 by_cases h2:((0:Nat):Int)≠arN f.h.op
 . rw[Lh h2] at hnod;cases hnod
 rw[Lf h2] at hnod
 have h6:f.h.op<=6:=by
  unfold arN at h2
  by_cases e1:f.h.op=8\/f.h.op=9\/f.h.op=17
  . rw[Lh e1] at h2;simp at h2
  . rw[Lf e1] at h2
    by_cases e2:f.h.op<=6
    . exact e2
    . rw[Lf e2] at h2;simp at h2
 refine⟨by omega,h6,fun hp=>?_,fun ho=>?_⟩
 . have hu:usP f.h.op=true:=by unfold usP;rw[NB];omega
   by_cases hr:0<=f.h.p/\f.h.p<=(N:Int)-1
   . omega
   . rw[Lh (.inl ⟨hu,hr⟩)] at hnod;cases hnod
 . have hu:usO f.h.op=true:=by unfold usO;rw[NB];omega
   by_cases hr:0<=f.h.o/\f.h.o<=(N:Int)-1
   . omega
   . rw[Lh (.inr (.inl ⟨hu,hr⟩))] at hnod;cases hnod
end
section
open Go.RowKit
structure K5 where
 a:Int
 b:Int
 c:Int
 d:Int
 e:Int
deriving DecidableEq
def k5C(x:K5):Array Value:=#[.int .i64 x.a,.int .i64 x.b,.int .i64 x.c,.int .i64 x.d,.int .i64 x.e]
def k5E(x:K5):Value:=.agg (k5C x)
theorem k5_inj(a b:K5)(h:k5E a=k5E b):a=b:=by
 unfold k5E k5C at h;injection h with h
 obtain⟨a0,a1,a2,a3,a4⟩:=a;obtain⟨b0,b1,b2,b3,b4⟩:=b;simpa using h
open Classical in
theorem Js:KeyOk Tryz.prog 128 k5E where
 inj:=k5_inj
 check:=fun w em v=>Qt w em _ v.a v.b v.c v.d v.e
 equal:=fun w a b=>by
  unfold Op.equal Op.maxDepth k5E k5C;rw[Zc _ ⟨0,0,0,a.a,a.b,a.c,a.d,a.e⟩ ⟨0,0,0,b.a,b.b,b.c,b.d,b.e⟩ w]
  by_cases h:a=b
  . subst h;simp[hE]
  . have:¬(k5E a=k5E b):=fun e=>h (k5_inj a b e)
    unfold k5E k5C at this;rw[Li this];obtain⟨a0,a1,a2,a3,a4⟩:=a;obtain⟨b0,b1,b2,b3,b4⟩:=b;simpa[hE] using h
 now:=fun d hd=>.inr fun a b=>by
  rw[Pq] at hd
  cases hd
  simp[Instr.sameNow]
 stays:=fun a=>by simp[Instr.sameBits,k5E,k5C]
 kind:=⟨_,Pq⟩
end
section
open Go.RowKit Go.Shelf
section
variable {κ:Type} [DecidableEq κ] {enc:κ->Value}
def nuG(l:List κ):κ->Option Value:=fun k=>if k∈l then some (.int .i64 (l.idxOf k:Int)) else none
theorem nuG_nil:nuG ([]:List κ)=fun _=>none:=by funext k;simp[nuG]
theorem nuG_put{l:List κ}{k:κ}(h:k∉l):xq (nuG l) k (.int .i64 (l.length:Int))=nuG (l++[k]):=by
 funext x
 unfold xq nuG
 by_cases e:x=k
 . subst e
   rw[Lh rfl,Lh (by simp),NS,Lf h];simp
 . rw[Lf e]
   by_cases hx:x∈l
   . rw[Lh hx,Lh (by simp[hx]),NS,Lh hx]
   . rw[Lf hx,Lf (by simp[hx,e])]
theorem nuG_count{w:Ba}{b n:Nat}{us:List κ}(inj:∀a b,enc a=enc b->a=b)(h:MapOf enc w b n (nuG us))(hu:us.Nodup):∃es clock,w.heap[b]?=some (.map es clock)/\es.size=us.length:=
 h.count inj hu (fun k=>by
  unfold nuG
  by_cases hk:k∈us
  . simp[hk]
  . simp[hk])
end
structure NkIn{κ:Type}[DecidableEq κ](enc:κ->Value)(FT MT:TypeId)(B:Nat)(S:Array Value)(F:Value)(R:Nat->Prop)(us:List κ)(ls:List Int)(w W:Ba):Prop where
 wrote:Wrote R w W
 b0:W.heap[B]?=some (.cells S 35 (0,0))
 b1:W.heap[B+1]?=some (.cells #[F] FT (0,0))
 b3:W.heap[B+1+1+1]?=some (.cells #[.map (some (B+1+1))] MT (0,0))
 b5:W.heap[B+1+1+1+1+1]?=some (.cells S 35 (0,0))
 hm:∃m,MapOf enc W (B+1+1) m (nuG us)
 box:∃P c,W.heap[B+1+1+1+1]?=some (.cells #[.slice P ls.length c] 50 (0,0))/\Own W (B+6) (.slice P ls.length c) ls
 sz:B+6<=W.heap.size
section
variable {B:Nat} {S:Array Value} {F:Value} {R:Nat->Prop} {κ:Type} [DecidableEq κ] {enc:κ->Value} {FT MT:TypeId} {us:List κ} {ls:List Int} {w W W':Ba}
theorem NkIn.turn{row:Option Nat}(h:NkIn enc FT MT B S F R us ls w W)(hw:w.heap.size<=B)(hg:W.grownBy W' row)(hr:∀r,row=some r->B+6<=r/\∃o:Obj,W.heap[r]?=some o/\o.isCells=false):NkIn enc FT MT B S F R us ls w W':=by
 obtain⟨P,c,hb,ho⟩:=h.box;obtain⟨m,hm⟩:=h.hm;have hsz:=h.sz;have old:∀k,k<B+6->W'.heap[k]?=W.heap[k]?:=fun k hk=>hg.block k (by omega) (fun e=>by have:=(hr k e.symm).1;omega)
 refine⟨h.wrote.trans (Wrote.of_grown (R:=fun k=>w.heap.size<=k) hg (fun k e hk=>by have:=(hr k e).1;omega)) (fun k h1 h2=>by omega),(old B (by omega)).trans h.b0,(old _ (by omega)).trans h.b1,(old _ (by omega)).trans h.b3,(old _ (by omega)).trans h.b5,⟨m,hm.same (old _ (by omega))⟩,⟨P,c,(old _ (by omega)).trans hb,ho.kept hg ?_⟩,LB hsz hg.size⟩;rcases e:(Value.slice P ls.length c).ownBlock with _ | g
 . exact .inl rfl
 . refine .inr fun e2=>?_
   obtain⟨o,h1,h2⟩:=(hr g e2.symm).2;have:=(vX ho g e).2 o h1;rw[this] at h2;cases h2
theorem NkIn.call(h:NkIn enc FT MT B S F R us ls w W)(hw:Wrote R W W')(hR:∀k,R k->k<B):NkIn enc FT MT B S F R us ls w W':=by
 obtain⟨P,c,hb,ho⟩:=h.box;obtain⟨m,hm⟩:=h.hm;have hsz:=h.sz;have old:∀k,B<=k->k<W.heap.size->W'.heap[k]?=W.heap[k]?:=fun k hk hl=>hw.block k hl (fun e=>by have:=hR k e;omega)
 exact⟨h.wrote.trans hw (fun _ _ h=>h),(old B (by omega) (by omega)).trans h.b0,(old _ (by omega) (by omega)).trans h.b1,(old _ (by omega) (by omega)).trans h.b3,(old _ (by omega) (by omega)).trans h.b5,⟨m,hm.same (old _ (by omega) (by omega))⟩,⟨P,c,(old _ (by omega) (by omega)).trans hb,ho.same fun k hk hl=>old k (by omega) hl⟩,LB hsz hw.size⟩
theorem NkIn.put{us':List κ}{m:Nat}(h:NkIn enc FT MT B S F R us ls w W)(hw:w.heap.size<=B)(hg:W.grownBy W' (some (B+1+1)))(hm:MapOf enc W' (B+1+1) m (nuG us')):NkIn enc FT MT B S F R us' ls w W':=by
 obtain⟨P,c,hb,ho⟩:=h.box;have hsz:=h.sz;have old:∀k,k<W.heap.size->k≠B+1+1->W'.heap[k]?=W.heap[k]?:=fun k hk hl=>hg.block k hk (fun e=>hl (by cases e;rfl))
 exact⟨h.wrote.trans (Wrote.of_grown (R:=fun k=>w.heap.size<=k) hg (fun k e hk=>by cases e;omega)) (fun k h1 h2=>by omega),(old B (by omega) (by omega)).trans h.b0,(old _ (by omega) (by omega)).trans h.b1,(old _ (by omega) (by omega)).trans h.b3,(old _ (by omega) (by omega)).trans h.b5,⟨m,hm⟩,⟨P,c,(old _ (by omega) (by omega)).trans hb,ho.same fun k hk hl=>old k hl (by omega)⟩,LB hsz hg.size⟩
theorem NkIn.push{P P2:Bb}{c c2:Nat}{u:Int}{W1:Ba}(h:NkIn enc FT MT B S F R us ls w W)(hw:w.heap.size<=B)(hb:W.heap[B+1+1+1+1]?=some (.cells #[.slice P ls.length c] 50 (0,0)))(ho:Own W (B+6) (.slice P ls.length c) ls)
  (ho1:Own W1 (B+6) (.slice P2 (ls.length+1) c2) (ls++[u])) (hg:W.grownBy W1 (Value.slice P ls.length c).ownBlock) :
  NkIn enc FT MT B S F R us (ls++[u]) w (W1.setCell ⟨B+1+1+1+1,0,none⟩ (.slice P2 (ls.length+1) c2)):=by
 obtain⟨m,hm⟩:=h.hm;have hsz:=h.sz;have hlo:=ho.lt;have hs1:=hg.size;have old1:∀k,k<B+6->W1.heap[k]?=W.heap[k]?:=fun k hk=>hg.block k (by omega) (fun e=>by have:=(hlo k e.symm).1;omega)
 have hb1:=(old1 _ (by omega)).trans hb;obtain⟨x1,x2,x3⟩:=kF hb1 (.slice P2 (ls.length+1) c2);have old:∀k,k<B+6->k≠B+1+1+1+1->(W1.setCell ⟨B+1+1+1+1,0,none⟩ (.slice P2 (ls.length+1) c2)).heap[k]?=W.heap[k]?:=fun k hk hne=>(x3 k hne).trans (old1 k hk)
 refine⟨?_,(old B (by omega) (by omega)).trans h.b0,(old _ (by omega) (by omega)).trans h.b1,(old _ (by omega) (by omega)).trans h.b3,(old _ (by omega) (by omega)).trans h.b5,⟨m,hm.same (old _ (by omega) (by omega))⟩,⟨P2,c2,by rw[Lw];exact x1,by rw[Lw];exact ho1.same fun k hk _=>x3 k (by omega)⟩,by rw[show(W1.setCell ⟨B+1+1+1+1,0,none⟩ (.slice P2 (ls.length+1) c2)).heap.size=W1.heap.size by simp[World.setCell]];omega⟩;have a1:Wrote (fun k=>w.heap.size<=k) W W1:=Wrote.of_grown hg (fun k e hk=>by have:=(hlo k e).1;omega);have a2:Wrote (fun k=>w.heap.size<=k) W1 (W1.setCell ⟨B+1+1+1+1,0,none⟩ (.slice P2 (ls.length+1) c2)):=Wrote.of_grown (zU W1 _ 0 _) (fun k e hk=>by cases e;omega);exact h.wrote.trans (a1.trans a2 (fun _ _ h=>h)) (fun k h1 h2=>by omega)
theorem NkIn.keeps{P:Bb}{c:Nat}{W1:Ba}(h:NkIn enc FT MT B S F R us ls w W)(hb:W.heap[B+1+1+1+1]?=some (.cells #[.slice P ls.length c] 50 (0,0)))(ho:Own W (B+6) (.slice P ls.length c) ls)
  (hg:W.grownBy W1 (Value.slice P ls.length c).ownBlock) (v:Value):KeepsFrom (B+6) W (W1.setCell ⟨B+1+1+1+1,0,none⟩ v)/\KeepB (fun k=>k=B+1+1+1+1+1) W (W1.setCell ⟨B+1+1+1+1,0,none⟩ v):=by
 have hlo:=ho.lt;have hsz:=h.sz;have hs1:=hg.size;have hb1:=(hg.block (B+1+1+1+1) (by omega) (fun e=>by have:=(hlo _ e.symm).1;omega)).trans hb;obtain⟨x1,x2,x3⟩:=kF hb1 v;refine⟨⟨by simp[World.setCell];omega,fun k o hk hk1 ho1=>?_⟩,⟨by simp[World.setCell];omega,fun k hk hl=>?_⟩⟩
 . refine(x3 k (by omega)).trans ((hg.block k (zj hk1) (fun e=>?_)).trans hk1)
   have:=(vX ho k e.symm).2 o hk1;rw[this] at ho1;cases ho1
 . subst hk
   exact(x3 _ (by omega)).trans (hg.block _ (by omega) (fun e=>by have:=(hlo _ e.symm).1;omega))
end
end
section
open Go.RowKit Go.Shelf
attribute [local go_sem] Oper.semAt_some
theorem XC(s:Sy)(K M:Nat)(hK:K<=100)(hM:M<=100)(hk:s.p.k=(K:Int))(hx:s.xs.length=M)(A SV AV AX:Bb)(kc ks kv kx:Nat)(kf:Nat)(kb:Array Value)(ek:Enters Tryz.prog kf)(key:Nat×Nat->K5)
  (R:Nat->Prop) (J:Ba->Prop) (w:Ba) (hR:∀k,R k->k<w.heap.size) (hJ0:J w) (hJ:∀W W',J W->Wrote (fun k=>w.heap.size<=k) W W'->J W')
  (hkey:∀x∈zu (K+1) 0 M,∀W,J W->w.heap.size<=W.heap.size->Calls Tryz.prog kf (#[.agg #[.int .i64 x.1,.int .i64 x.2]]++kb) W fun e w'=>e=.returned (k5E (key x))/\J w'/\Wrote R W w') :
  Calls Tryz.prog 120 #[.agg (s.vs_ A kc SV ks AV kv AX kx),.func (.func kf) #[] kb] w fun e w'=>∃v,e=.returned v/\Own w' w.heap.size v (yt ((zu (K+1) 0 M).map key))/\J w'/\Wrote R w w':=by
 have hC:PtC (s.vs_ A kc SV ks AV kv AX kx) K M AX kx:=⟨by unfold Sy.vs_;rw[<-hk];rfl,by unfold Sy.vs_;rw[<-hx];rfl⟩
 have hlen:(zu (K+1) 0 M).length<=20000:=by
  rw[xU (K+1) M (by omega)];exact LB (LM hM (show K+1<=101 by omega)) (by decide)
 have HIT:=zH (fun (bs:Nat) (W:Ba) (hb:W.heap[bs]?=some (.cells (s.vs_ A kc SV ks AV kv AX kx) 35 (0,0)))=>uf (s.vs_ A kc SV ks AV kv AX kx) K M hK hM AX kx hC bs W hb);have HAL:=zH (fun (W:Ba)=>Yk s A SV AV AX kc ks kv kx W);have HKEY:=zH hkey;have HJ:=zH hJ;have HJ0:=zH hJ0;have hz:∀W:Ba,(zeroValue 3).run Tryz.prog W=.ok (.int .i64 0) W:=fun W=>by kernel_rfl
 have ht:Tryz.prog.underlying 218=some (.map 128 3):=Tryz.underlying218;have hmm:=@run_makeMap Tryz.prog;obtain⟨L,hL⟩:=Ki (zu (K+1) 0 M);rw[hL] at HIT HKEY hlen ⊢;unfold Sy.vs_ at HIT HAL ⊢;clear hkey hJ hJ0 hL hC hk hx;refine yQ Tryz.func120 rfl ?_;simp only[Tryz.ntmps120,List.size_toArray,List.length_cons,List.length_nil,Nat.reduceAdd,Nat.reduceSub,Array.replicate_succ,Array.replicate_zero,List.push_toArray,List.append_toArray,List.nil_append,List.cons_append];go_wp2_with fail;refine(HAL.out _).mono ?_;rintro e w2 ⟨rfl,hw2⟩;obtain⟨S,hS⟩:∃S,S=#[Value.int .i64 s.p.t.n,.int .i64 s.p.t.ins,.int .i64 s.p.t.outs,.slice A s.p.t.cases.length kc,.int .i64 s.p.a.n,.slice SV s.p.a.sts.length ks,.int .i64 s.p.k,.int .i64 s.n,.slice AV s.vs.length kv,.slice AX s.xs.length kx]:=⟨_,rfl⟩;rw[<-hS] at hw2 HIT
 have hNW:NkIn k5E 174 218 w.heap.size S (.func (.func kf) #[] kb) R [] [] w w2/\Wrote (fun k=>w.heap.size<=k) w w2:=by
  obtain⟨a1,h1,x1,y1,z1⟩:=zm w S 35;rw[h1] at hw2;obtain⟨a2,h2,x2,y2,z2⟩:=zm a1 #[.func (.func kf) #[] kb] 174;rw[h2] at hw2;obtain⟨a3,h3⟩:=Ki (a2.alloc (.map #[] 0));have m3:MapOf k5E a3 a2.heap.size 0 (fun _=>none):=by rw[<-h3];exact MapOf.made a2
  have y3:a3.heap.size=a2.heap.size+1:=by rw[<-h3];simp
  have z3:Below a2.heap.size a2 a3:=by rw[<-h3];exact yg _ _
  rw[h3] at hw2;obtain⟨a4,h4,x4,y4,z4⟩:=zm a3 #[.map (some (w.heap.size+1+1))] 218;rw[h4] at hw2;obtain⟨a5,h5,x5,y5,z5⟩:=zm a4 #[.slice none 0 0] 50;rw[h5] at hw2;obtain⟨a6,h6,x6,y6,z6⟩:=zm a5 S 35;rw[h6] at hw2;subst hw2;rw[y1] at x2 y2;rw[y2] at m3 y3;rw[y3] at x4 y4;rw[y4] at x5 y5;rw[y5] at x6 y6
  have w1:Wrote (fun k=>w.heap.size<=k) w a6:=by
   have b1:=(Wrote.of_below (R:=fun k=>w.heap.size<=k) z1).trans (Wrote.of_below (R:=fun k=>w.heap.size<=k) z2) (fun _ _ h=>h);have b2:=(b1.trans (Wrote.of_below (R:=fun k=>w.heap.size<=k) z3) (fun _ _ h=>h)).trans (Wrote.of_below (R:=fun k=>w.heap.size<=k) z4) (fun _ _ h=>h);exact((b2.trans (Wrote.of_below (R:=fun k=>w.heap.size<=k) z5) (fun _ _ h=>h)).trans (Wrote.of_below (R:=fun k=>w.heap.size<=k) z6) (fun _ _ h=>h))
  refine⟨⟨w1.more (fun k h1 h2=>by omega),?_,?_,?_,x6,⟨0,?_⟩,⟨none,0,?_,Own.nil _ _⟩,by omega⟩,w1⟩
  . exact Lb z6 (by omega) (Lb z5 (by omega) (Lb z4 (by omega) (Lb z3 (by omega) (Lb z2 (by omega) x1))))
  . exact Lb z6 (by omega) (Lb z5 (by omega) (Lb z4 (by omega) (Lb z3 (by omega) x2)))
  . exact Lb z6 (by omega) (Lb z5 (by omega) x4)
  . rw[nuG_nil]
    exact m3.same (Lb z6 (by omega) (Lb z5 (by omega) (z4.block _ (by omega))))
  . exact Lb z6 (by omega) x5
 have hsz2:w2.heap.size=w.heap.size+6:=by rw[<-hw2];simp
 have HJ2:Hid (J w2):=HJ.out w w2 HJ0.out hNW.2;have HIT2:=zH (HIT.out (w.heap.size+1+1+1+1+1) w2 hNW.1.b5);have HN:=zH hNW.1;clear hNW hw2 HIT HAL HJ0 hmm hS;go_wp2_with fail
 refine kN rfl (N5 RT (by kernel_rfl) rfl) HIT2.out (by rintro x rfl;omega) (fun _=>rfl)
  (fun (pre:List { x:Nat×Nat // x∈L }) (X:Ba)=>NkIn k5E 174 218 w.heap.size S (.func (.func kf) #[] kb) R (yA (pre.map fun x=>key x.1)) (yt (pre.map fun x=>key x.1)) w X/\J X)
  (fun _ _ _=>False)
  ?hI (fun _ _ _ _ _ h _ _=>h)
  ⟨HN.out,HJ2.out⟩ (fun x=>#[.int .i64 x.1,.int .i64 x.2]) 118 ?a1 ?assign ?body ?done ?stop (fun _ _ h=>by have:=h.1.sz;omega)
 case hI=>
  intro pre X X' row hX hg hr;refine⟨hX.1.turn (Le _) hg (fun r e=>⟨by have:=(hr r e).1;omega,(hr r e).2⟩),HJ.out X X' hX.2 (Wrote.of_grown hg fun k e hk=>by have:=(hr k e).1;omega)⟩
 case assign=>
  intro l pre x X K' hI hK;obtain⟨g',hg'⟩:∃g',g'=X.heap.size:=⟨_,rfl⟩;have HK:=zH (hK g' hg' ⟨hI.1.turn (Le _) (row:=none) ⟨rfl,rfl,rfl,by simp,fun k hk _=>Pa X _ k hk⟩ (fun r e=>by cases e),HJ.out X _ hI.2 (Wrote.of_below (yg X _))⟩);have HG:=zH hg';clear hK hg' hI;gi_wp2;rw[<-HG.out];exact HK.out
 case body=>
  intro l pre x g W3 hg hgb hI hlt;obtain⟨us,hus⟩:∃us,yA (pre.map fun x=>key x.1)=us:=⟨_,rfl⟩;obtain⟨ls,hls⟩:∃ls,yt (pre.map fun x=>key x.1)=ls:=⟨_,rfl⟩;have hll:ls.length<=20000:=by rw[<-hls,yj,LF];omega
  have hun:us.Nodup:=by rw[<-hus];exact ZA _
  obtain⟨kk,hkk⟩:=Ki (key x.1);have hus2:yA ((pre++[x]).map fun x=>key x.1)=qk us kk:=by rw[LP,L3,Ny,qu,hus,hkk]
  have hls2:yt ((pre++[x]).map fun x=>key x.1)=ls++[if kk∈us then (us.idxOf kk:Int) else (us.length:Int)]:=by
   rw[LP,L3,Ny,qY,hus,hls,hkk]
   congr 2
   by_cases h:kk∈us
   . rw[Lh h,Lh (yo.1 (hus▸h))]
   . rw[Lf h,Lf (fun e=>h (hus▸yo.2 e))]
  rw[hus,hls] at hI;have hcall:=HKEY.out x.1 x.2 W3 hI.2 (by have:=hI.1.sz;omega);rw[hkk] at hcall;have HC:=zH hcall;have HN3:=zH hI.1;have HU2:=zH hus2;have HL2:=zH hls2;have HUN:=zH hun;have q1:=zh hI.1.b1 0 rfl;obtain⟨g0,g1,_⟩:=Ka hgb;clear hI hcall hus hls hus2 hls2 hkk hgb hun HKEY HIT2 HN HJ2;gi_wp2_with fail;refine⟨trivial,?_⟩;rw[ek];refine⟨fun _=>by omega,(SJ l ((So (n:=6)).2 HC.out)).mono ?_⟩;rintro e W4 ⟨rfl,hJ4,hw4⟩;have hn4:=HN3.out.call hw4 hR;obtain⟨W4',hW4',d8,hs8,hb8⟩:=zm W4 (k5C kk) 128;have hgr:W4.grownBy W4' none:=by rw[<-hW4'];exact⟨rfl,rfl,rfl,by simp,fun k hk _=>Pa W4 _ k hk⟩
  have HN4:=zH (hn4.turn (Le _) hgr (fun r e=>by cases e));have hJ4:=HJ.out W4 W4' hJ4 (Wrote.of_below hb8);have HJ4:=zH hJ4
  have hw4:Hid (KeepsFrom w2.heap.size W3 W4'/\KeepB (fun k=>k=w.heap.size+1+1+1+1+1) W3 W4'):=by
   have hz4:=hw4.size;refine⟨⟨by omega,fun k o hk hk1 _=>(hb8.block k (by have:=zj hk1;omega)).trans ((hw4.block k (zj hk1) (fun e=>by have:=hR k e;omega)).trans hk1)⟩,⟨by omega,fun k hk hl=>(hb8.block k (by omega)).trans (hw4.block k hl (fun e=>by have:=hR k e;subst hk;omega))⟩⟩
  have HW4:=hw4;have HD8:=zH d8;have HWW:=zH hW4';have hl8:=zj d8;unfold k5C at hW4' d8;have hke:k5E kk=.agg #[.int .i64 kk.a,.int .i64 kk.b,.int .i64 kk.c,.int .i64 kk.d,.int .i64 kk.e]:=rfl;have HKE:=zH hke;rw[hke];obtain⟨v0,v1,v2,v3,v4,_⟩:=Kh d8;have hz34:w.heap.size+6<=W4.heap.size:=hn4.sz;have q3:=zh HN4.out.b3 0 rfl;clear hke hn4 hs8 hb8 hgr
  gi_upto_region 6 with fail
  unfold k5C at HD8;obtain⟨m,hm⟩:=HN4.out.hm;have hlk:=hm.look2 Js ht (hz W4') kk;have HM4:=zH hm;clear q1 g0 g1 HC hJ4 hw4 hm hW4' d8
  by_cases hin:kk∈us
  case pos=>
   have hf:nuG us kk=some (.int .i64 (us.idxOf kk:Int)):=Lh hin;have HNU:Hid ((nuG us kk).getD (.int .i64 0)=.int .i64 (us.idxOf kk:Int)):=by rw[hf];rfl
   rw[hf,HKE.out] at hlk;simp only[Option.getD_some,Option.isSome_some] at hlk;have HU3:Hid (yA ((pre++[x]).map fun x=>key x.1)=us):=HU2.out.trans (Lh hin);have HL3:Hid (yt ((pre++[x]).map fun x=>key x.1)=ls++[(us.idxOf kk:Int)]):=HL2.out.trans (by rw[Lh hin]);clear HU2 HL2;have HU2:=HU3;have HL2:=HL3;clear HU3 HL3 hf hin HM4;obtain⟨P,c,hbx,ho⟩:=HN4.out.box;have HBX:=zH hbx;have HO:=zH ho;have HJB:=HJ4;have HKB:=HW4;have HDBX:=HD8.out;clear hbx ho;have HDB:Hid (W4'.heap[W4.heap.size]?=some (.cells #[.int .i64 kk.a,.int .i64 kk.b,.int .i64 kk.c,.int .i64 kk.d,.int .i64 kk.e] 128 (0,0))):=HDBX;have LD:=zH (And.intro (zj HN4.out.b3) (And.intro (zj HBX.out) (zj HDB.out)))
   have HLK:Hid (∀X:Ba,(∀k,k<W4'.heap.size->X.heap[k]?=W4'.heap[k]?)->(Instr.lookup 218 (.map (some (w.heap.size+1+1))) (.agg #[.int .i64 kk.a,.int .i64 kk.b,.int .i64 kk.c,.int .i64 kk.d,.int .i64 kk.e]) false).run Tryz.prog X=.ok (.int .i64 (us.idxOf kk:Int)) X):=fun X hX=>by
    obtain⟨m9,hm9⟩:=HN4.out.hm;have h9:=(hm9.same (hX _ (by have:=HN4.out.sz;omega))).look Js ht (hz X) kk;rw[HNU.out,HKE.out] at h9;exact h9
   have hzb:=HN4.out.sz;gi_wp2_with fail;refine yW [(0,true),(1,true),(2,true),(3,true),(4,false),(5,false),(6,false)] (fun X=>∀k,k<W4'.heap.size->X.heap[k]?=W4'.heap[k]?) (by kernel_rfl) (by kernel_rfl) (by kernel_rfl) (by rintro⟨_,_,h⟩;exact h) (fun _ _=>rfl) ?_
   repeat
    apply zy rfl
    . rintro K' hK' X hX
      have y3:=zh ((hX _ LD.out.1).trans HN4.out.b3) 0 rfl;have y4:=zh ((hX _ LD.out.2.1).trans HBX.out) 0 rfl;obtain⟨y50,y51,y52,y53,y54,_⟩:=Kh ((hX _ LD.out.2.2).trans HDB.out);have ylk:=HLK.out X hX;clear hX;go_simp;exact hK'
   refine zA rfl ?_;intro K' hK';go_simp;obtain⟨WA,hWA,dA,hsA,hbA⟩:=Z8 W4' #[.int .i64 (us.idxOf kk:Int)] 3;rw[hWA];have hgA:W4'.grownBy WA none:=⟨hbA.os,hbA.tape,hbA.output,hbA.size,fun k hk _=>hbA.block k hk⟩;have HNA:=zH (HN4.out.turn (Le _) hgA (fun r e=>by cases e));have HJA:=zH (HJ.out _ _ HJB.out (Wrote.of_below hbA));have HBA:=zH hbA;refine hK' _ _ (fun k hk=>hbA.block k hk) ?_;clear hK' K' hWA hgA;refine xt rfl (by kernel_rfl) ?_;intro K' hK';rw[Lh (by rfl)];have hbxA:=Lb HBA.out LD.out.2.1 HBX.out;have hoA:Own WA (w.heap.size+6) (.slice P ls.length c) ls:=HO.out.below hbA (Le _);refine jU gZ (.tmp 30) (.tmp 34) (by rfl) (w.heap.size+6) (.slice P ls.length c) ls.length (ls.map (Value.int .i64)) (by rfl) hoA W4'.heap.size #[.int .i64 (us.idxOf kk:Int)] (by rfl) dA rfl (by simp[Value.oneCell']) (by omega) (by omega) _ rfl ?_;intro g6 k6 W6 hr6 hg6 hat6 hlt6
   have hown6:Own W6 (w.heap.size+6) (.slice (some ⟨g6,0,none⟩) (ls.length+1) k6) (ls++[(us.idxOf kk:Int)]):=by
    have h:=hr6;unfold Own;rw[LP,Lw];exact h
   have h4b:=(hg6.block (w.heap.size+1+1+1+1) (zj hbxA) (fun e=>ww hoA hbxA (by decide) e.symm)).trans hbxA;have q6:=zh h4b 0 rfl;have f6:=zi h4b 0;have l6:=zj h4b;have hka:=HNA.out.keeps hbxA hoA hg6 (.slice (some ⟨g6,0,none⟩) (ls.length+1) k6);have hpu:=HNA.out.push (Le _) hbxA hoA hown6 hg6
   have hJ6:J (W6.setCell ⟨w.heap.size+1+1+1+1,0,none⟩ (.slice (some ⟨g6,0,none⟩) (ls.length+1) k6)):=by
    have a2:Wrote (fun k=>w.heap.size<=k) WA W6:=Wrote.of_grown hg6 (fun k e hk=>by have:=(hoA.lt k e).1;omega);have a3:Wrote (fun k=>w.heap.size<=k) W6 (W6.setCell ⟨w.heap.size+1+1+1+1,0,none⟩ (.slice (some ⟨g6,0,none⟩) (ls.length+1) k6)):=Wrote.of_grown (zU W6 _ 0 _) (fun k e hk=>by cases e;omega);exact HJ.out _ _ HJA.out (a2.trans a3 (fun _ _ h=>h))
   have HKa:=zH hka;have HPU:=zH hpu;have HJ6:=zH hJ6;refine hK' (fun _=>True) _ _ trivial ?_;clear hK' K' hr6 hg6 hat6 hlt6 hown6 h4b hka hpu hJ6 hoA hbxA hbA dA hsA;refine zA rfl ?_;intro K' hK';go_simp;refine hK' _ _ trivial ?_;clear hK' K';refine zL ?_;gi_wp2_with fail;refine⟨(HKB.out.1.trans (hsz2▸qC HBA.out)).trans (hsz2▸HKa.out.1),(HKB.out.2.trans (KeepB.of_below HBA.out (by rintro k rfl;have:=HN4.out.sz;omega))).trans HKa.out.2,?_,HJ6.out⟩;rw[HU2.out,HL2.out];exact HPU.out
  case neg=>
   have hf:nuG us kk=none:=Lf hin;rw[hf,HKE.out] at hlk;simp only[Option.getD_none,Option.isSome_none] at hlk;have HU3:Hid (yA ((pre++[x]).map fun x=>key x.1)=us++[kk]):=HU2.out.trans (Lf hin);have HL3:Hid (yt ((pre++[x]).map fun x=>key x.1)=ls++[(us.length:Int)]):=HL2.out.trans (by rw[Lf hin]);obtain⟨es,clock,hes,hesz⟩:=nuG_count k5_inj HM4.out HUN.out;obtain⟨W5,hrun,hm5,hg5⟩:=HM4.out.put Js ht kk (.int .i64 (us.length:Int));rw[nuG_put hin] at hm5;have HN5:=zH (HN4.out.put (Le _) hg5 hm5);have HG5:=zH hg5
   have HNU:Hid ((nuG (us++[kk]) kk).getD (.int .i64 0)=.int .i64 (us.length:Int)):=by
    unfold nuG Hid;rw[Lh (by simp),NS,Lf hin];simp
   have HJB:=zH (HJ.out W4' W5 HJ4.out (Wrote.of_grown hg5 fun k e hk=>by cases e;omega))
   have HW5:Hid (KeepsFrom w2.heap.size W4' W5/\KeepB (fun k=>k=w.heap.size+1+1+1+1+1) W4' W5):=by
    refine⟨⟨hg5.size,fun k o hk hk1 _=>(hg5.block k (zj hk1) (fun e=>by cases e;omega)).trans hk1⟩,⟨hg5.size,fun k hk hl=>hg5.block k hl (fun e=>by cases e;omega)⟩⟩
   have HKB:=zH (And.intro (HW4.out.1.trans HW5.out.1) (HW4.out.2.trans HW5.out.2));obtain⟨P,c,hbx,ho⟩:=HN5.out.box;have HBX:=zH hbx;have HO:=zH ho;have q35:=zh HN5.out.b3 0 rfl;have HDBX:=(HG5.out.block _ (zj HD8.out) (fun e=>by have:=LO e;omega)).trans HD8.out;rw[HKE.out] at hrun;clear HU2 HL2;have HU2:=HU3;have HL2:=HL3;clear HU3 HL3 hf hin HM4 hm5 hg5 hbx ho HW5
   have hln:(Builtin.len_ #[218] 3 #[.map (some (w.heap.size+1+1))]).run Tryz.prog W4'=.ok (.int .i64 (us.length:Int)) W4':=by
    rw[<-hesz];exact run_len_map W4' _ _ _ es clock (by kernel_rfl) hes
   clear hes hesz;have HDB:Hid (W5.heap[W4.heap.size]?=some (.cells #[.int .i64 kk.a,.int .i64 kk.b,.int .i64 kk.c,.int .i64 kk.d,.int .i64 kk.e] 128 (0,0))):=HDBX;have LD:=zH (And.intro (zj HN5.out.b3) (And.intro (zj HBX.out) (zj HDB.out)))
   have HLK:Hid (∀X:Ba,(∀k,k<W5.heap.size->X.heap[k]?=W5.heap[k]?)->(Instr.lookup 218 (.map (some (w.heap.size+1+1))) (.agg #[.int .i64 kk.a,.int .i64 kk.b,.int .i64 kk.c,.int .i64 kk.d,.int .i64 kk.e]) false).run Tryz.prog X=.ok (.int .i64 (us.length:Int)) X):=fun X hX=>by
    obtain⟨m9,hm9⟩:=HN5.out.hm;have h9:=(hm9.same (hX _ (by have:=HN5.out.sz;omega))).look Js ht (hz X) kk;rw[HNU.out,HKE.out] at h9;exact h9
   have hzb:=HN5.out.sz;gi_wp2_with fail;refine yW [(0,true),(1,true),(2,true),(3,true),(4,false),(5,false),(6,false)] (fun X=>∀k,k<W5.heap.size->X.heap[k]?=W5.heap[k]?) (by kernel_rfl) (by kernel_rfl) (by kernel_rfl) (by rintro⟨_,_,h⟩;exact h) (fun _ _=>rfl) ?_
   repeat
    apply zy rfl
    . rintro K' hK' X hX
      have y3:=zh ((hX _ LD.out.1).trans HN5.out.b3) 0 rfl;have y4:=zh ((hX _ LD.out.2.1).trans HBX.out) 0 rfl;obtain⟨y50,y51,y52,y53,y54,_⟩:=Kh ((hX _ LD.out.2.2).trans HDB.out);have ylk:=HLK.out X hX;clear hX;go_simp;exact hK'
   refine zA rfl ?_;intro K' hK';go_simp;obtain⟨WA,hWA,dA,hsA,hbA⟩:=Z8 W5 #[.int .i64 (us.length:Int)] 3;rw[hWA];have hgA:W5.grownBy WA none:=⟨hbA.os,hbA.tape,hbA.output,hbA.size,fun k hk _=>hbA.block k hk⟩;have HNA:=zH (HN5.out.turn (Le _) hgA (fun r e=>by cases e));have HJA:=zH (HJ.out _ _ HJB.out (Wrote.of_below hbA));have HBA:=zH hbA;refine hK' _ _ (fun k hk=>hbA.block k hk) ?_;clear hK' K' hWA hgA;refine xt rfl (by kernel_rfl) ?_;intro K' hK';rw[Lh (by rfl)];have hbxA:=Lb HBA.out LD.out.2.1 HBX.out;have hoA:Own WA (w.heap.size+6) (.slice P ls.length c) ls:=HO.out.below hbA (Le _);refine jU gZ (.tmp 30) (.tmp 34) (by rfl) (w.heap.size+6) (.slice P ls.length c) ls.length (ls.map (Value.int .i64)) (by rfl) hoA W5.heap.size #[.int .i64 (us.length:Int)] (by rfl) dA rfl (by simp[Value.oneCell']) (by omega) (by omega) _ rfl ?_;intro g6 k6 W6 hr6 hg6 hat6 hlt6
   have hown6:Own W6 (w.heap.size+6) (.slice (some ⟨g6,0,none⟩) (ls.length+1) k6) (ls++[(us.length:Int)]):=by
    have h:=hr6;unfold Own;rw[LP,Lw];exact h
   have h4b:=(hg6.block (w.heap.size+1+1+1+1) (zj hbxA) (fun e=>ww hoA hbxA (by decide) e.symm)).trans hbxA;have q6:=zh h4b 0 rfl;have f6:=zi h4b 0;have l6:=zj h4b;have hka:=HNA.out.keeps hbxA hoA hg6 (.slice (some ⟨g6,0,none⟩) (ls.length+1) k6);have hpu:=HNA.out.push (Le _) hbxA hoA hown6 hg6
   have hJ6:J (W6.setCell ⟨w.heap.size+1+1+1+1,0,none⟩ (.slice (some ⟨g6,0,none⟩) (ls.length+1) k6)):=by
    have a2:Wrote (fun k=>w.heap.size<=k) WA W6:=Wrote.of_grown hg6 (fun k e hk=>by have:=(hoA.lt k e).1;omega);have a3:Wrote (fun k=>w.heap.size<=k) W6 (W6.setCell ⟨w.heap.size+1+1+1+1,0,none⟩ (.slice (some ⟨g6,0,none⟩) (ls.length+1) k6)):=Wrote.of_grown (zU W6 _ 0 _) (fun k e hk=>by cases e;omega);exact HJ.out _ _ HJA.out (a2.trans a3 (fun _ _ h=>h))
   have HKa:=zH hka;have HPU:=zH hpu;have HJ6:=zH hJ6;refine hK' (fun _=>True) _ _ trivial ?_;clear hK' K' hr6 hg6 hat6 hlt6 hown6 h4b hka hpu hJ6 hoA hbxA hbA dA hsA;refine zA rfl ?_;intro K' hK';go_simp;refine hK' _ _ trivial ?_;clear hK' K';refine zL ?_;gi_wp2_with fail;refine⟨(HKB.out.1.trans (hsz2▸qC HBA.out)).trans (hsz2▸HKa.out.1),(HKB.out.2.trans (KeepB.of_below HBA.out (by rintro k rfl;have:=HN5.out.sz;omega))).trans HKa.out.2,?_,HJ6.out⟩;rw[HU2.out,HL2.out];exact HPU.out
 case done=>
  intro D ys W hD hys hI hDk;have hmap:ys.map (fun x=>key x.1)=L.map key:=by rw[show ys.map (fun x=>key x.1)=(ys.map (·.1)).map key by rw[Rn];rfl,hys]
  rw[hmap] at hI;obtain⟨hN,hJW⟩:=hI;obtain⟨P,c,hbx,ho⟩:=hN.box;have q4:=zh hbx 0 rfl;have HN9:=zH hN;have HO:=zH ho;have HJ9:=zH hJW;have HDk:=zH hDk;clear hN ho hbx hJW hDk hys hmap;go_wp2_with fail;refine xn (B:=w2.heap.size) (w:=W) (show Marks w2.heap.size _ W from⟨[D],rfl,by simp,fun r hr=>by rw[LZ] at hr;subst hr;exact⟨hD,HDk.out⟩⟩) (v:=.slice P (yt (L.map key)).length c) (fun W=>by kernel_rfl) ?_;intro X hS;have hb:Below w2.heap.size W X:=hS.below;refine⟨_,rfl,(HO.out.shut hS).low (by omega),HJ.out W X HJ9.out ⟨hb.os,hb.tape,hb.output,hb.size,fun k hk hn=>hb.block k (by omega)⟩,HN9.out.wrote.trans (R':=fun k=>w2.heap.size<=k) ⟨hb.os,hb.tape,hb.output,hb.size,fun k hk hn=>hb.block k (by omega)⟩ (fun k h1 h2=>by omega)⟩
 case stop=>
  intro D c pre W _ _ h;exact h.elim
def kq(G:Nat)(f:Nat->Int)(j i:Nat):Int:=if i<j/\G.testBit i=true then f i+1 else 0
def kz(G:Nat)(f:Nat->Int)(j:Nat):K5:=⟨kq G f j 0,kq G f j 1,kq G f j 2,kq G f j 3,kq G f j 4⟩
theorem kz_zero(G:Nat)(f:Nat->Int):k5C (kz G f 0)=#[.int .i64 0,.int .i64 0,.int .i64 0,.int .i64 0,.int .i64 0]:=by simp[k5C,kz,kq]
theorem kq_not{G:Nat}{f:Nat->Int}{j:Nat}(h:G.testBit j=false)(i:Nat):kq G f (j+1) i=kq G f j i:=by
 unfold kq
 by_cases e:i=j
 . subst e;simp[h]
 . have:(i<j+1)=(i<j):=by apply propext;omega
   simp only[this]
theorem Jp{G:Nat}{f:Nat->Int}{j:Nat}(h:G.testBit j=false):kz G f (j+1)=kz G f j:=by
 unfold kz;simp only[kq_not h]
theorem kq_hit{G:Nat}{f:Nat->Int}{j:Nat}(h:G.testBit j=true)(i:Nat):kq G f (j+1) i=if i=j then f j+1 else kq G f j i:=by
 unfold kq
 by_cases e:i=j
 . subst e;simp[h]
 . have:(i<j+1)=(i<j):=by apply propext;omega
   simp only[this,if_neg e]
theorem kz_hit{G:Nat}{f:Nat->Int}{j:Nat}(h:G.testBit j=true)(hj:j<5):k5C (kz G f (j+1))=(k5C (kz G f j)).set! j (.int .i64 (f j+1)):=by
 unfold kz k5C;simp only[kq_hit h];rcases j with _ | _ | _ | _ | _ | j
 . simp
 . simp
 . simp
 . simp
 . simp
 . omega
theorem k5_cell{w:Ba}{b:Nat}{x:K5}(h:w.heap[b]?=some (.cells (k5C x) 128 (0,0)))(j:Nat)(hj:j<5):∃u,w.cell? ⟨b,j,none⟩=some u/\∃m,u=.int .i64 m:=by
 rcases j with _ | _ | _ | _ | _ | j
 . exact⟨_,zh h 0 rfl,_,rfl⟩
 . exact⟨_,zh h 1 rfl,_,rfl⟩
 . exact⟨_,zh h 2 rfl,_,rfl⟩
 . exact⟨_,zh h 3 rfl,_,rfl⟩
 . exact⟨_,zh h 4 rfl,_,rfl⟩
 . omega
theorem Zg{h j:Nat}(hh:h<32)(hj:j<5):(bits BinOp.and IntKind.i64 ((h:Int) / 2^j) 1==1)=h.testBit j:=by
 match j,hj with
 | 0,_=>exact Lv (kY (p:=fun h=>decide ((bits BinOp.and IntKind.i64 ((h:Int) / 2^0) 1==1)=h.testBit 0)) (by decide +kernel) hh)
 | 1,_=>exact Lv (kY (p:=fun h=>decide ((bits BinOp.and IntKind.i64 ((h:Int) / 2^1) 1==1)=h.testBit 1)) (by decide +kernel) hh)
 | 2,_=>exact Lv (kY (p:=fun h=>decide ((bits BinOp.and IntKind.i64 ((h:Int) / 2^2) 1==1)=h.testBit 2)) (by decide +kernel) hh)
 | 3,_=>exact Lv (kY (p:=fun h=>decide ((bits BinOp.and IntKind.i64 ((h:Int) / 2^3) 1==1)=h.testBit 3)) (by decide +kernel) hh)
 | 4,_=>exact Lv (kY (p:=fun h=>decide ((bits BinOp.and IntKind.i64 ((h:Int) / 2^4) 1==1)=h.testBit 4)) (by decide +kernel) hh)
theorem jX{w:Ba}{g:Nat}{cs:Array Value}{t:TypeId}(h:w.heap[g]?=some (.cells cs t (0,0)))(i:Nat)(v:Value) :
  (w.setCell ⟨g,i,none⟩ v).heap[g]?=some (.cells (cs.set! i v) t (0,0))/\∀k,k≠g->(w.setCell ⟨g,i,none⟩ v).heap[k]?=w.heap[k]?:=by
 have hlt:=zj h;refine⟨?_,fun k hk=>Lg w ⟨g,i,none⟩ v k hk⟩;rw[World.setCell,Pt,Lh rfl,h]
 rfl
theorem tog1_any(s:Sy)(K N:Nat)(hF:Fine s K N)(G:Nat)(hG32:G<32)(e k:Nat)(he:e<s.xs.length)(hk:k<=K)(A SV AV AX:Bb)(kc ks kv kx bs bg:Nat)(w:Ba)(hX:XAt w w.heap.size AX s.xs)
  (hb:w.heap[bs]?=some (.cells (s.vs_ A kc SV ks AV kv AX kx) 35 (0,0))) (hg:w.heap[bg]?=some (.cells #[.int .i64 (G:Int)] 3 (0,0))) :
  Calls Tryz.prog 121 #[.agg #[.int .i64 (e:Int),.int .i64 (k:Int)],.pointer (some ⟨bs,0,none⟩),.pointer (some ⟨bg,0,none⟩)] w fun r w'=>r=.returned (k5E (kz G (fun q=>xw s.xs[e] k q) N))/\Below w.heap.size w w':=by
 obtain⟨w1,hw1,d0,hs1,hB⟩:=zm w #[.int .i64 (e:Int),.int .i64 (k:Int)] 118;obtain⟨w2,hw2,d1,hs2,hB2⟩:=zm w1 #[.int .i64 0,.int .i64 0,.int .i64 0,.int .i64 0,.int .i64 0] 128;obtain⟨w3,hw3,d2,hs3,hB3⟩:=zm w2 #[.int .i64 0,.int .i64 0,.int .i64 0,.int .i64 0,.int .i64 0] 128;have hBB:Below w.heap.size w w3:=hB.trans ((hB2.mono (by omega)).trans (hB3.mono (by omega)));have hxm:=Ld he;obtain⟨hvl,hrow⟩:=hF.views _ hxm;obtain⟨bx,ox,A1,c1,A2,c2,eX,hbx,x0,x1,x2,hRw,hLv⟩:=(hX.keep hBB).row e he;subst eX;obtain⟨x,hx⟩:∃x,x=s.xs[e]:=⟨_,rfl⟩;rw[<-hx] at hvl hrow x2 hLv ⊢;obtain⟨bl,ol,A3,c3,eL,hbl,y1,hI⟩:=hLv.at_ k (by omega);subst eL;obtain⟨hl,hpos⟩:=hrow _ (Ld (by omega:k<x.views.length));have hxw:∀row,x.views[k]'(by omega)=row->∀q,xw x k q=row.getD q 0:=fun row hr q=>by unfold xw;rw[zn (by omega:k<x.views.length),hr]
 obtain⟨row,hrw⟩:=Ki (x.views[k]'(by omega));have hXW:=hxw row hrw;rw[hrw] at y1 hI hl hpos;obtain⟨V,hV⟩:∃V:Nat->Int,(fun q=>xw x k q)=V:=⟨_,rfl⟩;have HV:Hid (∀q,V q=row.getD q 0):=fun q=>by rw[<-hV];exact hXW q
 rw[hV];obtain⟨nv,hnv⟩:=Ki x.views.length;rw[hnv] at x2 hvl;rw[hl] at y1;have HRL:=zH hl;have HPO:=zH hpos;have HIR:=zH hI;have HLV:=zH hF.lv;have HN5:=zH hF.n5;have HW1:=zH hw1;have HW2:=zH hw2;have HW3:=zH hw3;have HB:=zH hBB;have lbs:=zj hb;have lbg:=zj hg;have HBG:=zH (Lb hBB lbg hg);have HD1:=zH (Lb hB3 (by omega:w1.heap.size<w2.heap.size) d1);have hd0:=Lb hB3 (by omega:w.heap.size<w2.heap.size) (Lb hB2 (by omega) d0);have HD2:=zH d2;obtain⟨g0,g1,_⟩:=Ka hd0;have p9:w3.cell? ⟨bs,9,none⟩=some (.slice (some ⟨bx,ox,none⟩) s.xs.length kx):=zh (Lb hBB lbs hb) 9 rfl;have h1:(0:Int)<=(e:Int):=by omega
 have h2:(e:Int)<(s.xs.length:Int):=by omega
 have h3:(0:Int)<=(k:Int):=by omega
 have h4:(k:Int)<(nv:Int):=by omega
 have hS1:=hs1;clear hw1 hw2 hw3 d0 d1 d2 hd0 hB hB2 hB3 hBB hX hb hg hF hV hXW hnv hx hRw hLv hI hpos hrow hxm hxw hrw x0 x1 hl hvl;go_enter Tryz.func121,Tryz.ntmps121;go_wp2_with fail;rw[HW1.out];rw[HW2.out,HW3.out];clear HW1 HW2 HW3;refine zx [(0,true),(1,true),(2,true),(3,true),(4,true),(5,true),(6,true),(7,true),(8,true),(9,true),(10,true),(11,true),(12,true)] (fun X=>X=w3.drew) (by kernel_rfl) (by kernel_rfl) rfl ?_
 repeat
  apply zy rfl
  . rintro K' hK' X rfl
    go_simp;exact hK'
 refine zL ?_;obtain⟨W5,hW5⟩:=Ki w3.drew;have HH:Hid (W5.heap=w3.heap):=by rw[<-hW5];exact rfl
 have HB5:Hid (Below w.heap.size w W5):=by rw[<-hW5];exact HB.out.drew
 rw[hW5];rw[show w3.heap=W5.heap from HH.out.symm] at HBG HD1 HD2;have HK5:Hid (∀z,z<w.heap.size->W5.heap[z]?=w3.heap[z]?):=fun z _=>by rw[HH.out]
 clear hW5 g0 g1 p9 x2 y1 h1 h2 h3 h4 HB;have e2:w2.heap.size=w.heap.size+1+1:=by rw[hs2,hs1]
 rw[e2] at HD2;rw[hs1] at HD1;have hK0:Hid (W5.heap[w.heap.size+1+1]?=some (.cells (k5C (kz G V 0)) 128 (0,0))):=by rw[kz_zero];exact HD2.out
 have hWl:w.heap.size+3<=W5.heap.size:=by rw[HH.out,hs3,hs2,hs1];omega
 clear HD2 hs2 hs3 e2 HH;go_wp2_with fail
 go_loopw [20] (fun i wr=>∃j:Nat,j<=N/\i=.int .i64 (j:Int)/\Hid (wr.heap[w.heap.size+1+1]?=some (.cells (k5C (kz G V j)) 128 (0,0)))/\Hid (Wrote (fun z=>z=w.heap.size+1+1) W5 wr)) (fun i _=>N-(intOf i).toNat)
 case atStart=>exact⟨0,by omega,rfl,hK0,Wrote.refl _ _⟩
 case round=>
  obtain⟨j,hj,rfl,hKj,hWr⟩:=hrel;clear hK0;have hws:=hWr.out.size
  by_cases hjl:j<N
  . have hj5:j<5:=by have:=HN5.out;omega
    have hb1:=Zg hG32 hj5
    have hIw:IAt wr w.heap.size A3 row:=HIR.out.sameB fun z hz=>by
     have:=hWr.out.block z (by omega) (by show ¬z=w.heap.size+1+1;omega);rw[this];exact HK5.out z hz
    obtain⟨b6,o6,rfl,hb6,z0⟩:=hIw.at_ j (by rw[HRL.out];exact hjl);have hu0:=HV.out j;rw[zW (by rw[HRL.out];exact hjl)] at hu0;have hur:=HPO.out _ (Ld (by rw[HRL.out];exact hjl:j<row.length));obtain⟨u,hu⟩:=Ki (row[j]'(by rw[HRL.out];exact hjl));rw[hu] at z0 hu0 hur;have HU0:=zH hu0;have q0:=zh ((hWr.out.block bg (by omega) (by show ¬bg=w.heap.size+1+1;omega)).trans HBG.out) 0 rfl;have hwv:IntKind.i64.wrap (u+1)=u+1:=by have:=HLV.out;rw[Ll];omega
    obtain⟨old,hold,m5,rfl⟩:=k5_cell hKj.out j hj5;have hfr:=zi hKj.out j;have hj0:(0:Int)<=(j:Int):=by omega
    have hj1:(j:Int)<(N:Int):=by omega
    have hj6:(j:Int)<5:=by omega
    have hG00:(0:Int)<=(G:Int):=by omega
    have hmn:min j 64=j:=by omega
    clear hu hu0 hur hIw
    by_cases hbit:G.testBit j=true
    case neg=>
     have hbf:G.testBit j=false:=by simpa using hbit
     rw[hbf] at hb1;have hKn:Hid (wr.heap[w.heap.size+1+1]?=some (.cells (k5C (kz G V (j+1))) 128 (0,0))):=by rw[Jp hbf];exact hKj.out
     clear hKj hbit hbf;go_wp2_with fail
     go_roundw
     case rel=>exact⟨j+1,by omega,by go_num,hKn,hWr⟩
     case measure=>simp[intOf];omega
    case pos=>
     rw[hbit] at hb1;have HK:=zH (kz_hit (f:=V) hbit hj5);have h9:=jX hKj.out j (.int .i64 (u+1));have hKn:Hid ((wr.setCell ⟨w.heap.size+1+1,j,none⟩ (.int .i64 (u+1))).heap[w.heap.size+1+1]?=some (.cells (k5C (kz G V (j+1))) 128 (0,0))):=by rw[HK.out,HU0.out];exact h9.1
     have hWn:Hid (Wrote (fun z=>z=w.heap.size+1+1) W5 (wr.setCell ⟨w.heap.size+1+1,j,none⟩ (.int .i64 (u+1)))):=hWr.out.trans (Wrote.of_grown (zU wr (w.heap.size+1+1) j _) (fun z e _=>by cases e;rfl)) (fun _ _ h=>h);clear h9 hKj hWr hbit HK;go_wp2_with fail
     go_roundw
     case rel=>exact⟨j+1,by omega,by go_num,hKn,hWn⟩
     case measure=>simp[intOf];omega
  . obtain rfl:N=j:=by omega
    obtain⟨Z,hZ⟩:=Ki (kz G V N);rw[hZ] at hKj;obtain⟨za,zb,zc,zd,ze⟩:=Z;have HZ:=zH hZ;clear hZ;have c0:wr.cell? ⟨w.heap.size+1+1,0,none⟩=some (.int .i64 za):=zh hKj.out 0 rfl;have c1:wr.cell? ⟨w.heap.size+1+1,1,none⟩=some (.int .i64 zb):=zh hKj.out 1 rfl;have c2:wr.cell? ⟨w.heap.size+1+1,2,none⟩=some (.int .i64 zc):=zh hKj.out 2 rfl;have c3:wr.cell? ⟨w.heap.size+1+1,3,none⟩=some (.int .i64 zd):=zh hKj.out 3 rfl;have c4:wr.cell? ⟨w.heap.size+1+1,4,none⟩=some (.int .i64 ze):=zh hKj.out 4 rfl;have hr1:=(hWr.out.block (w.heap.size+1) (by omega) (by show ¬w.heap.size+1=w.heap.size+1+1;omega)).trans HD1.out;have r0:wr.cell? ⟨w.heap.size+1,0,none⟩=some (.int .i64 0):=zh hr1 0 rfl;have r1:wr.cell? ⟨w.heap.size+1,1,none⟩=some (.int .i64 0):=zh hr1 1 rfl;have r2:wr.cell? ⟨w.heap.size+1,2,none⟩=some (.int .i64 0):=zh hr1 2 rfl;have r3:wr.cell? ⟨w.heap.size+1,3,none⟩=some (.int .i64 0):=zh hr1 3 rfl;have r4:wr.cell? ⟨w.heap.size+1,4,none⟩=some (.int .i64 0):=zh hr1 4 rfl;have f0:=zi hr1 0;have f1:=zi hr1 1;have f2:=zi hr1 2;have f3:=zi hr1 3;have f4:=zi hr1 4;have l0:=zj hr1;have HWr:Hid (Below w.heap.size w wr):=HB5.out.trans ((vO (H:=w.heap.size+1+1) hWr.out (by omega)).mono (by omega));have HR1:=zH hr1;clear hKj hWr HIR HPO HV hr1;go_wp2_with fail
    have HR5:Hid ((((((wr.setCell ⟨w.heap.size+1,0,none⟩ (.int .i64 za)).setCell ⟨w.heap.size+1,1,none⟩ (.int .i64 zb)).setCell ⟨w.heap.size+1,2,none⟩ (.int .i64 zc)).setCell ⟨w.heap.size+1,3,none⟩ (.int .i64 zd)).setCell ⟨w.heap.size+1,4,none⟩ (.int .i64 ze)).heap[w.heap.size+1]?=some (.cells (k5C ⟨za,zb,zc,zd,ze⟩) 128 (0,0))):=(jX (jX (jX (jX (jX HR1.out 0 _).1 1 _).1 2 _).1 3 _).1 4 _).1.trans (by simp[k5C])
    (try simp only[Exit.inBlock,Exit.then])
    refine L5 (results_cell_row (P:=Tryz.prog) rfl _ _ (w.heap.size+1) 128 _ (0,0) _ rfl HR5.out Pq rfl (by kernel_rfl)) rfl ?_;have hle:w.heap.size<=w.heap.size+1:=Nat.le_succ _;exact⟨by rw[HZ.out];rfl,(((((HWr.out.setCell hle _).setCell hle _).setCell hle _).setCell hle _).setCell hle _)⟩
def togK(s:Sy)(G:Nat)(x:Nat×Nat):K5:=kz G (fun q=>xw (s.xs.getD x.1 default) x.2 q) s.n.toNat
def xJ(s:Sy)(g:Int):List Int:=yt ((zu (s.p.k.toNat+1) 0 s.xs.length).map (togK s g.toNat))
def togE(s:Sy)(g:Int):List Int×Int:=if zQ s g≠0 then ([],zQ s g) else (xJ s g,0)
theorem Yo(s:Sy)(g:Int):(xJ s g).length=s.xs.length*(s.p.k.toNat+1):=by unfold xJ;rw[yj,LF,xU _ _ (by omega)]
theorem QU(s:Sy)(hs:LowS s)(hf:yM s.p)(g:Int)(A SV AV AX:Bb)(kc ks kv kx:Nat)(w:Ba)(hS:SyAt w w.heap.size A SV AV AX s) :
  Calls Tryz.prog 85 #[.agg (s.vs_ A kc SV ks AV kv AX kx),.int .i64 g] w (RetOE (togE s g).1 (togE s g).2 w):=by
 obtain⟨w1,hw1,d0,d1,hs1,hB⟩:=yL w (s.vs_ A kc SV ks AV kv AX kx) #[.int .i64 g] 35 3;have HG:=zH (ZK s hs hf g A SV AV AX kc ks kv kx w1 (hS.up hB));have HE0:Hid (zQ s g≠0->togE s g=([],zQ s g)):=fun h=>Lh h
 have HE1:Hid (zQ s g=0->togE s g=(xJ s g,0)):=fun h=>Lf (by simpa using h)
 have HVF:=zH (fun h=>yv hf (kV (s:=s) (g:=g) h).1);have HRV:=zH (fun h=>(kV (s:=s) (g:=g) h).2);have HS1:=zH (hS.up hB)
 have HNB:=zH (fun (K N G:Nat) (hF:Fine s K N) (hG:G<32) (X:Ba) (hX:SyAt X X.heap.size A SV AV AX s) (bs bp:Nat) (hb:X.heap[bs]?=some (.cells (s.vs_ A kc SV ks AV kv AX kx) 35 (0,0))) (hp:X.heap[bp]?=some (.cells #[.int .i64 (G:Int)] 3 (0,0)))=>
  XC s K s.xs.length (by have:=hF.k6;omega) (by have:=hF.lx;omega) hF.k rfl A SV AV AX kc ks kv kx 121 #[.pointer (some ⟨bs,0,none⟩),.pointer (some ⟨bp,0,none⟩)]
   (N5 Tryz.func121 (by kernel_rfl) rfl) (togK s G) (fun _=>False)
   (fun W=>XAt W X.heap.size AX s.xs/\W.heap[bs]?=some (.cells (s.vs_ A kc SV ks AV kv AX kx) 35 (0,0))/\W.heap[bp]?=some (.cells #[.int .i64 (G:Int)] 3 (0,0))/\X.heap.size<=W.heap.size) X (fun _ h=>h.elim)
   ⟨hX.fx,hb,hp,Le _⟩
   (fun W W' h hw=>by
    have hbl:Below X.heap.size W W':=⟨hw.os,hw.tape,hw.output,hw.size,fun k hk=>hw.block k (by have:=h.2.2.2;omega) (fun h2=>by omega)⟩
    exact⟨h.1.keep hbl,Lb hbl (zj hb) h.2.1,Lb hbl (zj hp) h.2.2.1,LB h.2.2.2 hw.size⟩)
   (fun x hx W hJ hW=>by
    obtain⟨_,h1,h2⟩:=xu _ _ x hx;have he:x.1<s.xs.length:=by omega
    have:=tog1_any s K N hF G hG x.1 x.2 he (by omega) A SV AV AX kc ks kv kx bs bp W (hJ.1.more hJ.2.2.2) hJ.2.1 hJ.2.2.1;refine this.mono ?_;rintro r w' ⟨rfl,hb'⟩;unfold togK;rw[zn he,hF.n,Lo]
    refine⟨rfl,⟨hJ.1.keep (hb'.mono hJ.2.2.2),La hb' hJ.2.1,La hb' hJ.2.2.1,LB hJ.2.2.2 hb'.size⟩,Wrote.of_below hb'⟩))
 have HKL:=zH (fun (K G:Nat) (h:s.p.k=(K:Int))=>(by unfold xJ;rw[h];rfl:xJ s (G:Int)=yt ((zu (K+1) 0 s.xs.length).map (togK s G))));obtain⟨r,hr⟩:=Ki (zQ s g);rw[hr] at HG HE0 HE1 HVF HRV;obtain⟨R,hRR⟩:=Ki (togE s g);rw[hRR] at HE0 HE1 ⊢;unfold Sy.vs_ at hw1 d0 HG HNB ⊢;have HW1:=zH hw1;have HB:=zH hB;have HD:=zH d0;have HD1:=zH d1;have q0:=zh d1 0 rfl;obtain⟨p0,p1,p2,p3,p4,p5,p6,p7,p8,p9⟩:=zw (d0);clear hw1 d0 d1 hB hS hr hRR hs hf;go_enter Tryz.func85,Tryz.ntmps85;go_wp2_with fail;rw[HW1.out];go_wp2_with fail;refine HG.out.mono ?_;rintro e w2 ⟨rfl,hb2⟩;have HB2:=zH (HB.out.trans (hb2.mono (by omega)));have HD:=zH (La hb2 HD.out);have HD1:=zH (La hb2 HD1.out);have HS2:=zH (HS1.out.up hb2);clear p0 p1 p2 p3 p4 p5 p6 p7 p8 p9 q0 hb2 HG HW1 HS1
 by_cases h0:r=0
 case neg=>
  have hR:Hid (R=([],r)):=HE0.out h0;have e0:(r != 0)=true:=by simpa using h0
  clear HE0 HE1 HD HD1 HVF HRV HNB HKL;go_wp2_with fail
  go_ret2
  rw[hR.out];exact⟨none,0,rfl,Own.nil _ _,HB2.out⟩
 case pos=>
 subst h0;obtain⟨hsb,K,N,hF⟩:=HVF.out rfl;clear hsb;have hR:=zH (HE1.out rfl);obtain⟨hg0,hg1⟩:=HRV.out rfl;obtain⟨G,rfl⟩:=Lr hg0
 have hG32:G<32:=by
  have hn5:=hF.n5;rw[hF.n,Lo] at hg1;have:=Nb (n:=2) (show 0<2 by omega) hn5;have h2:((2^N:Nat):Int)=(2:Int)^N:=by push_cast;rfl
  omega
 have HC:=zH (HNB.out K N G hF hG32 w2 HS2.out w.heap.size (w.heap.size+1) HD.out HD1.out);have hkl:=HKL.out K G hF.k;rw[<-hkl] at HC;obtain⟨p0,p1,p2,p3,p4,p5,p6,p7,p8,p9⟩:=zw HD.out;clear HE0 HE1 HD HD1 HVF HRV HNB HKL HS2 hF hkl hg0 hg1;go_wp2_with fail
 all_goals first | (exfalso;omega) | skip
 refine HC.out.mono ?_;rintro e w3 ⟨v,rfl,ho,_,hw3⟩;have HO:=zH ho;have hb3:=Zj hw3;have HB3:=zH (Lc HB2.out hb3);clear ho hw3 hb3 HC p0 p1 p2 p3 p4 p5 p6 p7 p8 p9;obtain⟨A6,k6,rfl,_,_,_⟩:=HO.out.form;go_wp2_with fail
 go_ret2
 rw[hR.out];exact⟨A6,k6,rfl,HO.out.low HB2.out.size,HB3.out⟩
end
section
def ex6C:List Int:=[0,1,0,2,3,4,3,5]
theorem snocI{α:Type}{P:List α->Prop}(h0:P [])(hs:∀l x,P l->P (l++[x]))(l:List α):P l:=by
 rw[<-List.reverse_reverse l]
 induction l.reverse with
 | nil=>exact h0
 | cons x t ih=>rw[List.reverse_cons];exact hs _ _ ih
def ul(ls:List Int)(set:List Bool):Nat->Int->Option Value
 | 0=>fun _=>none
 | k+1=>if set.getD k false then ul ls set k else xq (ul ls set k) (ls.getD k 0) (.bool true)
theorem vb(ls:List Int)(set:List Bool)(v:Int):∀k,(ul ls set k v=some (.bool true)/\∃i,i<k/\ls.getD i 0=v/\set.getD i false=false)\/(ul ls set k v=none/\∀i,i<k->ls.getD i 0=v->set.getD i false=true)
 | 0=>.inr ⟨rfl,fun i h=>by omega⟩
 | k+1=>by
  unfold ul
  cases hs:set.getD k false with
  | true=>
   rw[Lh rfl];rcases vb ls set v k with ⟨h1,i,h2,h3,h4⟩ | ⟨h1,h2⟩
   . exact .inl ⟨h1,i,by omega,h3,h4⟩
   . refine .inr ⟨h1,fun i hi he=>?_⟩
     by_cases e:i=k
     . subst e;exact hs
     . exact h2 i (by omega) he
  | false=>
   rw[Lf (by simp)];unfold xq
   by_cases e:v=ls.getD k 0
   . rw[Lh e];exact .inl ⟨rfl,k,by omega,e.symm,hs⟩
   . rw[Lf e]
     rcases vb ls set v k with ⟨h1,i,h2,h3,h4⟩ | ⟨h1,h2⟩
     . exact .inl ⟨h1,i,by omega,h3,h4⟩
     . refine .inr ⟨h1,fun i hi he=>?_⟩
       by_cases e2:i=k
       . subst e2;exact absurd he.symm e
       . exact h2 i (by omega) he
def yn(n:Nat)(ls:List Int)(set:List Bool):List Bool:=(List.range n).map fun i=>decide (∀j,j<n->ls.getD j 0=ls.getD i 0->set.getD j false=true)
theorem zT(n:Nat)(ls:List Int)(set:List Bool):(yn n ls set).length=n:=by simp[yn]
theorem Yc{n:Nat}{ls:List Int}{set:List Bool}{i:Nat}(h:i<n):(yn n ls set)[i]'(by rw[zT];exact h)=decide (∀j,j<n->ls.getD j 0=ls.getD i 0->set.getD j false=true):=by simp[yn]
theorem insL_brk{n:Nat}{ls:List Int}{set:List Bool}{i:Nat}(h:i<n):(yn n ls set)[i]'(by rw[zT];exact h)=(ul ls set n (ls.getD i 0)).isNone:=by
 rw[Yc h];rcases vb ls set (ls.getD i 0) n with ⟨h1,j,h2,h3,h4⟩ | ⟨h1,h2⟩
 . rw[h1]
   refine Li fun ha=>?_
   have:=ha j h2 h3;rw[h4] at this;cases this
 . rw[h1];exact Lk h2
def xC(n:Nat)(a b:List Bool):List Bool:=(List.range n).map fun i=>a.getD i false&&b.getD i false
theorem yi(n:Nat)(a b:List Bool):(xC n a b).length=n:=by simp[xC]
theorem gt{n:Nat}{a b:List Bool}{i:Nat}(h:i<n):(xC n a b)[i]'(by rw[yi];exact h)=(a.getD i false&&b.getD i false):=by simp[xC]
def evL(n:Nat)(cls:Nat->List Int)(ps:List Nat)(set:List Bool):List Bool:=ps.foldl (fun o p=>xC n o (yn n (cls p) set)) (List.replicate n true)
theorem yH(n:Nat)(cls:Nat->List Int)(set:List Bool)(ps:List Nat):(evL n cls ps set).length=n:=by
 unfold evL;refine snocI (P:=fun ps=>(ps.foldl (fun o p=>xC n o (yn n (cls p) set)) (List.replicate n true)).length=n) (by simp) (fun l x _=>?_) ps;rw[Ph];exact yi _ _ _
theorem wZ(n:Nat)(cls:Nat->List Int)(set:List Bool)(ps:List Nat)(p:Nat):evL n cls (ps++[p]) set=xC n (evL n cls ps set) (yn n (cls p) set):=by unfold evL;rw[Ph];rfl
theorem qM{n:Nat}{cls:Nat->List Int}{set:List Bool}{i:Nat}(h:i<n)(ps:List Nat):(evL n cls ps set).getD i false=true↔∀p∈ps,∀j,j<n->(cls p).getD j 0=(cls p).getD i 0->set.getD j false=true:=by
 refine snocI (P:=fun ps=>(evL n cls ps set).getD i false=true↔∀p∈ps,∀j,j<n->(cls p).getD j 0=(cls p).getD i 0->set.getD j false=true) ?_ (fun l x ih=>?_) ps
 . simp[evL,List.getD_eq_getElem?_getD,h]
 . rw[wZ,zn (by rw[yi];exact h),gt h,Lx,ih,zn (by rw[zT];exact h),Yc h,Ng]
   constructor
   . rintro⟨h1,h2⟩ p hp
     rcases Nh.1 hp with hp | hp
     . exact h1 p hp
     . rw[LZ] at hp;subst hp;exact h2
   . exact fun h1=>⟨fun p hp=>h1 p (Rf _ hp),h1 x (by simp)⟩
end
section
open Go.RowKit Go.Shelf
attribute [local go_sem] Oper.semAt_some
def RetB(xs:List Bool)(w:Ba)(e:Ending)(w':Ba):Prop:=∃g:Nat,e=.returned (.slice (some ⟨g,0,none⟩) xs.length xs.length)/\w.heap.size<=g/\BRow w' g xs/\Below w.heap.size w w'
theorem gY(A B:Bb)(ca cb n:Nat)(hn:n<=100000)(a b:List Bool)(ha:a.length=n)(hb:b.length=n)(w:Ba)(hA:BAt w w.heap.size A a)(hB:BAt w w.heap.size B b) :
  Calls Tryz.prog 53 #[.slice A n ca,.slice B n cb] w (RetB (xC n a b) w):=by
 have HA:=zH hA;have HB:=zH hB;have HLa:=zH ha;have HLb:=zH hb;have hmk:=xz n hn;obtain⟨rs,hrs⟩:=Ki (xC n a b);have hrl:rs.length=n:=by rw[<-hrs];exact yi _ _ _
 have HRL:=zH hrl
 have HAT:Hid (∀k (h:k<n),rs[k]'(by rw[HRL.out];exact h)=(a[k]'(by rw[HLa.out];exact h)&&b[k]'(by rw[HLb.out];exact h))):=fun k h=>by
  subst hrs;rw[gt h,zn (by omega),zn (by omega)]
 unfold RetB;rw[hrs,hrl];clear hA hB ha hb hrs;go_enter Tryz.func53,Tryz.ntmps53;go_upto_region 2 with fail
 obtain⟨w3,hw3,d3,hs3,hB3⟩:=zm w (xI (List.replicate n false)) 4;rw[hw3];have HA3:=zH (HA.out.keep hB3);have HB3:=zH (HB.out.keep hB3);have HW3:=zH hB3;have HZ0:Hid (BRow w3 w.heap.size (yD rs 0)):=by rw[kd,HRL.out];exact d3
 clear hw3 d3 hB3 hmk HA HB hrl;go_wp2_with fail
 go_loopw [12] (fun i wr=>∃k:Nat,k<=n/\i=.int .i64 (k:Int)/\Hid (BRow wr w.heap.size (yD rs k))/\Hid (Below w.heap.size w3 wr)) (fun i _=>n-(intOf i).toNat)
 case atStart=>exact⟨0,by omega,rfl,HZ0,Lm _ _⟩
 case round=>
  obtain⟨k,hk,rfl,hbr,hbw⟩:=hrel;clear HZ0
  by_cases hlt:k<n
  . obtain⟨b1,o1,rfl,hb1,z0⟩:=(HA3.out.keep hbw.out).at_ k (by rw[HLa.out];exact hlt)
    obtain⟨b2,o2,rfl,hb2,z1⟩:=(HB3.out.keep hbw.out).at_ k (by rw[HLb.out];exact hlt);have hat:=HAT.out k hlt;obtain⟨x,hx⟩:=Ki (a[k]'(by rw[HLa.out];exact hlt));obtain⟨y,hy⟩:=Ki (b[k]'(by rw[HLb.out];exact hlt));rw[hx] at z0 hat;rw[hy] at z1 hat;have hkb:k<rs.length:=by rw[HRL.out];exact hlt
    have hml:=jg rs (N4 hkb);have y0:=zh hbr.out k (xH (yD rs k) k (by omega));have f0:=zi hbr.out k
    have HNEW:Hid (BRow (wr.setCell ⟨w.heap.size,k,none⟩ (.bool (x&&y))) w.heap.size (yD rs (k+1))):=by
     rw[<-hat,<-jf rs hkb];show _=_;rw[Ln wr _ k _ _ _ hbr.out,xT]
    have HBN:=zH (hbw.out.setCell (p:=⟨w.heap.size,k,none⟩) (by show w.heap.size<=w.heap.size;omega) (.bool (x&&y)));obtain⟨u,hu⟩:=Ki ((yD rs k)[k]'(by omega));rw[hu] at y0;have hk0:(0:Int)<=(k:Int):=by omega
    have hk1:(k:Int)<(n:Int):=by omega
    have hl3:=zj hbr.out;clear hx hy hat hkb hml hbr hbw hu
    cases x with
    | false=>
     go_wp2_with fail
     go_roundw
     case rel=>exact⟨k+1,by omega,by go_num,HNEW,HBN⟩
     case measure=>simp[intOf];omega
    | true=>
     go_wp2_with fail
     go_roundw
     case rel=>exact⟨k+1,by omega,by go_num,HNEW,HBN⟩
     case measure=>simp[intOf];omega
  . obtain rfl:n=k:=by omega
    have HE:Hid (BRow wr w.heap.size rs):=by have:=hbr.out;rwa[show yD rs n=rs by rw[<-HRL.out];exact jh rs] at this
    have HBE:=zH (HW3.out.trans hbw.out);clear hbr hbw HA3 HB3 HAT;go_wp2_with fail;go_ret;exact⟨w.heap.size,rfl,Le _,HE.out,HBE.out⟩
theorem ZG(A B:Bb)(ca cb n:Nat)(hn:n<=100000)(ls:List Int)(set:List Bool)(ha:ls.length=n)(hb:set.length=n)(w:Ba)(hA:IAt w w.heap.size A ls)(hB:BAt w w.heap.size B set) :
  Calls Tryz.prog 80 #[.slice A n ca,.slice B n cb] w (RetB (yn n ls set) w):=by
 have HA:=zH hA;have HB:=zH hB;have HLa:=zH ha;have HLb:=zH hb;have hmk:=xz n hn;have hmm:=@run_makeMap Tryz.prog;have hz:∀W:Ba,(zeroValue 4).run Tryz.prog W=.ok (.bool false) W:=fun W=>by kernel_rfl
 have ht:Tryz.prog.underlying 75=some (.map 3 4):=Tryz.underlying75;have HZ:=zH hz;have HT:=zH ht;obtain⟨rs,hrs⟩:=Ki (yn n ls set);have hrl:rs.length=n:=by rw[<-hrs];exact zT _ _ _
 have HRL:=zH hrl
 have HAT:Hid (∀k (h:k<n),rs[k]'(by rw[HRL.out];exact h)=(ul ls set n (ls[k]'(by rw[HLa.out];exact h))).isNone):=fun k h=>by
  subst hrs;rw[insL_brk h,zW (by rw[HLa.out];exact h)]
 unfold RetB;rw[hrs,hrl];clear hA hB ha hb hrs hz ht;go_enter Tryz.func80,Tryz.ntmps80;go_upto_region 2 with fail
 obtain⟨w1,h1⟩:=Ki (w.alloc (.map #[] 0));have m1:MapOf (Value.int .i64) w1 w.heap.size 0 (fun _=>none):=by rw[<-h1];exact MapOf.made w
 have z1:Below w.heap.size w w1:=by rw[<-h1];exact yg _ _
 have hl1:w.heap.size<w1.heap.size:=by rw[<-h1];simp
 rw[h1];have HM1:Hid (MapOf (Value.int .i64) w1 w.heap.size 0 (ul ls set 0)):=m1;have HB1:=zH z1;have HA1:=zH (HA.out.keep z1);have HS1:=zH (HB.out.keep z1);clear h1 m1 z1 hmm HA HB hrl;go_wp2_with fail
 go_loopw [14] (fun i wr=>∃k m:Nat,k<=n/\i=.int .i64 (k:Int)/\Hid (MapOf (Value.int .i64) wr w.heap.size m (ul ls set k))/\Hid (Below w.heap.size w1 wr)) (fun i _=>n-(intOf i).toNat)
 case atStart=>exact⟨0,0,by omega,rfl,HM1,Lm _ _⟩
 case round=>
  obtain⟨k,m,hk,rfl,hm,hbw⟩:=hrel;clear HM1
  by_cases hlt:k<n
  . obtain⟨b1,o1,rfl,hb1,z0⟩:=(HA1.out.keep hbw.out).at_ k (by rw[HLa.out];exact hlt)
    obtain⟨b2,o2,rfl,hb2,z1⟩:=(HS1.out.keep hbw.out).at_ k (by rw[HLb.out];exact hlt);have hga:ls.getD k 0=ls[k]'(by rw[HLa.out];exact hlt):=zW (by rw[HLa.out];exact hlt) 0;have hgb:set.getD k false=set[k]'(by rw[HLb.out];exact hlt):=zn (by rw[HLb.out];exact hlt) false;obtain⟨x,hx⟩:=Ki (ls[k]'(by rw[HLa.out];exact hlt));obtain⟨y,hy⟩:=Ki (set[k]'(by rw[HLb.out];exact hlt));rw[hx] at z0 hga;rw[hy] at z1 hgb;have hk0:(0:Int)<=(k:Int):=by omega
    have hk1:(k:Int)<(n:Int):=by omega
    have hG:ul ls set (k+1)=if y then ul ls set k else xq (ul ls set k) x (.bool true):=by rw[ul,hga,hgb]
    cases y with
    | true=>
     have hm2:Hid (MapOf (Value.int .i64) wr w.heap.size m (ul ls set (k+1))):=by rw[hG,Lh rfl];exact hm
     clear hx hy hga hgb hG hm;go_wp2_with fail
     go_roundw
     case rel=>exact⟨k+1,m,by omega,by go_num,hm2,hbw⟩
     case measure=>simp[intOf];omega
    | false=>
     obtain⟨W5,hrun,hm5,hg5⟩:=hm.out.put yp HT.out x (.bool true);have hm2:Hid (MapOf (Value.int .i64) W5 w.heap.size (m+1) (ul ls set (k+1))):=by rw[hG,Lf (by simp)];exact hm5
     have HB5:Hid (Below w.heap.size w1 W5):=hbw.out.grown hg5 (by have:=hbw.out.size;omega) (fun r e=>by cases e;omega);clear hx hy hga hgb hG hm hm5 hg5 hbw;go_wp2_with fail
     go_roundw
     case rel=>exact⟨k+1,m+1,by omega,by go_num,hm2,HB5⟩
     case measure=>simp[intOf];omega
  . obtain rfl:n=k:=by omega
    have hsr:=hbw.out.size;obtain⟨wE,rfl⟩:∃x,x=wr:=⟨_,rfl⟩;go_upto_region 9 with fail
    obtain⟨w3,hw3,d3,hs3,hB3⟩:=zm wE (xI (List.replicate n false)) 4;rw[hw3];have HA3:=zH ((HA1.out.keep hbw.out).keep (hB3.mono (by omega)));have HM3:=zH (hm.out.same (hB3.block _ (by omega)));have HW3:=zH (HB1.out.trans (hbw.out.trans (hB3.mono (by omega))));have HZ0:Hid (BRow w3 wE.heap.size (yD rs 0)):=by rw[kd,HRL.out];exact d3
    have hwE:w.heap.size<wE.heap.size:=by omega
    clear hw3 d3 hB3 hmk HA1 HS1 hm hbw hsr;go_wp2_with fail
    go_loopw [32] (fun i wr=>∃k:Nat,k<=n/\i=.int .i64 (k:Int)/\Hid (BRow wr wE.heap.size (yD rs k))/\Hid (Below wE.heap.size w3 wr)) (fun i _=>n-(intOf i).toNat)
    case atStart=>exact⟨0,by omega,rfl,HZ0,Lm _ _⟩
    case round=>
     obtain⟨k,hk,rfl,hbr,hbw⟩:=hrel;clear HZ0
     by_cases hlt:k<n
     . obtain⟨b1,o1,rfl,hb1,z0⟩:=(HA3.out.keep (hbw.out.mono (by omega))).at_ k (by rw[HLa.out];exact hlt)
       have hat:=HAT.out k hlt;obtain⟨x,hx⟩:=Ki (ls[k]'(by rw[HLa.out];exact hlt));rw[hx] at z0 hat;have hm:=HM3.out.same (hbw.out.block _ hwE);have hlk:=hm.look yp HT.out (HZ.out wr) x
       have hres:∃y:Bool,(ul ls set n x).getD (.bool false)=.bool y/\rs[k]'(by rw[HRL.out];exact hlt)=!y:=by
        rcases vb ls set x n with ⟨h1,_⟩ | ⟨h1,_⟩
        . exact⟨true,by rw[h1];rfl,by rw[hat,h1];rfl⟩
        . exact⟨false,by rw[h1];rfl,by rw[hat,h1];rfl⟩
       obtain⟨y,hy1,hy2⟩:=hres;rw[hy1] at hlk;have hkb:k<rs.length:=by rw[HRL.out];exact hlt
       have hml:=jg rs (N4 hkb);have y0:=zh hbr.out k (xH (yD rs k) k (by omega));have f0:=zi hbr.out k
       have HNEW:Hid (BRow (wr.setCell ⟨wE.heap.size,k,none⟩ (.bool (!y))) wE.heap.size (yD rs (k+1))):=by
        rw[<-hy2,<-jf rs hkb];show _=_;rw[Ln wr _ k _ _ _ hbr.out,xT]
       have HBN:=zH (hbw.out.setCell (p:=⟨wE.heap.size,k,none⟩) (by show wE.heap.size<=wE.heap.size;omega) (.bool (!y)));obtain⟨u,hu⟩:=Ki ((yD rs k)[k]'(by omega));rw[hu] at y0;have hk0:(0:Int)<=(k:Int):=by omega
       have hk1:(k:Int)<(n:Int):=by omega
       have hl3:=zj hbr.out;clear hx hat hkb hml hbr hbw hu hm hy1 hy2;go_wp2_with fail
       go_roundw
       case rel=>exact⟨k+1,by omega,by go_num,HNEW,HBN⟩
       case measure=>simp[intOf];omega
     . obtain rfl:n=k:=by omega
       have HE:Hid (BRow wr wE.heap.size rs):=by have:=hbr.out;rwa[show yD rs n=rs by rw[<-HRL.out];exact jh rs] at this
       have HBE:=zH (HW3.out.trans (hbw.out.mono (by omega)));clear hbr hbw HA3 HAT HM3;go_wp2_with fail;go_ret;exact⟨wE.heap.size,rfl,by omega,HE.out,HBE.out⟩
end
section
open Go.RowKit
theorem Yu:(Tryz.prog.info? 4).map (·.size)=some 1:=by kernel_rfl
theorem J9(n b:Nat)(h1:1<=n)(h5:n<=100000)(u:Bool)(w:Ba)(hb:w.heap[b]?=some (.cells #[.bool u] 4 (0,0))) :
  Calls Tryz.prog 119 #[.slice (some ⟨b,0,none⟩) 1 1,.int .i64 n] w fun e w'=>∃g,e=.returned (.slice (some ⟨g,0,none⟩) n n)/\w.heap.size<=g/\BRow w' g (List.replicate n u)/\Below w.heap.size w w':=by
 have hmk:=xz n h5;obtain⟨ar,har⟩:∃ar:List Value,(List.replicate n false).map Value.bool=ar:=⟨_,rfl⟩;unfold xI at hmk;rw[har] at hmk;have hal:ar.length=n:=by rw[<-har];simp
 have hc:=zh hb 0 rfl;have hbl:=zj hb;have hm:=Tryz.bits_Mul 1 n (by omega) (by omega) w;have e1:(1*n / 18446744073709551616:Nat)=0:=by omega
 have e2:(1*n % 18446744073709551616:Nat)=n:=by omega
 rw[e1,e2] at hm;have hn0:¬(n:Int)<0:=by omega
 clear har e1 e2;go_enter Tryz.func119,Tryz.ntmps119;go_wp2_with fail;refine hm.mono ?_;rintro e w1 ⟨rfl,hw1⟩;obtain rfl:=hw1;clear hm;obtain⟨W0,hW0,b0,hsz,hB0⟩:=zm w1 ar.toArray 4;have hx:W0.cell? ⟨b,0,none⟩=some (.bool u):=(hB0.cell (p:=⟨b,0,none⟩) hbl).trans hc;have BB:=zH hB0;have BX:=zH b0;have HX:=zH hx;clear hc hB0 b0 hx hb;go_wp2_with ((refine Sh rfl (.tmp 31) (.tmp 32) 36 36 rfl 4 N2 Yu (some ⟨w1.heap.size,0,none⟩) (some ⟨b,0,none⟩) n n 1 1 rfl rfl w1.heap.size 0 ar 4 BX.out [.bool u] (by simp[Nat.min_def];omega) (fun _=>⟨rfl,_,rfl,Jh HX.out⟩) (by simp;omega) (by simp[Value.oneCell']) w1.heap.size w1 BB.out (Le _) ?_);intro w2 hr2 hb2);obtain⟨g,hg⟩:=Ki w1.heap.size;have s1:=qT (cur:=ar) (x:=.bool u) (k:=0) (m:=1) (n:=n) hal (by simp) (by omega);have S1:=zH s1;have HGG:=zH hg;rw[hg] at hr2 hb2 ⊢;clear s1 BX HX BB hW0 hsz hmk hg
 go_loopw [8] (fun l wr=>∃(k:Nat) (cur:List Value),1<=k/\k<=n/\l=.int .i64 k/\Hid (cur.length=n)/\Hid (cur.take k=List.replicate k (.bool u))/\Hid (wr.heap[g]?=some (.cells cur.toArray 4 (0,0)))/\Below g w1 wr) (fun l _=>n-(intOf l).toNat)
 case atStart=>exact⟨1,splice ar 0 [.bool u],by omega,h1,rfl,S1.out.2,S1.out.1,hr2,hb2⟩
 case round=>
  obtain⟨k,cur,hk1,hkn,rfl,hcl,hct,hcell,hbl2⟩:=hrel
  by_cases hlt:k<n
  . clear S1 hr2 hb2
    have hk0:(0:Int)<=(k:Int):=by omega
    have hk2:(k:Int)<=(n:Int):=by omega
    have hne:¬n=k:=by omega
    have hne':¬k=n:=by omega
    go_upto_region 9 with fail
    obtain⟨d,hd⟩:=Ki (n-k);obtain⟨m,hm⟩:=Ki (Nat.min k d);have hm0:min k d=m:=hm;have hm1:1<=m:=by omega
    have hm2:k+m<=n:=by omega
    have hm3:m<=k:=by omega
    clear hm0
    have hsrc:∀j v,(List.replicate m (Value.bool u))[j]?=some v->wr.cell? ((⟨g,0,none⟩:Addr).add j)=some v:=by
     intro j v hj;have hjm:j<m:=by have:=(Ls.1 hj).1;simpa using this
     rw[NG,Lh hjm] at hj
     cases hj
     rw[Po,LL];refine zh hcell.out j ?_;rw[RZ];have h2:=congrArg (fun l=>l[j]?) hct.out;simp only[List.getElem?_take,List.getElem?_replicate] at h2;rwa[Lh (by omega),Lh (by omega)] at h2
    have SP:=zH (qT (cur:=cur) (x:=Value.bool u) (k:=k) (m:=m) (n:=n) hcl.out hct.out hm2);have HSRC:=zH hsrc;have HM:=zH hm;have HBL2:=zH hbl2;have hs1:IntKind.i64.wrap ((k:Int)+(m:Int))=(k:Int)+(m:Int):=SM _ (by omega);have HS1:=zH hs1;clear hsrc hm hbl2 hs1
    go_region_law ((refine Sx (by rfl) (.tmp 41) (.tmp 44) 36 36 (by rfl) 4 N2 Yu (some ⟨g,k,none⟩) (some ⟨g,0,none⟩) d d k n (by simp[go_sem]) (by simp[go_sem]) g k cur 4 hcell.out (List.replicate m (.bool u)) (by rw[LH];exact HM.out.symm) (fun _=>⟨rfl,_,rfl,HSRC.out⟩) (by rw[LH,hcl.out];exact hm2) (by intro v hv;rw[RK hv];rfl) g w1 HBL2.out.drew (Le _) ?_;intro w3 hr3 hb3;rw[LH]))
    all_goals
     rw[HS1.out];go_wp2_with fail
     go_frame
     go_roundw
     case rel=>
      (repeat apply Exists.intro)
      exact⟨⟨k+m,splice cur k (List.replicate m (.bool u)),by omega,by omega,rfl,SP.out.2,SP.out.1,hr3,hb3⟩,by first | rfl | (go_frame;rfl) | (simp[Act.put];done)⟩
     case measure=>simp[intOf];omega
  . obtain rfl:k=n:=by omega
    go_wp2_with fail;go_ret;refine⟨g,rfl,by have:=HGG.out;omega,?_,by have:=HGG.out;rw[this];exact hbl2⟩;unfold BRow xI;have e:=hct.out;rw[Nw (by have:=hcl.out;omega)] at e;rw[hcell.out,e];simp
theorem clone_kBl(A:Bb)(n cap:Nat)(cs:List Value)(w:Ba)(hl:cs.length=n*1)(hA:Raw w A n cs)(h1:∀u∈cs,u.oneCell'=true)(hn:n<=1000000) :
  Calls Tryz.prog 52 #[.slice A n cap] w (RetR kBl n cs w):=by
 have HT:=zH hA;have H1:=zH h1;have HL:=zH hl;clear hA h1 hl;have q:∀(w:Ba) (a:Bb) (n c n' c':Nat),(binOp .eql 36 (.slice a n c) (.slice none n' c')).run Tryz.prog w=.ok (.bool a.isNone) w:=fun w a n c n' c'=>Ps w _ _ a n c n' c' N2
 obtain⟨i0,hi,hz0,hz1,hz2⟩:=xa kBl_ok
 cases A with
 | none=>
  have hvs:n=0:=by
   rcases NH n with h | h
   . exact h
   . obtain⟨b,off,e,_⟩:=HT.out h;cases e
  subst hvs;have hcs:cs=[]:=LR (by have:=HL.out;omega);subst hcs;go_enter Tryz.func52,Tryz.ntmps52;go_wp2;go_ret;exact⟨_,rfl,OwnR.nil _ _ _,Lm _ _⟩
 | some ad=>
  have HC:Hid (∀(j:Nat) (u:Value),cs[j]?=some u->(w.alloc (.cells #[] 4)).cell? (ad.add j)=some u):=fun j u hj=>by
   have hjl:j<n*1:=by rw[<-HL.out];exact(Ls.1 hj).1
   obtain⟨b,off,e,hlt,hc⟩:=HT.out (by omega)
   cases e
   rw[Po];exact PB _ (hc j u hj)
  go_enter Tryz.func52,Tryz.ntmps52;go_wp2_with (at_builtin;refine Px _ rfl _ _ 36 rfl w.heap.size 4 i0 _ 1 1 N2 hi hz0 hz1 hz2 rfl (by decide) _ _ _ rfl (PG w #[] 0 (Le _) (Nj _) rfl) ad n cap cs rfl HL.out HC.out H1.out ?qc4 ?qc5 ?qc6 ?_)
  case qc4=>unfold maxLen;omega
  case qc5=>omega
  case qc6=>simp
  intro v' w1 hown hgrow hnil;go_wp2;go_ret;refine⟨v',rfl,hown,?_⟩;exact((Lm _ w).alloc (Le _) _).grown hgrow (by simp) (by intro k hk;simp[Value.ownBlock] at hk;omega)
end
end Go.Proofs.YtjmckgoegfipeaaGreatDoor
