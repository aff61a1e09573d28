/- Parts AtmA AtmB AtmC AtmD AtmE KnwK KnwL KnwM KnwN KnwO KnwH KnwR ExF37 R37A Only37. -/
import Derived.Test.YtjmckgoegfipeaaGreatDoorProg
import Derived.Test.YtjmckgoegfipeaaGreatDoorPg
import Derived.Test.YtjmckgoegfipeaaGreatDoorPh
import Derived.Test.YtjmckgoegfipeaaGreatDoorPc
import Derived.Laws.EntriesVeiled
import Derived.Deep.Cut
import Derived.Test.YtjmckgoegfipeaaGreatDoorPf
import Derived.Test.YtjmckgoegfipeaaGreatDoorPe
import Derived.Test.YtjmckgoegfipeaaGreatDoorPb
import Derived.Carry
import Derived.Deep.QuietTactic
import Derived.BigQuiet

namespace Go.Proofs.YtjmckgoegfipeaaGreatDoor
set_option maxRecDepth 100000
set_option maxHeartbeats 4000000
theorem Xzw{w:World}{b:Nat}{v0 v1 v2 v3 v4 v5 v6 v7 v8 v9:Value}{l:List Value}{t:TypeId}(h:w.heap[b]?=some (.cells ⟨v0::v1::v2::v3::v4::v5::v6::v7::v8::v9::l⟩ t (0,0))):w.cell? ⟨b,0,none⟩=some v0/\w.cell? ⟨b,1,none⟩=some v1/\w.cell? ⟨b,2,none⟩=some v2/\w.cell? ⟨b,3,none⟩=some v3/\w.cell? ⟨b,4,none⟩=some v4/\w.cell? ⟨b,5,none⟩=some v5/\w.cell? ⟨b,6,none⟩=some v6/\w.cell? ⟨b,7,none⟩=some v7/\w.cell? ⟨b,8,none⟩=some v8/\w.cell? ⟨b,9,none⟩=some v9:=⟨zh h 0 rfl,zh h 1 rfl,zh h 2 rfl,zh h 3 rfl,zh h 4 rfl,zh h 5 rfl,zh h 6 rfl,zh h 7 rfl,zh h 8 rfl,zh h 9 rfl⟩
section
open Go.RowKit Go.Shelf
attribute [local go_sem] Oper.semAt_some
structure AtW(s:Sy)(A SV AV AX:Bb)(kc ks kv kx:Nat)(h:Fh)(AF:Bb)(lf cf:Nat)(out:List Int)(AR:Bb)(cr bS bF bR bH bV bI gH:Nat)(W:Ba):Prop where
 xs:XAt W W.heap.size AX s.xs
 cs:CAt W W.heap.size A s.p.t.cases
 ro:IAt W W.heap.size AR out
 hS:W.heap[bS]?=some (.cells (s.vs_ A kc SV ks AV kv AX kx) 35 (0,0))
 hF:W.heap[bF]?=some (.cells (fcs h AF lf cf) 60 (0,0))
 hR:W.heap[bR]?=some (.cells #[.slice AR out.length cr] 57 (0,0))
 hH:W.heap[bH]?=some (.cells #[.slice (some ⟨gH,0,none⟩) s.vs.length s.vs.length] 50 (0,0))
 hG:RowAt W gH (kB s.vs s.vs.length)
 hV:W.heap[bV]?=some (.cells #[.func (.func 139) #[] #[.pointer (some ⟨bS,0,none⟩),.pointer (some ⟨bF,0,none⟩)]] 121 (0,0))
 hI:W.heap[bI]?=some (.cells #[.func (.func 140) #[] #[.pointer (some ⟨bS,0,none⟩)]] 203 (0,0))
section
variable {s:Sy} {A SV AV AX:Bb} {kc ks kv kx:Nat} {h:Fh} {AF:Bb} {lf cf:Nat} {out:List Int} {AR:Bb} {cr bS bF bR bH bV bI gH:Nat} {W W':Ba}
theorem AtW.keep(H:AtW s A SV AV AX kc ks kv kx h AF lf cf out AR cr bS bF bR bH bV bI gH W)(hb:Below W.heap.size W W'):AtW s A SV AV AX kc ks kv kx h AF lf cf out AR cr bS bF bR bH bV bI gH W':=
 have k:∀ {b:Nat} {o:Obj},W.heap[b]?=some o->W'.heap[b]?=some o:=fun e=>(hb.block _ (Lp.1 e).1).trans e
 ⟨(H.xs.keep hb).more hb.size,(H.cs.keep hb).more hb.size,(H.ro.keep hb).more hb.size,k H.hS,k H.hF,k H.hR,k H.hH,k H.hG,k H.hV,k H.hI⟩
end
theorem atv_any(s:Sy)(K N:Nat)(hF:Fine s K N)(h:Fh)(e k q:Nat)(he:e<s.xs.length)(hk:k<=K)(hq:q<N)(hhp:h.p=(q:Int))(A SV AV AX AF AR:Bb)(kc ks kv kx lf cf:Nat)(out:List Int)(cr bS bF bR bH bV bI gH:Nat)(w:Ba)
  (hW:AtW s A SV AV AX kc ks kv kx h AF lf cf out AR cr bS bF bR bH bV bI gH w) :
  Calls Tryz.prog 139 #[.agg #[.int .i64 (e:Int),.int .i64 (k:Int)],.pointer (some ⟨bS,0,none⟩),.pointer (some ⟨bF,0,none⟩)] w fun r w'=>r=.returned (.int .i64 (xw s.xs[e] k q))/\Below w.heap.size w w':=by
 have hX:=hW.xs;have hb:=hW.hS;have hp:=hW.hF;clear hW;unfold fcs at hp;rw[hhp] at hp;obtain⟨w1,hw1,d0,hs1,hB⟩:=zm w #[.int .i64 (e:Int),.int .i64 (k:Int)] 118;have hxm:=Ld he;obtain⟨hvl,hrow⟩:=hF.views _ hxm;obtain⟨bx,ox,A1,c1,A2,c2,eX,hbx,x0,x1,x2,hRw,hLv⟩:=(hX.keep hB).row e he;subst eX;obtain⟨x,hx⟩:∃x,x=s.xs[e]:=⟨_,rfl⟩;rw[<-hx] at hvl hrow x2 hLv ⊢;obtain⟨bl,ol,A3,c3,eL,hbl,y1,hI⟩:=hLv.at_ k (by omega);subst eL;obtain⟨hl,hpos⟩:=hrow _ (Ld (by omega:k<x.views.length));have hxw:∀row,x.views[k]'(by omega)=row->xw x k q=row.getD q 0:=fun row hr=>by unfold xw;rw[zn (by omega:k<x.views.length),hr]
 obtain⟨row,hrw⟩:=Ki (x.views[k]'(by omega));rw[hxw row hrw];rw[hrw] at y1 hI hl;obtain⟨b4,o4,e4,hb4,z4⟩:=hI.at_ q (by omega);subst e4;have hval:row[q]'(by omega)=row.getD q 0:=by rw[Lj,Lq (by omega)];rfl
 rw[hval] at z4;obtain⟨u,hu⟩:=Ki (row.getD q 0);rw[hu] at z4 ⊢;obtain⟨nv,hnv⟩:=Ki x.views.length;rw[hnv] at x2 hvl;obtain⟨nr,hnr⟩:=Ki row.length;rw[hnr] at y1 hl;have HW1:=zH hw1;have HB:=zH hB;obtain⟨g0,g1,_⟩:=Ka d0;have p0:w1.cell? ⟨bF,1,none⟩=some (.int .i64 (q:Int)):=zh (La hB hp) 1 rfl;have p9:w1.cell? ⟨bS,9,none⟩=some (.slice (some ⟨bx,ox,none⟩) s.xs.length kx):=zh (La hB hb) 9 rfl;have h1:(0:Int)<=(e:Int):=by omega
 have h2:(e:Int)<(s.xs.length:Int):=by omega
 have h3:(0:Int)<=(k:Int):=by omega
 have h4:(k:Int)<(nv:Int):=by omega
 have h5:(0:Int)<=(q:Int):=by omega
 have h6:(q:Int)<(nr:Int):=by omega
 have lbs:=zj hb;have lbp:=zj hp;clear hw1 d0 hB hX hb hp hF hval hu hnv hnr hx hRw hLv hI hpos hrow hxm hxw hrw x0 x1 hl hvl hhp;go_enter Tryz.func139,Tryz.ntmps139;go_wp2_with fail;rw[HW1.out];go_quiet (fail);go_wp2_with fail;go_ret;exact⟨rfl,zY HB.out _⟩
theorem ati_any(s:Sy)(h:Fh)(e k c:Nat)(he:e<s.xs.length)(hc:s.xs[e].c=(c:Int))(hcl:c<s.p.t.cases.length)(A SV AV AX AF AR:Bb)(kc ks kv kx lf cf:Nat)(out:List Int)(cr bS bF bR bH bV bI gH:Nat)(w:Ba)
  (hW:AtW s A SV AV AX kc ks kv kx h AF lf cf out AR cr bS bF bR bH bV bI gH w) :
  Calls Tryz.prog 140 #[.agg #[.int .i64 (e:Int),.int .i64 (k:Int)],.pointer (some ⟨bS,0,none⟩)] w fun r w'=>∃A' c',r=.returned (.slice A' (yJ s.p c).length c')/\IAt w' w.heap.size A' (yJ s.p c)/\Below w.heap.size w w':=by
 have hX:=hW.xs;have hC:=hW.cs;have hb:=hW.hS;clear hW;obtain⟨w1,hw1,d0,hs1,hB⟩:=zm w #[.int .i64 (e:Int),.int .i64 (k:Int)] 118;obtain⟨bx,ox,A1,c1,A2,c2,eX,hbx,x0,x1,x2,hRw,hLv⟩:=(hX.keep hB).row e he;subst eX;rw[hc] at x0;obtain⟨bc,oc,A3,c3,A4,c4,A5,c5,eC,hbc,y0,y1,y2,hI,_,_⟩:=(hC.keep hB).row c hcl;subst eC;have hin:yJ s.p c=s.p.t.cases[c].inp:=by unfold yJ;rw[Lj,Lq hcl];rfl
 rw[<-hin] at y0 hI;obtain⟨L,hL⟩:=Ki (yJ s.p c);rw[hL] at y0 hI ⊢;obtain⟨nl,hnl⟩:=Ki L.length;rw[hnl] at y0 ⊢;have HI:=zH hI;have HW1:=zH hw1;have HB:=zH hB;obtain⟨g0,g1,_⟩:=Ka d0;have p3:w1.cell? ⟨bS,3,none⟩=some (.slice (some ⟨bc,oc,none⟩) s.p.t.cases.length kc):=zh (La hB hb) 3 rfl;have p9:w1.cell? ⟨bS,9,none⟩=some (.slice (some ⟨bx,ox,none⟩) s.xs.length kx):=zh (La hB hb) 9 rfl;have h1:(0:Int)<=(e:Int):=by omega
 have h2:(e:Int)<(s.xs.length:Int):=by omega
 have h3:(0:Int)<=(c:Int):=by omega
 have h4:(c:Int)<(s.p.t.cases.length:Int):=by omega
 have lbs:=zj hb;clear hw1 d0 hB hX hC hb hc hRw hLv hI hin hL hnl x1 x2 y1 y2;go_enter Tryz.func140,Tryz.ntmps140;go_wp2_with fail;rw[HW1.out];go_quiet (fail);go_wp2_with fail;go_ret;exact⟨_,_,rfl,IAt.keep HI.out (zY (Lm w.heap.size w1) _),zY HB.out _⟩
end
section
open Go.RowKit Go.Shelf
attribute [local go_sem] Oper.semAt_some
theorem at0_any(s:Sy)(h:Fh)(e k:Nat)(_he:e<s.xs.length)(hop:h.op=0)(A SV AV AX AF AR:Bb)(kc ks kv kx lf cf:Nat)(out:List Int)(cr bS bF bR bH bV bI gH:Nat)(w:Ba)
  (_hW:AtW s A SV AV AX kc ks kv kx h AF lf cf out AR cr bS bF bR bH bV bI gH w) :
  Calls Tryz.prog 141 #[.agg #[.int .i64 (e:Int),.int .i64 (k:Int)]] w fun r w'=>r=.returned (.bool (qo s out h (e,k)))/\Below w.heap.size w w':=by
 obtain⟨w1,hw1,d0,hs1,hB⟩:=zm w #[.int .i64 (e:Int),.int .i64 (k:Int)] 118;have hE:qo s out h (e,k)=true:=by unfold qo;rw[Lh hop]
 rw[hE];have HW1:=zH hw1;have HB:=zH hB;clear hw1 d0 hB _hW hE hop _he hs1;go_enter Tryz.func141,Tryz.ntmps141;go_wp2_with fail;rw[HW1.out];go_wp2_with fail;go_ret;exact⟨rfl,HB.out⟩
theorem at1_any(s:Sy)(h:Fh)(e k:Nat)(he:e<s.xs.length)(c q:Nat)(hc:s.xs[e].c=(c:Int))(hcl:c<s.p.t.cases.length)(hq:q<(yJ s.p c).length)(hhp:h.p=(q:Int))(hop:h.op=1)(A SV AV AX AF AR:Bb)(kc ks kv kx lf cf:Nat)(out:List Int)(cr bS bF bR bH bV bI gH:Nat)(w:Ba)
  (hW:AtW s A SV AV AX kc ks kv kx h AF lf cf out AR cr bS bF bR bH bV bI gH w) :
  Calls Tryz.prog 142 #[.agg #[.int .i64 (e:Int),.int .i64 (k:Int)],.pointer (some ⟨bI,0,none⟩),.pointer (some ⟨bF,0,none⟩)] w fun r w'=>r=.returned (.bool (qo s out h (e,k)))/\Below w.heap.size w w':=by
 obtain⟨w1,hw1,d0,hs1,hB⟩:=zm w #[.int .i64 (e:Int),.int .i64 (k:Int)] 118
 have hE:qo s out h (e,k)=decide ((yJ s.p c).getD q 0=h.v):=by
  unfold qo;rw[Lf (by rw[hop];decide),Lh hop];dsimp only;rw[zn he,hc,hhp,Lo,Lo]
 rw[hE];have HC:=zH (ati_any s h e k c he hc hcl A SV AV AX AF AR kc ks kv kx lf cf out cr bS bF bR bH bV bI gH w1.drew (hW.keep hB.drew));have hF:=hW.hF;unfold fcs at hF;rw[hhp] at hF;obtain⟨vv,hoo⟩:=Ki h.v;rw[hoo] at hF ⊢;obtain⟨L,hL⟩:=Ki (yJ s.p c);rw[hL] at HC hq ⊢;obtain⟨y,hy⟩:=Ki (L.getD q 0);have HY:Hid (L[q]=y):=by rw[Hid,<-hy,zn hq]
 rw[hy];have hIw:=hW.hI;have lF:=zj hF;have lI:=zj hIw
 have HKP:Hid (∀X,Below w1.heap.size w1 X->X.heap[bF]?=some (.cells #[.int .i64 h.op,.int .i64 (q:Int),.int .i64 h.o,.int .i64 vv,.int .i64 h.g,.slice AF lf cf] 60 (0,0))/\X.heap[bI]?=some (.cells #[.func (.func 140) #[] #[.pointer (some ⟨bS,0,none⟩)]] 203 (0,0))/\X.heap[w.heap.size]?=some (.cells #[.int .i64 (e:Int),.int .i64 (k:Int)] 118 (0,0))):=
  fun X hX=>⟨Lb hX (by omega) (Lb hB lF hF),Lb hX (by omega) (Lb hB lI hIw),Lb hX (by omega) d0⟩
 have HW1:=zH hw1;have HB:=zH hB;have HS1:=zH hs1;obtain⟨n,hn⟩:=Ki L.length;have HN:=zH hn;have hqn:q<n:=by omega
 rw[hn] at HC;have h5:(0:Int)<=(q:Int):=by omega
 have h6:(q:Int)<(n:Int):=by omega
 clear hw1 d0 hB hW hF hIw hE hL hoo hop hhp hc hcl he hs1 hy hn;go_enter Tryz.func142,Tryz.ntmps142;go_wp2_with fail;rw[HW1.out];refine zx [(0,true),(1,true),(3,true),(4,true),(7,true),(8,true),(2,false),(5,false),(6,false),(9,false),(10,false)] (fun X=>X.heap[bF]?=some (.cells #[.int .i64 h.op,.int .i64 (q:Int),.int .i64 h.o,.int .i64 vv,.int .i64 h.g,.slice AF lf cf] 60 (0,0))/\X.heap[bI]?=some (.cells #[.func (.func 140) #[] #[.pointer (some ⟨bS,0,none⟩)]] 203 (0,0))/\X.heap[w.heap.size]?=some (.cells #[.int .i64 (e:Int),.int .i64 (k:Int)] 118 (0,0))) (by kernel_rfl) (by kernel_rfl) (HKP.out _ (Lm _ _).drew) ?_
 repeat
  apply zy rfl
  . rintro K' hK' X ⟨u1,u2,u3⟩
    have q1:=zh u1 1 rfl;have q3:=zh u1 3 rfl;have i0:=zh u2 0 rfl;obtain⟨g0,g1,_⟩:=Ka u3;clear u1 u2 u3;go_simp;exact hK'
 refine zA rfl ?_;intro K' hK';go_simp;refine HC.out.mono ?_;rintro r w5 ⟨A',c',rfl,hI5,hb5⟩;have hb5:Below w1.heap.size w1 w5:=(Lm _ w1).drew.trans (hb5.mono (Le _));have HB5:=zH (Lc HB.out hb5);have HK5:=zH (HKP.out w5 hb5);obtain⟨b4,o4,rfl,hb4,z4⟩:=hI5.at_ q (by rw[HN.out];exact hqn);rw[HY.out] at z4;have HZ4:=zH z4;clear hI5 HC hb5 z4;refine hK' _ _ HK5.out ?_;clear hK' K';have z4:=HZ4.out;refine zA rfl ?_;intro K' hK';go_simp;refine hK' _ _ HK5.out ?_;clear hK' K';refine zA rfl ?_;intro K' hK';go_simp;refine hK' _ _ HK5.out ?_;clear hK' K';refine zA rfl ?_;intro K' hK';go_simp;refine hK' _ _ HK5.out ?_;clear hK' K';refine zA rfl ?_;intro K' hK';go_simp;refine hK' _ _ HK5.out ?_;clear hK' K';refine zL ?_;clear HKP HK5 z4 HZ4;go_wp2_with fail;go_ret;exact⟨zt (by first | rfl | simp),HB5.out⟩
theorem at2_any(s:Sy)(h:Fh)(e k:Nat)(he:e<s.xs.length)(c:Nat)(hc:s.xs[e].c=(c:Int))(hcl:c<s.p.t.cases.length)(hLl:(yJ s.p c).length<=5)(hop:h.op=2)(A SV AV AX AF AR:Bb)(kc ks kv kx lf cf:Nat)(out:List Int)(cr bS bF bR bH bV bI gH:Nat)(w:Ba)
  (hW:AtW s A SV AV AX kc ks kv kx h AF lf cf out AR cr bS bF bR bH bV bI gH w) :
  Calls Tryz.prog 143 #[.agg #[.int .i64 (e:Int),.int .i64 (k:Int)],.pointer (some ⟨bI,0,none⟩),.pointer (some ⟨bF,0,none⟩)] w fun r w'=>r=.returned (.bool (qo s out h (e,k)))/\Below w.heap.size w w':=by
 obtain⟨w1,hw1,d0,hs1,hB⟩:=zm w #[.int .i64 (e:Int),.int .i64 (k:Int)] 118
 have hE:qo s out h (e,k)=decide (h.v∈yJ s.p c):=by
  unfold qo;rw[Lf (by rw[hop];decide),Lf (by rw[hop];decide),Lh hop];dsimp only;rw[zn he,hc,Lo]
 rw[hE];have HC:=zH (ati_any s h e k c he hc hcl A SV AV AX AF AR kc ks kv kx lf cf out cr bS bF bR bH bV bI gH w1 (hW.keep hB));have hF:=hW.hF;unfold fcs at hF;obtain⟨vv,hoo⟩:=Ki h.v;rw[hoo] at hF ⊢;obtain⟨L,hL⟩:=Ki (yJ s.p c);rw[hL] at HC hLl ⊢;have hIw:=hW.hI;have lF:=zj hF;have lI:=zj hIw;have HKP:Hid (∀X,Below w1.heap.size w1 X->X.cell? ⟨bF,3,none⟩=some (.int .i64 vv)):=fun X hX=>zh (Lb hX (by omega) (Lb hB lF hF)) 3 rfl
 have i0:=zh (Lb hB lI hIw) 0 rfl;obtain⟨g0,g1,_⟩:=Ka d0;have HW1:=zH hw1;have HB:=zH hB;obtain⟨n,hn⟩:=Ki L.length;have HN:=zH hn;rw[hn] at HC hLl;clear hw1 d0 hB hW hF hIw hE hL hoo hop hc hcl he hs1 hn;go_enter Tryz.func143,Tryz.ntmps143;go_upto_region 1 with fail
 rw[HW1.out];go_wp2_with fail;refine HC.out.mono ?_;rintro r w5 ⟨A',c',rfl,hI5,hb5⟩;have hb5:Below w1.heap.size w1 w5:=hb5;have HB5:=zH (Lc HB.out hb5);have p3:=HKP.out w5 hb5;have HI5:=zH hI5;have lF5:bF<w5.heap.size:=by have:=HB5.out.size;omega
 clear hI5 HC hb5 i0 g0 g1;go_wp2_with fail
 go_loop [11] (fun i=>∃m:Nat,m<=n/\i=.int .i64 (m:Int)/\Hid (∀j (h:j<L.length),j<m->¬L[j]=vv)) (fun i=>n-(intOf i).toNat)
 case atStart=>exact⟨0,by omega,rfl,fun j _ h=>absurd h (by omega)⟩
 case round=>
  obtain⟨m,hm,rfl,hno⟩:=hrel
  by_cases hlt:m<n
  . have hml:m<L.length:=by have:=HN.out;omega
    obtain⟨b,off,rfl,hbl,z0⟩:=HI5.out.at_ m hml;obtain⟨x,hx⟩:=Ki (L[m]);have HX:=zH hx;rw[hx] at z0;have hk0:(0:Int)<=(m:Int):=by omega
    have hk1:(m:Int)<(n:Int):=by omega
    clear hx
    by_cases hxv:x=vv
    . subst hxv
      have hin:Hid (decide (x∈L)=true):=Lk (by rw[<-HX.out];exact Ld hml);clear hno HX;go_wp2_with fail;go_ret;exact⟨zt hin.out.symm,HB5.out⟩
    · have hno2 : Hid (∀ j (h : j < L.length), j < m + 1 → ¬ L[j] = vv) := fun j h h2 => by
       by_cases e:j=m
       . subst e;rw[HX.out];exact hxv
       . exact hno.out j h (by omega)
      clear HX hno;go_wp2_with fail
      go_round
      case rel=>exact⟨m+1,by omega,by go_num,hno2⟩
      case measure=>simp[intOf];omega
  . obtain rfl:n=m:=by omega
    have hni:Hid (decide (vv∈L)=false):=Li fun h=>by
     obtain⟨j,hj,e⟩:=LQ h;exact hno.out j hj (by have:=HN.out;omega) e
    clear hno;go_wp2_with fail;go_ret;exact⟨zt hni.out.symm,HB5.out⟩
theorem at3_any(s:Sy)(h:Fh)(e k:Nat)(he:e<s.xs.length)(K N q o' S u:Nat)(hFi:Fine s K N)(hk:k<=K)(hq:q<N)(hhp:h.p=(q:Int))(ho:h.o=(o':Int))(ho5:o'<5)(hu:xw s.xs[e] k q=(u:Int))(hul:u<s.vs.length)(hS:(kB s.vs s.vs.length).getD u 0=(S:Int))(hS32:S<32)(hop:h.op=3)(A SV AV AX AF AR:Bb)(kc ks kv kx lf cf:Nat)(out:List Int)(cr bS bF bR bH bV bI gH:Nat)(w:Ba)
  (hW:AtW s A SV AV AX kc ks kv kx h AF lf cf out AR cr bS bF bR bH bV bI gH w) :
  Calls Tryz.prog 144 #[.agg #[.int .i64 (e:Int),.int .i64 (k:Int)],.pointer (some ⟨bH,0,none⟩),.pointer (some ⟨bV,0,none⟩),.pointer (some ⟨bF,0,none⟩)] w fun r w'=>r=.returned (.bool (qo s out h (e,k)))/\Below w.heap.size w w':=by
 obtain⟨w1,hw1,d0,hs1,hB⟩:=zm w #[.int .i64 (e:Int),.int .i64 (k:Int)] 118
 have hE:qo s out h (e,k)=S.testBit o':=by
  unfold qo;rw[Lf (by rw[hop];decide),Lf (by rw[hop];decide),Lf (by rw[hop];decide),Lh hop];dsimp only;rw[zn he,hhp,Lo,hu,Lo,hS,Lo,ho,Lo]
 rw[hE];have hC:=atv_any s K N hFi h e k q he hk hq hhp A SV AV AX AF AR kc ks kv kx lf cf out cr bS bF bR bH bV bI gH w1.drew (hW.keep hB.drew);rw[hu] at hC;have HC:=zH hC;have hF:=hW.hF;unfold fcs at hF;rw[ho] at hF;have hHw:=hW.hH;have hVw:=hW.hV;have hGw:=hW.hG;have z0:=hGw.cell u (by rw[jM];exact hul);have e0:(kB s.vs s.vs.length)[u]'(by rw[jM];exact hul)=(S:Int):=by rw[<-hS,zn (by rw[jM];exact hul)]
 rw[e0] at z0;obtain⟨n,hn⟩:=Ki s.vs.length;rw[hn] at hHw hul;have lF:=zj hF;have lH:=zj hHw;have lV:=zj hVw;have lG:=hGw.lt
 have HKP:Hid (∀X,Below w1.heap.size w1 X->X.heap[bF]?=some (.cells #[.int .i64 h.op,.int .i64 h.p,.int .i64 (o':Int),.int .i64 h.v,.int .i64 h.g,.slice AF lf cf] 60 (0,0))/\X.heap[bH]?=some (.cells #[.slice (some ⟨gH,0,none⟩) n n] 50 (0,0))/\X.heap[bV]?=some (.cells #[.func (.func 139) #[] #[.pointer (some ⟨bS,0,none⟩),.pointer (some ⟨bF,0,none⟩)]] 121 (0,0))/\X.heap[w.heap.size]?=some (.cells #[.int .i64 (e:Int),.int .i64 (k:Int)] 118 (0,0))):=
  fun X hX=>⟨Lb hX (by omega) (Lb hB lF hF),Lb hX (by omega) (Lb hB lH hHw),Lb hX (by omega) (Lb hB lV hVw),Lb hX (by omega) d0⟩
 have HZ0:Hid (∀X,Below w1.heap.size w1 X->X.cell? ⟨gH,u,none⟩=some (.int .i64 (S:Int))):=fun X hX=>(hX.cell (p:=⟨gH,u,none⟩) (by show gH<w1.heap.size;omega)).trans ((hB.cell (p:=⟨gH,u,none⟩) lG).trans z0)
 have HW1:=zH hw1;have HB:=zH hB;have hb1:=Zg hS32 ho5;have h5:(0:Int)<=(u:Int):=by omega
 have h6:(u:Int)<(n:Int):=by omega
 have hoi0:(0:Int)<=(o':Int):=by omega
 have hG00:(0:Int)<=(S:Int):=by omega
 have hmn:min o' 64=o':=by omega
 obtain⟨bt,hbt⟩:=Ki (S.testBit o');rw[hbt] at hb1 ⊢;clear hw1 d0 hB hW hF hHw hVw hGw hE hop hhp ho he hs1 hu hS z0 e0 hFi hC hk hq hbt hn;go_enter Tryz.func144,Tryz.ntmps144;go_wp2_with fail;rw[HW1.out];refine zx [(0,true),(1,true),(2,true),(6,true),(7,true),(3,false),(4,false),(5,false),(8,false),(9,false),(10,false),(11,false)] (fun X=>X.heap[bF]?=some (.cells #[.int .i64 h.op,.int .i64 h.p,.int .i64 (o':Int),.int .i64 h.v,.int .i64 h.g,.slice AF lf cf] 60 (0,0))/\X.heap[bH]?=some (.cells #[.slice (some ⟨gH,0,none⟩) n n] 50 (0,0))/\X.heap[bV]?=some (.cells #[.func (.func 139) #[] #[.pointer (some ⟨bS,0,none⟩),.pointer (some ⟨bF,0,none⟩)]] 121 (0,0))/\X.heap[w.heap.size]?=some (.cells #[.int .i64 (e:Int),.int .i64 (k:Int)] 118 (0,0))) (by kernel_rfl) (by kernel_rfl) (HKP.out _ (Lm _ _).drew) ?_
 repeat
  apply zy rfl
  . rintro K' hK' X ⟨u1,u2,u3,u4⟩
    have q2:=zh u1 2 rfl;have j0:=zh u2 0 rfl;have i0:=zh u3 0 rfl;obtain⟨g0,g1,_⟩:=Ka u4;clear u1 u2 u3 u4;go_simp;exact hK'
 refine zA rfl ?_;intro K' hK';go_simp;refine HC.out.mono ?_;rintro r w5 ⟨rfl,hb5⟩;have hb5:Below w1.heap.size w1 w5:=(Lm _ w1).drew.trans (hb5.mono (Le _));have HB5:=zH (Lc HB.out hb5);have HK5:=zH (HKP.out w5 hb5);have z4:=HZ0.out w5 hb5;clear HC hb5 HZ0;refine hK' _ _ HK5.out ?_;clear hK' K';refine zA rfl ?_;intro K' hK';go_simp;refine hK' _ _ HK5.out ?_;clear hK' K';refine zA rfl ?_;intro K' hK';go_simp;refine hK' _ _ HK5.out ?_;clear hK' K';refine zA rfl ?_;intro K' hK';go_simp;refine hK' _ _ HK5.out ?_;clear hK' K';refine zA rfl ?_;intro K' hK';go_simp;refine hK' _ _ HK5.out ?_;clear hK' K';refine zA rfl ?_;intro K' hK';go_simp;refine hK' _ _ HK5.out ?_;clear hK' K';refine zA rfl ?_;intro K' hK';go_simp;refine hK' _ _ HK5.out ?_;clear hK' K';refine zL ?_;clear HKP HK5 z4;go_wp2_with fail;go_ret;exact⟨rfl,HB5.out⟩
theorem at4_any(s:Sy)(h:Fh)(e k:Nat)(he:e<s.xs.length)(K N q:Nat)(hFi:Fine s K N)(hk:k<=K)(hq5:q<5)(hhp:h.p=(q:Int))(hfl:∀r∈s.xs[e].word,∃F:Nat,r.f=(F:Int)/\F<32)(hop:h.op=4)(A SV AV AX AF AR:Bb)(kc ks kv kx lf cf:Nat)(out:List Int)(cr bS bF bR bH bV bI gH:Nat)(w:Ba)
  (hW:AtW s A SV AV AX kc ks kv kx h AF lf cf out AR cr bS bF bR bH bV bI gH w) :
  Calls Tryz.prog 145 #[.agg #[.int .i64 (e:Int),.int .i64 (k:Int)],.pointer (some ⟨bS,0,none⟩),.pointer (some ⟨bF,0,none⟩)] w fun r w'=>r=.returned (.bool (qo s out h (e,k)))/\Below w.heap.size w w':=by
 obtain⟨w1,hw1,d0,hs1,hB⟩:=zm w #[.int .i64 (e:Int),.int .i64 (k:Int)] 118
 have hE:qo s out h (e,k)=(decide (0<k)&&((s.xs[e].word.getD (k-1) default).f).toNat.testBit q):=by
  unfold qo;rw[Lf (by rw[hop];decide),Lf (by rw[hop];decide),Lf (by rw[hop];decide),Lf (by rw[hop];decide),Lh hop];dsimp only;rw[zn he,hhp,Lo]
 rw[hE];have hF:=hW.hF;unfold fcs at hF;rw[hhp] at hF;have hSw:=hW.hS;have lF:=zj hF;have lS:=zj hSw;have hF1:=Lb hB lF hF;have hS1:=Lb hB lS hSw;obtain⟨g0,g1,_⟩:=Ka d0;have q1:=zh hF1 1 rfl;obtain⟨bx,ox,A1,c1,A2,c2,eX,hbx,x0,x1,x2,hRw,hLw⟩:=(hW.xs.keep hB).row e he;subst eX;have p9:w1.cell? ⟨bS,9,none⟩=some (.slice (some ⟨bx,ox,none⟩) s.xs.length kx):=zh hS1 9 rfl;have h1:(0:Int)<=(e:Int):=by omega
 have h2:(e:Int)<(s.xs.length:Int):=by omega
 obtain⟨x,hx⟩:∃x,x=s.xs[e]:=⟨_,rfl⟩;have hwl:=(hFi.word _ (Ld he)).1;rw[<-hx] at hfl hwl x1 hRw ⊢;have HW1:=zH hw1;have HB:=zH hB;have hs1':=hs1;clear hw1 d0 hB hW hF hF1 hSw hS1 hE hop hhp x0 x2 hx hLw
 by_cases hkz:0<k
 case neg=>
  have hE2:(decide (0<k)&&((x.word.getD (k-1) default).f).toNat.testBit q)=false:=by rw[Li hkz];rfl
  rw[hE2];have hk1:decide ((k:Int)>0)=false:=Li (by omega);obtain⟨ki,hki⟩:∃ki:Int,(k:Int)=ki:=⟨_,rfl⟩;rw[hki] at hk1 HW1 g1 ⊢;clear hfl hRw x1 hE2 hkz hki;go_enter Tryz.func145,Tryz.ntmps145;go_wp2_with fail;rw[HW1.out];refine zx [(0,true),(1,true),(2,true),(3,true),(4,true),(5,true),(6,true),(7,true),(8,true),(9,true),(10,true),(11,true),(12,true),(13,true),(14,true),(15,true),(16,true),(17,true),(18,true),(19,true),(20,true),(21,true),(22,true),(23,true)] (fun X=>X=w1.drew) (by kernel_rfl) (by kernel_rfl) rfl ?_
  repeat
   apply zy rfl
   . rintro K' hK' X rfl
     go_simp;exact hK'
  refine zL ?_;go_wp2_with fail;go_ret;exact⟨rfl,HB.out.drew⟩
 case pos=>
  obtain⟨k,rfl⟩:∃j,k=j+1:=⟨k-1,by omega⟩;obtain⟨bw,ow,eW,hbw,y0,y1,y2,y3,y4,y5,y6⟩:=hRw.row k (by omega);subst eW;have hgw:x.word.getD k default=x.word[k]'(by omega):=zn (by omega) default;obtain⟨F,hFf,hF32⟩:=hfl _ (Ld (by omega:k<x.word.length));rw[hFf] at y6
  have hE2:(decide (0<k+1)&&((x.word.getD (k+1-1) default).f).toNat.testBit q)=F.testBit q:=by
   rw[N8,hgw,hFf,Lo];simp
  rw[hE2];have hb1:=Zg hF32 hq5;obtain⟨bt,hbt⟩:=Ki (F.testBit q);rw[hbt] at hb1 ⊢;obtain⟨nw,hnw⟩:=Ki x.word.length;rw[hnw] at x1 hwl;have hk0:decide (((k+1:Nat):Int)>0)=true:=Lk (by omega);have hw0:IntKind.i64.wrap (((k+1:Nat):Int)-1)=(k:Int):=by have:=hFi.k6;rw[Ll];omega
  have h3:(0:Int)<=(k:Int):=by omega
  have h4:(k:Int)<(nw:Int):=by omega
  have hoi0:(0:Int)<=(q:Int):=by omega
  have hG00:(0:Int)<=(F:Int):=by omega
  have hmn:min q 64=q:=by omega
  obtain⟨k1,hk1⟩:∃k1:Int,((k+1:Nat):Int)=k1:=⟨_,rfl⟩;rw[hk1] at hk0 hw0 g1 HW1 ⊢;clear hfl hRw hgw hFf hE2 hbt hnw y0 y1 y2 y3 y4 y5 hFi hwl he hk1 hk;go_enter Tryz.func145,Tryz.ntmps145;go_wp2_with fail;rw[HW1.out];refine zx [(0,true),(1,true),(2,true),(3,true),(4,true),(5,true),(6,true),(7,true),(8,true),(9,true),(10,true),(11,true),(12,true),(13,true),(14,true),(15,true),(16,true),(17,true),(18,true),(19,true),(20,true),(21,true),(22,true),(23,true)] (fun X=>X=w1.drew) (by kernel_rfl) (by kernel_rfl) rfl ?_
  repeat
   apply zy rfl
   . rintro K' hK' X rfl
     go_simp;exact hK'
  refine zL ?_;go_wp2_with fail;go_ret;exact⟨rfl,HB.out.drew⟩
theorem at5_any(s:Sy)(h:Fh)(e k:Nat)(he:e<s.xs.length)(K N q u:Nat)(hFi:Fine s K N)(hk:k<=K)(hq:q<N)(hhp:h.p=(q:Int))(hu:xw s.xs[e] k q=(u:Int))(hul:u<s.vs.length)(hop:h.op=5)(A SV AV AX AF AR:Bb)(kc ks kv kx lf cf:Nat)(out:List Int)(cr bS bF bR bH bV bI gH:Nat)(w:Ba)
  (hW:AtW s A SV AV AX kc ks kv kx h AF lf cf out AR cr bS bF bR bH bV bI gH w) (hol:0<out.length->out.length=s.vs.length) :
  Calls Tryz.prog 146 #[.agg #[.int .i64 (e:Int),.int .i64 (k:Int)],.pointer (some ⟨bR,0,none⟩),.pointer (some ⟨bV,0,none⟩),.pointer (some ⟨bF,0,none⟩)] w fun r w'=>r=.returned (.bool (qo s out h (e,k)))/\Below w.heap.size w w':=by
 obtain⟨w1,hw1,d0,hs1,hB⟩:=zm w #[.int .i64 (e:Int),.int .i64 (k:Int)] 118
 have hE:qo s out h (e,k)=(decide (0<out.length)&&decide (out.getD u 0=h.v)):=by
  unfold qo;rw[Lf (by rw[hop];decide),Lf (by rw[hop];decide),Lf (by rw[hop];decide),Lf (by rw[hop];decide),Lf (by rw[hop];decide),Lh hop];dsimp only;rw[zn he,hhp,Lo,hu,Lo]
 rw[hE];have hC:=atv_any s K N hFi h e k q he hk hq hhp A SV AV AX AF AR kc ks kv kx lf cf out cr bS bF bR bH bV bI gH w1.drew (hW.keep hB.drew);rw[hu] at hC;have HC:=zH hC;have hF:=hW.hF;unfold fcs at hF;obtain⟨vv,hoo⟩:=Ki h.v;rw[hoo] at hF ⊢;have hRw:=hW.hR;have hVw:=hW.hV;have lF:=zj hF;have lR:=zj hRw;have lV:=zj hVw;have hro:=hW.ro;have HW1:=zH hw1
 by_cases h0:out.length=0
 . have hE0:(decide (0<out.length)&&decide (out.getD u 0=vv))=false:=by rw[h0];simp
   rw[hE0];have r0:=zh (Lb hB lR hRw) 0 rfl;rw[show(#[Value.slice AR out.length cr]:Array Value)[0]=.slice AR 0 cr by rw[h0];rfl] at r0;have HB:=zH hB;clear hw1 d0 hB hW hF hRw hVw hE hop hhp he hs1 hu hFi hC hk hq hoo hro HC hE0 hol h0;go_enter Tryz.func146,Tryz.ntmps146;go_wp2_with fail;rw[HW1.out];go_quiet (fail);go_wp2_with fail;go_ret;exact⟨rfl,zY HB.out _⟩
 have hol2:=hol (by omega);obtain⟨b0,o0,eR,hb0,z0⟩:=hro.at_ u (by omega);subst eR;obtain⟨y,hy⟩:=Ki (out[u]'(by omega));rw[hy] at z0;have hE1:(decide (0<out.length)&&decide (out.getD u 0=vv))=decide (y=vv):=by rw[Lk (by omega:0<out.length),Nf,zn (by omega:u<out.length),hy]
 rw[hE1];obtain⟨n,hn⟩:=Ki out.length;rw[hn] at hRw h0 hol2
 have HKP:Hid (∀X,Below w1.heap.size w1 X->X.heap[bF]?=some (.cells #[.int .i64 h.op,.int .i64 h.p,.int .i64 h.o,.int .i64 vv,.int .i64 h.g,.slice AF lf cf] 60 (0,0))/\X.heap[bR]?=some (.cells #[.slice (some ⟨b0,o0,none⟩) n cr] 57 (0,0))/\X.heap[bV]?=some (.cells #[.func (.func 139) #[] #[.pointer (some ⟨bS,0,none⟩),.pointer (some ⟨bF,0,none⟩)]] 121 (0,0))/\X.heap[w.heap.size]?=some (.cells #[.int .i64 (e:Int),.int .i64 (k:Int)] 118 (0,0))):=
  fun X hX=>⟨Lb hX (by omega) (Lb hB lF hF),Lb hX (by omega) (Lb hB lR hRw),Lb hX (by omega) (Lb hB lV hVw),Lb hX (by omega) d0⟩
 have HZ0:Hid (∀X,Below w1.heap.size w1 X->X.cell? ⟨b0,o0+u,none⟩=some (.int .i64 y)):=fun X hX=>(hX.cell (p:=⟨b0,o0+u,none⟩) (by show b0<w1.heap.size;omega)).trans ((hB.cell (p:=⟨b0,o0+u,none⟩) hb0).trans z0)
 have HB:=zH hB;have h5:(0:Int)<=(u:Int):=by omega
 have h6:(u:Int)<(n:Int):=by omega
 have hn0:((n:Int)>0)=True:=eq_true (by omega);have hn1:decide ((n:Int)>0)=true:=Lk (by omega);have hn2:(0:Int)<(n:Int):=by omega
 have hn3:0<n:=by omega
 clear hw1 d0 hB hW hF hRw hVw hE hop hhp he hs1 hu hFi hC hk hq hoo hro hE1 hol hol2 hy hn z0;go_enter Tryz.func146,Tryz.ntmps146;go_wp2_with fail;rw[HW1.out];refine zx [(0,true),(1,true),(2,true),(3,true),(4,true),(5,true),(6,true),(7,true),(8,true),(12,true),(13,true),(9,false),(10,false),(11,false),(14,false),(15,false),(16,false)] (fun X=>X.heap[bF]?=some (.cells #[.int .i64 h.op,.int .i64 h.p,.int .i64 h.o,.int .i64 vv,.int .i64 h.g,.slice AF lf cf] 60 (0,0))/\X.heap[bR]?=some (.cells #[.slice (some ⟨b0,o0,none⟩) n cr] 57 (0,0))/\X.heap[bV]?=some (.cells #[.func (.func 139) #[] #[.pointer (some ⟨bS,0,none⟩),.pointer (some ⟨bF,0,none⟩)]] 121 (0,0))/\X.heap[w.heap.size]?=some (.cells #[.int .i64 (e:Int),.int .i64 (k:Int)] 118 (0,0))) (by kernel_rfl) (by kernel_rfl) (HKP.out _ (Lm _ _).drew) ?_
 repeat
  apply zy rfl
  . rintro K' hK' X ⟨u1,u2,u3,u4⟩
    have q3:=zh u1 3 rfl;have j0:=zh u2 0 rfl;have i0:=zh u3 0 rfl;obtain⟨g0,g1,_⟩:=Ka u4;clear u1 u2 u3 u4;go_simp;exact hK'
 refine zA rfl ?_;intro K' hK';go_simp;refine HC.out.mono ?_;rintro r w5 ⟨rfl,hb5⟩;have hb5:Below w1.heap.size w1 w5:=(Lm _ w1).drew.trans (hb5.mono (Le _));have HB5:=zH (Lc HB.out hb5);have HK5:=zH (HKP.out w5 hb5);have z4:=HZ0.out w5 hb5;clear HC hb5 HZ0;refine hK' _ _ HK5.out ?_;clear hK' K';refine zA rfl ?_;intro K' hK';go_simp;refine hK' _ _ HK5.out ?_;clear hK' K';refine zA rfl ?_;intro K' hK';go_simp;refine hK' _ _ HK5.out ?_;clear hK' K';refine zA rfl ?_;intro K' hK';go_simp;refine hK' _ _ HK5.out ?_;clear hK' K';refine zA rfl ?_;intro K' hK';go_simp;refine hK' _ _ HK5.out ?_;clear hK' K';refine zA rfl ?_;intro K' hK';go_simp;refine hK' _ _ HK5.out ?_;clear hK' K';refine zL ?_;clear HKP HK5 z4;go_wp2_with fail;go_ret;exact⟨zt (by first | rfl | simp),HB5.out⟩
theorem at6_any(s:Sy)(h:Fh)(e k:Nat)(_he:e<s.xs.length)(hop:h.op=6)(A SV AV AX AF AR:Bb)(kc ks kv kx lf cf:Nat)(out:List Int)(cr bS bF bR bH bV bI gH:Nat)(w:Ba)
  (hW:AtW s A SV AV AX kc ks kv kx h AF lf cf out AR cr bS bF bR bH bV bI gH w) :
  Calls Tryz.prog 147 #[.agg #[.int .i64 (e:Int),.int .i64 (k:Int)],.pointer (some ⟨bF,0,none⟩)] w fun r w'=>r=.returned (.bool (qo s out h (e,k)))/\Below w.heap.size w w':=by
 obtain⟨w1,hw1,d0,hs1,hB⟩:=zm w #[.int .i64 (e:Int),.int .i64 (k:Int)] 118
 have hE:qo s out h (e,k)=decide ((k:Int)=h.v):=by
  unfold qo;rw[Lf (by rw[hop];decide),Lf (by rw[hop];decide),Lf (by rw[hop];decide),Lf (by rw[hop];decide),Lf (by rw[hop];decide),Lf (by rw[hop];decide)]
 rw[hE];have hF:=hW.hF;unfold fcs at hF;obtain⟨vv,hoo⟩:=Ki h.v;rw[hoo] at hF ⊢;have lF:=zj hF;have q3:=zh (Lb hB lF hF) 3 rfl;obtain⟨g0,g1,_⟩:=Ka d0;have HW1:=zH hw1;have HB:=zH hB;clear hw1 d0 hB hW hF hE hop hoo _he;go_enter Tryz.func147,Tryz.ntmps147;go_upto_region 1 with fail
 rw[HW1.out];go_wp2_with fail;go_ret;exact⟨zt (by first | rfl | simp),HB.out⟩
end
section
open Go.RowKit Go.Shelf
def atG(bS bF bR bH bV bI:Nat):Int->Option Value:=
 xq (xq (xq (xq (xq (xq (xq (fun _=>none) 0 (.func (.func 141) #[] #[])) 1 (.func (.func 142) #[] #[.pointer (some ⟨bI,0,none⟩),.pointer (some ⟨bF,0,none⟩)]))
  2 (.func (.func 143) #[] #[.pointer (some ⟨bI,0,none⟩),.pointer (some ⟨bF,0,none⟩)])) 3 (.func (.func 144) #[] #[.pointer (some ⟨bH,0,none⟩),.pointer (some ⟨bV,0,none⟩),.pointer (some ⟨bF,0,none⟩)]))
  4 (.func (.func 145) #[] #[.pointer (some ⟨bS,0,none⟩),.pointer (some ⟨bF,0,none⟩)])) 5 (.func (.func 146) #[] #[.pointer (some ⟨bR,0,none⟩),.pointer (some ⟨bV,0,none⟩),.pointer (some ⟨bF,0,none⟩)]))
  6 (.func (.func 147) #[] #[.pointer (some ⟨bF,0,none⟩)])
theorem fault_nat{r:Rd}{N:Nat}(h:yB r=0)(hn:r.n=(N:Int))(h5:N<=5):∃F:Nat,r.f=(F:Int)/\F<32:=by
 unfold yB at h
 split at h
 . rename_i hne;exact absurd h hne
 . unfold xE at h
   split at h
   . cases h
   . split at h
     . cases h
     . rename_i h2
       obtain⟨F,hF⟩:=Lr (show 0<=r.f by omega);refine⟨F,hF,?_⟩;have h4:((2^r.n.toNat:Nat):Int)=(2:Int)^r.n.toNat:=by push_cast;rfl
       have h3:r.f<((2^r.n.toNat:Nat):Int):=by first | omega | (rw[h4];omega)
       rw[hF,hn,Lo] at h3;have:=Nb (n:=2) (by omega) h5;omega
theorem atom_fn{s:Sy}{K N:Nat}(hF:Fine s K N)(hS:Sees s K N)(hl:LowV s.vs)(htk:∀c∈s.p.t.cases,c.inp.length=N){out:List Int}(hol:0<out.length->out.length=s.vs.length){h:Fh}(ok:AtmOk N h)
  (A SV AV AX AF AR:Bb) (kc ks kv kx lf cf cr bS bF bR bH bV bI gH:Nat) :
  ∃kf kb,atG bS bF bR bH bV bI h.op=some (.func (.func kf) #[] kb)/\Enters Tryz.prog kf/\∀x∈zu (K+1) 0 s.xs.length,∀W,AtW s A SV AV AX kc ks kv kx h AF lf cf out AR cr bS bF bR bH bV bI gH W ->
   Calls Tryz.prog kf (#[.agg #[.int .i64 x.1,.int .i64 x.2]]++kb) W fun r w'=>r=.returned (.bool (qo s out h x))/\Below W.heap.size W w':=by
 have h0:=ok.op0;have h6:=ok.op6;have hn5:=hF.n5
 have hx:∀x∈zu (K+1) 0 s.xs.length,∃he:x.1<s.xs.length,x.2<=K/\∃c:Nat,s.xs[x.1].c=(c:Int)/\c<s.p.t.cases.length/\(yJ s.p c).length=N:=fun x hx=>by
  obtain⟨_,h1,h2⟩:=xu _ _ x hx;have he:x.1<s.xs.length:=by omega
  obtain⟨c,hc,hcl,_⟩:=hS.cs _ (Ld he);refine⟨he,by omega,c,hc,hcl,?_⟩;unfold yJ;rw[Lj,Lq hcl];exact htk _ (Ld hcl)
 rcases(by omega:h.op=0\/h.op=1\/h.op=2\/h.op=3\/h.op=4\/h.op=5\/h.op=6) with e | e | e | e | e | e | e
 . refine⟨_,_,by rw[e];exact rfl,N5 Tryz.func141 (by kernel_rfl) rfl,fun x hxm W hW=>?_⟩
   obtain⟨he,hk,c,hc,hcl,hil⟩:=hx x hxm;exact at0_any s h x.1 x.2 he e A SV AV AX AF AR kc ks kv kx lf cf out cr bS bF bR bH bV bI gH W hW
 . refine⟨_,_,by rw[e];exact rfl,N5 Tryz.func142 (by kernel_rfl) rfl,fun x hxm W hW=>?_⟩
   obtain⟨he,hk,c,hc,hcl,hil⟩:=hx x hxm;obtain⟨hp0,hpN⟩:=ok.p (.inl e);obtain⟨q,hq⟩:=Lr hp0;exact at1_any s h x.1 x.2 he c q hc hcl (by omega) hq e A SV AV AX AF AR kc ks kv kx lf cf out cr bS bF bR bH bV bI gH W hW
 . refine⟨_,_,by rw[e];exact rfl,N5 Tryz.func143 (by kernel_rfl) rfl,fun x hxm W hW=>?_⟩
   obtain⟨he,hk,c,hc,hcl,hil⟩:=hx x hxm;exact at2_any s h x.1 x.2 he c hc hcl (by omega) e A SV AV AX AF AR kc ks kv kx lf cf out cr bS bF bR bH bV bI gH W hW
 . refine⟨_,_,by rw[e];exact rfl,N5 Tryz.func144 (by kernel_rfl) rfl,fun x hxm W hW=>?_⟩
   obtain⟨he,hk,c,hc,hcl,hil⟩:=hx x hxm;obtain⟨hp0,hpN⟩:=ok.p (.inr (.inl e));obtain⟨q,hq⟩:=Lr hp0;obtain⟨ho0,hoN⟩:=ok.o e;obtain⟨o,ho⟩:=Lr ho0;have hxm2:=Ld he;obtain⟨S,e1,e2,_⟩:=hrd_view hF hS hl hxm2 x.2 hk q (by omega);obtain⟨v,hv,_⟩:=hS.pr hxm2 hk (show q<N by omega);have hlt:=hv.lt;obtain⟨u,hu⟩:=Lr hlt.1;rw[hu,Lo] at e1;exact at3_any s h x.1 x.2 he K N q o S u hF hk (by omega) hq ho (by omega) hu (by omega) e1 e2 e A SV AV AX AF AR kc ks kv kx lf cf out cr bS bF bR bH bV bI gH W hW
 . refine⟨_,_,by rw[e];exact rfl,N5 Tryz.func145 (by kernel_rfl) rfl,fun x hxm W hW=>?_⟩
   obtain⟨he,hk,c,hc,hcl,hil⟩:=hx x hxm;obtain⟨hp0,hpN⟩:=ok.p (.inr (.inr (.inl e)));obtain⟨q,hq⟩:=Lr hp0
   exact at4_any s h x.1 x.2 he K N q hF hk (by omega) hq (fun r hr=>by
    obtain⟨hr1,hr2⟩:=(hF.word _ (Ld he)).2 r hr
    exact fault_nat hr1 hr2 hn5) e A SV AV AX AF AR kc ks kv kx lf cf out cr bS bF bR bH bV bI gH W hW
 . refine⟨_,_,by rw[e];exact rfl,N5 Tryz.func146 (by kernel_rfl) rfl,fun x hxm W hW=>?_⟩
   obtain⟨he,hk,c,hc,hcl,hil⟩:=hx x hxm;obtain⟨hp0,hpN⟩:=ok.p (.inr (.inr (.inr e)));obtain⟨q,hq⟩:=Lr hp0;have hxm2:=Ld he;obtain⟨v,hv,_⟩:=hS.pr hxm2 hk (show q<N by omega);have hlt:=hv.lt;obtain⟨u,hu⟩:=Lr hlt.1;exact at5_any s h x.1 x.2 he K N q u hF hk (by omega) hq hu (by omega) e A SV AV AX AF AR kc ks kv kx lf cf out cr bS bF bR bH bV bI gH W hW hol
 . refine⟨_,_,by rw[e];exact rfl,N5 Tryz.func147 (by kernel_rfl) rfl,fun x hxm W hW=>?_⟩
   obtain⟨he,hk,c,hc,hcl,hil⟩:=hx x hxm;exact at6_any s h x.1 x.2 he e A SV AV AX AF AR kc ks kv kx lf cf out cr bS bF bR bH bV bI gH W hW
end
section
open Go.RowKit Go.Shelf
theorem Zx{K:Kd}{w:Ba}{base:Nat}{v:Value}{n:Nat}{cs:List Value}(h:OwnR K w base v n cs):∀r,v.ownBlock=some r->∀o,w.heap[r]?=some o->o.isCells=true:=by
 intro r hr o ho;rcases h.2 with ⟨rfl,_⟩ | ⟨g,cap,cur,rfl,_,hg,_⟩
 . cases hr
 . have e:g=r:=by injection hr
   subst e;rw[hg] at ho
   cases ho
   rfl
structure AtIn(b:Nat)(bs:List Bool)(w0 W:Ba):Prop where
 wrote:Wrote (fun z=>z=b) w0 W
 box:∃P c,W.heap[b]?=some (.cells #[.slice P bs.length c] 36 (0,0))/\OwnR kBl W w0.heap.size (.slice P bs.length c) bs.length (bs.map .bool)
section
variable {b:Nat} {bs:List Bool} {w0 W W':Ba}
theorem AtIn.turn{row:Option Nat}(h:AtIn b bs w0 W)(hb:b<w0.heap.size)(hg:W.grownBy W' row)(hr:∀r,row=some r->w0.heap.size<=r/\∃o:Obj,W.heap[r]?=some o/\o.isCells=false):AtIn b bs w0 W':=by
 obtain⟨P,c,hx,ho⟩:=h.box;have hsz:=h.wrote.size;refine⟨h.wrote.trans (Wrote.of_grown (R:=fun k=>w0.heap.size<=k) hg (fun k e hk=>(hr k e).1)) (fun k h1 h2=>by omega),P,c,(hg.block b (by omega) (fun e=>by have:=(hr b e.symm).1;omega)).trans hx,ho.kept hg ?_⟩;rcases e:(Value.slice P bs.length c).ownBlock with _ | g
 . exact .inl rfl
 . refine .inr fun e2=>?_
   obtain⟨o,h1,h2⟩:=(hr g e2.symm).2;have:=Zx ho g e o h1;rw[this] at h2;cases h2
theorem AtIn.call(h:AtIn b bs w0 W)(hb:b<w0.heap.size)(hw:Below W.heap.size W W'):AtIn b bs w0 W':=by
 obtain⟨P,c,hx,ho⟩:=h.box;have hsz:=h.wrote.size;exact⟨h.wrote.trans (Wrote.of_below hw) (fun _ _ h=>h),P,c,(hw.block b (by omega)).trans hx,ho.below hw (Le _)⟩
theorem AtIn.push{P P2:Bb}{c c2:Nat}{v:Bool}{W1:Ba}(h:AtIn b bs w0 W)(hb:b<w0.heap.size)(hx:W.heap[b]?=some (.cells #[.slice P bs.length c] 36 (0,0)))(ho:OwnR kBl W w0.heap.size (.slice P bs.length c) bs.length (bs.map .bool))
  (ho1:OwnR kBl W1 w0.heap.size (.slice P2 (bs.length+1) c2) (bs.length+1) (bs.map .bool++[.bool v])) (hg:W.grownBy W1 (Value.slice P bs.length c).ownBlock) :
  AtIn b (bs++[v]) w0 (W1.setCell ⟨b,0,none⟩ (.slice P2 (bs.length+1) c2)):=by
 have hsz:=h.wrote.size;have hlo:=ho.lt;have hb1:=(hg.block b (by omega) (fun e=>by have:=(hlo b e.symm).1;omega)).trans hx;obtain⟨x1,x2,x3⟩:=kF hb1 (.slice P2 (bs.length+1) c2);have a1:Wrote (fun k=>w0.heap.size<=k) W W1:=Wrote.of_grown hg (fun k e hk=>(hlo k e).1);have a2:Wrote (fun k=>k=b) W1 (W1.setCell ⟨b,0,none⟩ (.slice P2 (bs.length+1) c2)):=Wrote.of_grown (zU W1 _ 0 _) (fun k e hk=>by cases e;rfl);refine⟨(h.wrote.trans a1 (fun k h1 h2=>by omega)).trans a2 (fun _ _ h=>h),P2,c2,by rw[Lw];exact x1,?_⟩;rw[Lw,LP];refine OwnR.kept (row:=some b) ho1 (zU W1 b 0 _) ?_;rcases e:(Value.slice P2 (bs.length+1) c2).ownBlock with _ | g
 . exact .inl rfl
 · exact .inr fun e2 => by
    have:=(ho1.lt g e).1
    cases e2
    omega
theorem AtIn.keeps{P:Bb}{c bi:Nat}{W1:Ba}(h:AtIn b bs w0 W)(hb:b<w0.heap.size)(hi:bi<w0.heap.size)(hne:bi≠b)(hx:W.heap[b]?=some (.cells #[.slice P bs.length c] 36 (0,0)))(ho:OwnR kBl W w0.heap.size (.slice P bs.length c) bs.length (bs.map .bool))
  (hg:W.grownBy W1 (Value.slice P bs.length c).ownBlock) (v:Value):KeepsFrom w0.heap.size W (W1.setCell ⟨b,0,none⟩ v)/\KeepB (fun k=>k=bi) W (W1.setCell ⟨b,0,none⟩ v):=by
 have hlo:=ho.lt;have hsz:=h.wrote.size;have hs1:=hg.size;have hb1:=(hg.block b (by omega) (fun e=>by have:=(hlo _ e.symm).1;omega)).trans hx;obtain⟨x1,x2,x3⟩:=kF hb1 v;refine⟨⟨by simp[World.setCell];omega,fun k o hk hk1 ho1=>?_⟩,⟨by simp[World.setCell];omega,fun k hk hl=>?_⟩⟩
 . refine(x3 k (by omega)).trans ((hg.block k (zj hk1) (fun e=>?_)).trans hk1)
   have:=Zx ho k e.symm o hk1;rw[this] at ho1;cases ho1
 . subst hk
   exact(x3 _ (by omega)).trans (hg.block _ (by omega) (fun e=>by have:=(hlo _ e.symm).1;omega))
end
end
section
open Go.RowKit Go.Shelf
attribute [local go_sem] Oper.semAt_some
theorem blk_lt'{w:Ba}{b:Nat}{o:Obj}(h:w.heap[b]?=some o):b<w.heap.size:=(Lp.1 h).1
def RetBN(xs:List Bool)(n:Int)(w:Ba)(e:Ending)(w':Ba):Prop:=∃A c,e=.returned (.tuple #[.slice A xs.length c,.int .i64 n])/\OwnR kBl w' w.heap.size (.slice A xs.length c) xs.length (xs.map .bool)/\Below w.heap.size w w'
theorem atomN_any(s:Sy)(hs:LowS s)(hf:yM s.p)(out:List Int)(d:Nat)(f:Fm)(hsz:(qg d f).1<=1000000)(A SV AV AX AF AR:Bb)(kc ks kv kx cf cr:Nat)(w:Ba)(hS:SyAt w w.heap.size A SV AV AX s)(hO:IAt w w.heap.size AR out)(hA:FsAt w w.heap.size d AF f.args) :
  Calls Tryz.prog 98 #[.agg (s.vs_ A kc SV ks AV kv AX kx),.agg #[.slice AR out.length cr],.agg (f.vs AF cf)] w (RetBN (atmE s out d f).1 (atmE s out d f).2 w):=by
 obtain⟨wa,hwa,da,hsa,hBa⟩:=zm w (s.vs_ A kc SV ks AV kv AX kx) 35;obtain⟨wb,hwb,db,hsb,hBb⟩:=zm wa #[.slice AR out.length cr] 57;obtain⟨w1,hw1,dc,hsc,hBc⟩:=zm wb (f.vs AF cf) 60;have hB:Below w.heap.size w w1:=(hBa.trans (hBb.mono (by omega))).trans (hBc.mono (by omega));have da:w1.heap[w.heap.size]?=some (.cells (s.vs_ A kc SV ks AV kv AX kx) 35 (0,0)):=Lb hBc (by omega) (Lb hBb (by omega) da);have db:w1.heap[w.heap.size+1]?=some (.cells #[.slice AR out.length cr] 57 (0,0)):=by rw[<-hsa];exact Lb hBc (by omega) db
 have dc:w1.heap[w.heap.size+1+1]?=some (.cells (f.vs AF cf) 60 (0,0)):=by rw[<-hsa,<-hsb];exact dc
 have hz1:w1.heap.size=w.heap.size+3:=by omega
 have HV:=zH (wg s hs hf A SV AV AX kc ks kv kx w1 (hS.up hB));have HE:Hid (atmE s out d f=if zZ s≠0 then ([],zZ s) else if 0<out.length/\out.length≠s.vs.length then ([],15) else if je s.n d f≠0 then ([],je s.n d f) else if 0<f.args.length then ([],11) else (gj s out f.h,0)):=rfl;have HVF:=zH (fun h=>yv hf h);have HOK:=zH (fun (N:Nat) (hn:s.n=(N:Int)) (h:je s.n d f=0) (ha:f.args.length=0)=>atm_ok hn h ha);have HFC:=zH (fun (X:Ba) (hX:Below w1.heap.size w1 X)=>Xe s.n d f AF cf X ((hA.keep (Lc hB hX)).more (Lc hB hX).size) hsz);have HSY:Hid (∀X,Below w1.heap.size w1 X->SyAt X X.heap.size A SV AV AX s):=fun X hX=>(hS.up hB).up hX
 have HOU:Hid (∀X,Below w1.heap.size w1 X->IAt X X.heap.size AR out):=fun X hX=>(hO.keep (Lc hB hX)).more (Lc hB hX).size
 have HFW:Hid (∀c,zZ s=0->c∈s.p.t.cases->(c.inp.length:Int)=s.p.t.n):=fun c h hc=>by
  obtain⟨hb0,_⟩:=yv hf h
  have hp0:yc s.p=0:=by
   by_cases h0:yc s.p=0
   . exact h0
   . unfold zZ at h
     rw[xA h0] at h;simp[h0] at h
  exact Yp (yh hp0).1 c hc
 have HLV:=zH (fun (h:zZ s=0)=>(by
  have h1:=(yv hf h).1
  rw[h1];exact built_asc _:LowV s.vs))
 have HSE:=zH (fun (K N:Nat) (hF:Fine s K N) (h:zZ s=0)=>(by
  have h1:=(yv hf h).1;have h2:=hF;rw[h1] at h2 ⊢
  exact uW h2:Sees s K N))
 have HKL:=zH (fun (K:Nat) (h:s.p.k=(K:Int))=>(by unfold gj;rw[h];rfl:gj s out f.h=(zu (K+1) 0 s.xs.length).map (qo s out f.h)));obtain⟨E,hE⟩:=Ki (atmE s out d f);rw[hE] at HE ⊢;obtain⟨r,hr⟩:=Ki (zZ s);rw[hr] at HV HE HVF HLV HSE HFW;unfold Sy.vs_ at hwa da HV ⊢;unfold Fm.vs at hw1 dc HFC ⊢;have HW1:Hid (((w.alloc (.cells #[.int .i64 s.p.t.n,.int .i64 s.p.t.ins,.int .i64 s.p.t.outs,.slice A s.p.t.cases.length kc,.int .i64 s.p.a.n,.slice SV s.p.a.sts.length ks,.int .i64 s.p.k,.int .i64 s.n,.slice AV s.vs.length kv,.slice AX s.xs.length kx] 35)).alloc (.cells #[.slice AR out.length cr] 57)).alloc (.cells #[.int .i64 f.h.op,.int .i64 f.h.p,.int .i64 f.h.o,.int .i64 f.h.v,.int .i64 f.h.g,.slice AF f.args.length cf] 60)=w1):=by rw[Hid,hwa,hwb,hw1]
 have HB:=zH hB
 have HBX:Hid (∀X,Below w1.heap.size w1 X->X.heap[w.heap.size]?=some (.cells #[.int .i64 s.p.t.n,.int .i64 s.p.t.ins,.int .i64 s.p.t.outs,.slice A s.p.t.cases.length kc,.int .i64 s.p.a.n,.slice SV s.p.a.sts.length ks,.int .i64 s.p.k,.int .i64 s.n,.slice AV s.vs.length kv,.slice AX s.xs.length kx] 35 (0,0))/\X.heap[w.heap.size+1]?=some (.cells #[.slice AR out.length cr] 57 (0,0))/\X.heap[w.heap.size+1+1]?=some (.cells #[.int .i64 f.h.op,.int .i64 f.h.p,.int .i64 f.h.o,.int .i64 f.h.v,.int .i64 f.h.g,.slice AF f.args.length cf] 60 (0,0))):=
  fun X hX=>⟨Lb hX (by omega) da,Lb hX (by omega) db,Lb hX (by omega) dc⟩
 have HZ1:=zH hz1;have G1:Hid (Below w1.heap.size w1 w1):=Lm _ _;clear hwa hwb hw1 da db dc hsa hsb hsc hBa hBb hBc hB hz1 hS hO hA hsz hE hs;obtain⟨D0,D1,D2⟩:=HBX.out _ G1.out;obtain⟨p0,p1,p2,p3,p4,p5,p6,p7,p8,p9⟩:=zw (D0);clear D0 D1 D2;refine yQ Tryz.func98 rfl ?_;simp only[Tryz.ntmps98,List.size_toArray,List.length_cons,List.length_nil,Nat.reduceAdd,Nat.reduceSub,Array.replicate_succ,Array.replicate_zero,List.push_toArray,List.append_toArray,List.nil_append,List.cons_append];go_wp2_with fail;rw[HW1.out];go_wp2_with fail;refine HV.out.mono ?_;rintro e w2 ⟨rfl,hb2⟩;have G2:=zH (Lc G1.out hb2);clear hb2 HV HW1 p0 p1 p2 p3 p4 p5 p6 p7 p8 p9
 by_cases h0:r=0
 case neg=>
  have hR:Hid (E=([],r)):=HE.out.trans (Lh h0);have e0:(r != 0)=true:=by simpa using h0
  have HBF:=zH (Lc HB.out G2.out);clear HE HVF HOK HFC HSY HOU HFW HLV HSE HKL HBX;go_wp2_with fail;refine xn (Marks.nil w.heap.size _) (v:=.tuple #[.slice none 0 0,.int .i64 r]) (fun W=>by kernel_rfl) ?_;intro X hX;rw[hR.out];exact⟨none,0,rfl,OwnR.nil _ _ _,HBF.out.trans hX.below⟩
 subst h0;have HE2:=zH (HE.out.trans (Lf (by simp)));obtain⟨hsb,K,N,hF⟩:=HVF.out rfl;clear hsb;have HSe:=zH (HSE.out K N hF rfl);have HLV2:=zH (HLV.out rfl);have HTK:Hid (∀c∈s.p.t.cases,c.inp.length=N):=fun c hc=>by have h1:=HFW.out c rfl hc;have:=hF.pn;omega
 have HFi:=zH hF;have HOK2:=zH (HOK.out N hF.n);have HKL2:=zH (HKL.out K hF.k);have hlv:=hF.lv;clear HE HVF HLV HSE HFW HOK HKL hF hr;obtain⟨D0,D1,D2⟩:=HBX.out _ G2.out;have p8:=zh D0 8 rfl;have r0:=zh D1 0 rfl;clear D0 D1 D2;go_upto_region 4 with fail
 by_cases hbad:0<out.length/\out.length≠s.vs.length
 case pos=>
  have hR:Hid (E=([],15)):=HE2.out.trans (Lh hbad);have e0:((out.length:Int) != 0)=true:=by simp;intro h;rw[h] at hbad;simp at hbad
  have e1:((out.length:Int) != (s.vs.length:Int))=true:=by simp;omega
  have e2:¬out=[]:=by rintro rfl;simp at hbad
  have e3:¬(out.length:Int)=0:=by omega
  have e4:¬(out.length:Int)=(s.vs.length:Int):=by omega
  have e5:¬out.length=s.vs.length:=by omega
  have HBF:=zH (Lc HB.out G2.out);clear HE2 HFC HSY HOU HTK HFi HOK2 HKL2 HSe HLV2 HBX hbad;go_wp2_with fail;refine xn (Marks.nil w.heap.size _) (v:=.tuple #[.slice none 0 0,.int .i64 15]) (fun W=>by kernel_rfl) ?_;intro X hX;rw[hR.out];exact⟨none,0,rfl,OwnR.nil _ _ _,HBF.out.trans hX.below⟩
 have HE3:=zH (HE2.out.trans (Lf hbad));have HOL:Hid (0<out.length->out.length=s.vs.length):=fun h=>Decidable.byContradiction fun e=>hbad ⟨h,e⟩
 clear HE2
 go_cut [1,34] from 16 (fun s1 s34 wx=>s1=.agg #[.slice AR out.length cr]/\s34=.bool false/\wx=w2)
 case first=>
  have hb2:out.length=0\/out.length=s.vs.length:=by omega
  by_cases h1:out.length=0
  . have e0:((out.length:Int) != 0)=false:=by simp[h1]
    clear hbad hb2 h1 HOL HFC HSY HOU HTK HFi HOK2 HKL2 HSe HLV2 HBX HE3 hlv;go_wp2_with fail
    go_meet
    exact⟨rfl,rfl,rfl⟩
  . have e0:((out.length:Int) != 0)=true:=by simp;intro h;rw[h] at h1;simp at h1
    have e1:((out.length:Int) != (s.vs.length:Int))=false:=by simp;omega
    clear hbad hb2 h1 HOL HFC HSY HOU HTK HFi HOK2 HKL2 HSe HLV2 HBX HE3 hlv;go_wp2_with fail
    go_meet
    exact⟨rfl,rfl,rfl⟩
 case rest=>
 obtain⟨rfl,rfl,rfl⟩:=hcut;clear p8 r0 hbad;have HC:=zH (HFC.out _ G2.out);obtain⟨q,hq⟩:=Ki (je s.n d f);rw[hq] at HC HE3 HOK2;obtain⟨D0,D1,D2⟩:=HBX.out _ G2.out;have p7:=zh D0 7 rfl;obtain⟨q0,q1,q2,q3,q4,q5,_⟩:=Kg (D2);clear D0 D1 D2 HFC hq;go_wp2_with fail;refine HC.out.mono ?_;rintro e w3 ⟨rfl,hb3⟩;have G3:=zH (Lc G2.out hb3);clear hb3 HC p7 q0 q1 q2 q3 q4 q5
 by_cases h0:q=0
 case neg=>
  have hR:Hid (E=([],q)):=HE3.out.trans (Lh h0);have e0:(q != 0)=true:=by simpa using h0
  have HBF:=zH (Lc HB.out G3.out);clear HE3 HSY HOU HTK HFi HOK2 HKL2 HSe HLV2 HBX HOL;go_wp2_with fail;refine xn (Marks.nil w.heap.size _) (v:=.tuple #[.slice none 0 0,.int .i64 q]) (fun W=>by kernel_rfl) ?_;intro X hX;rw[hR.out];exact⟨none,0,rfl,OwnR.nil _ _ _,HBF.out.trans hX.below⟩
 subst h0;have HE4:=zH (HE3.out.trans (Lf (by simp)));obtain⟨D0,D1,D2⟩:=HBX.out _ G3.out;have q5:=zh D2 5 rfl;clear D0 D1 D2 HE3
 by_cases hla:0<f.args.length
 case pos=>
  have hR:Hid (E=([],11)):=HE4.out.trans (Lh hla);have e0:((f.args.length:Int)>0)=True:=eq_true (by omega);have e1:(0:Int)<(f.args.length:Int):=by omega
  have HBF:=zH (Lc HB.out G3.out);clear HE4 HSY HOU HTK HFi HOK2 HKL2 HSe HLV2 HBX HOL;go_wp2_with fail;refine xn (Marks.nil w.heap.size _) (v:=.tuple #[.slice none 0 0,.int .i64 11]) (fun W=>by kernel_rfl) ?_;intro X hX;rw[hR.out];exact⟨none,0,rfl,OwnR.nil _ _ _,HBF.out.trans hX.below⟩
 have hR:Hid (E=(gj s out f.h,0)):=HE4.out.trans (Lf hla);have HAO:=zH (HOK2.out rfl (by omega));have e1:¬(0:Int)<(f.args.length:Int):=by omega
 have HPH:=zH (pheard_any s HFi.out.lv (fun v hv=>by
  obtain⟨⟨pq,h1,h2⟩,_⟩:=HFi.out.vs v hv;refine⟨⟨pq,h1,by have:=HFi.out.n5;omega⟩,fun j hj=>?_⟩;obtain⟨i,hi,rfl⟩:=LQ hv;have:=HLV2.out i hi j hj
  omega) A SV AV AX kc ks kv kx w3 (HSY.out _ G3.out).fv)
 unfold Sy.vs_ at HPH;obtain⟨D0,D1,D2⟩:=HBX.out _ G3.out;obtain⟨p0,p1,p2,p3,p4,p5,p6,p7,p8,p9⟩:=zw (D0);clear D0 D1 D2 HE4 HOK2;go_wp2_with fail;refine HPH.out.mono ?_;rintro e w4 ⟨gH,rfl,hgH,hRH,hb4⟩;have G4:=zH (Lc G3.out hb4);have hz14:w1.heap.size<=w4.heap.size:=G4.out.size;have hlH:=hRH.lt;clear hb4 HPH p0 p1 p2 p3 p4 p5 p6 p7 p8 p9;go_upto_region 12 with fail
 obtain⟨w5,hw5,d5,hs5,hb5⟩:=zm w4 #[.slice (some ⟨gH,0,none⟩) s.vs.length s.vs.length] 50;rw[hw5];go_upto_region 13 with fail
 obtain⟨w6,hw6,d6,hs6,hb6⟩:=zm w5 #[.func (.func 139) #[] #[.pointer (some ⟨w.heap.size,0,none⟩),.pointer (some ⟨w.heap.size+1+1,0,none⟩)]] 121;rw[hw6];go_upto_region 14 with fail
 obtain⟨w7,hw7,d7,hs7,hb7⟩:=zm w6 #[.func (.func 140) #[] #[.pointer (some ⟨w.heap.size,0,none⟩)]] 203;rw[hw7];have ht:Tryz.prog.underlying 204=some (.map 3 165):=Tryz.underlying204;have hmm2:=@run_makeMap Tryz.prog 204 w7;obtain⟨bH,hbH⟩:=Ki w4.heap.size;have e5:w5.heap.size=bH+1:=by omega
 have e6:w6.heap.size=bH+1+1:=by omega
 have e7:w7.heap.size=bH+1+1+1:=by omega
 have m0:MapOf (Value.int .i64) (w7.alloc (.map #[] 0)) (bH+1+1+1) 0 (fun _=>none):=by rw[<-e7];exact MapOf.made w7
 obtain⟨v1,u1,m1,g1⟩:=m0.put yp ht 0 (.func (.func 141) #[] #[]);obtain⟨v2,u2,m2,g2⟩:=m1.put yp ht 1 (.func (.func 142) #[] #[.pointer (some ⟨bH+1+1,0,none⟩),.pointer (some ⟨w.heap.size+1+1,0,none⟩)]);obtain⟨v3,u3,m3,g3⟩:=m2.put yp ht 2 (.func (.func 143) #[] #[.pointer (some ⟨bH+1+1,0,none⟩),.pointer (some ⟨w.heap.size+1+1,0,none⟩)]);obtain⟨v4,u4,m4,g4⟩:=m3.put yp ht 3 (.func (.func 144) #[] #[.pointer (some ⟨bH,0,none⟩),.pointer (some ⟨bH+1,0,none⟩),.pointer (some ⟨w.heap.size+1+1,0,none⟩)]);obtain⟨v5,u5,m5,g5⟩:=m4.put yp ht 4 (.func (.func 145) #[] #[.pointer (some ⟨w.heap.size,0,none⟩),.pointer (some ⟨w.heap.size+1+1,0,none⟩)]);obtain⟨v6,u6,m6,g6⟩:=m5.put yp ht 5 (.func (.func 146) #[] #[.pointer (some ⟨w.heap.size+1,0,none⟩),.pointer (some ⟨bH+1,0,none⟩),.pointer (some ⟨w.heap.size+1+1,0,none⟩)]);obtain⟨v7,u7,m7,g7⟩:=m6.put yp ht 6 (.func (.func 147) #[] #[.pointer (some ⟨w.heap.size+1+1,0,none⟩)])
 have HG7:Hid (Wrote (fun z=>z=bH+1+1+1) (w7.alloc (.map #[] 0)) v7):=by
  have t1:=Wrote.of_grown (R:=fun z=>z=bH+1+1+1) g1 (fun k e _=>by cases e;rfl);have t2:=t1.trans (Wrote.of_grown (R:=fun z=>z=bH+1+1+1) g2 (fun k e _=>by cases e;rfl)) (fun _ _ h=>h);have t3:=t2.trans (Wrote.of_grown (R:=fun z=>z=bH+1+1+1) g3 (fun k e _=>by cases e;rfl)) (fun _ _ h=>h);have t4:=t3.trans (Wrote.of_grown (R:=fun z=>z=bH+1+1+1) g4 (fun k e _=>by cases e;rfl)) (fun _ _ h=>h);have t5:=t4.trans (Wrote.of_grown (R:=fun z=>z=bH+1+1+1) g5 (fun k e _=>by cases e;rfl)) (fun _ _ h=>h);have t6:=t5.trans (Wrote.of_grown (R:=fun z=>z=bH+1+1+1) g6 (fun k e _=>by cases e;rfl)) (fun _ _ h=>h);exact t6.trans (Wrote.of_grown (R:=fun z=>z=bH+1+1+1) g7 (fun k e _=>by cases e;rfl)) (fun _ _ h=>h)
 have HM7:Hid (MapOf (Value.int .i64) v7 (bH+1+1+1) 7 (atG w.heap.size (w.heap.size+1+1) (w.heap.size+1) bH (bH+1) (bH+1+1))):=m7;clear m0 m1 m2 m3 m4 m5 m6 m7 g1 g2 g3 g4 g5 g6 g7;have HD5:=zH d5;have HD6:=zH d6;have HD7:=zH d7;have HRH:=zH hRH;have HS:=zH (And.intro hs5 (And.intro hs6 hs7));have HBB:=zH (And.intro hb5 (And.intro hb6 hb7));have HBN:=zH (And.intro hbH (And.intro e5 (And.intro e6 e7)));have hz14:=zH hz14;have hlH:=zH hlH;clear d5 d6 d7 hRH hs5 hs6 hs7 hb5 hb6 hb7 hw5 hw6 hw7;simp only[hbH];rw[e7] at hmm2;clear hbH e5 e6 e7;go_upto_region 15 with fail
 obtain⟨w8,hw8,d8,hs8,hb8⟩:=zm v7 #[.map (some (bH+1+1+1))] 204;rw[hw8];obtain⟨b13,hb13⟩:=Ki v7.heap.size;simp only[hb13];have HS8:=zH hs8;clear hs8 hmm2 u1 u2 u3 u4 u5 u6 u7 hw8;go_upto_region 16 with fail
 obtain⟨w9,hw9,d9,hs9,hb9⟩:=zm w8 #[.slice none 0 0] 36;rw[hw9];obtain⟨b14,hb14⟩:=Ki w8.heap.size;simp only[hb14];have hz7:w7.heap.size+1<=v7.heap.size:=by have:=HG7.out.size;simpa using this
 obtain⟨e4,e5,e6,e7⟩:=HBN.out;obtain⟨k5,k6,k7⟩:=HBB.out;have B7:Below w7.heap.size w7 v7:=⟨HG7.out.os,HG7.out.tape,HG7.out.output,by omega,fun k hk=>(HG7.out.block k (by simp;omega) (by show ¬k=bH+1+1+1;omega)).trans ((yg w7 _).block k hk)⟩;have B8:Below w7.heap.size w7 w8:=B7.trans (hb8.mono (by omega));have B68:Below w6.heap.size w6 w8:=k7.trans (B8.mono (by omega));have B58:Below w5.heap.size w5 w8:=k6.trans (B68.mono (by omega));have B48:Below w4.heap.size w4 w8:=k5.trans (B58.mono (by omega));have hz14':=hz14.out;have hlH':=hlH.out;have G8:=zH (G4.out.trans (B48.mono hz14'));have hs8':=HS8.out
 have HAW:Hid (AtW s A SV AV AX kc ks kv kx f.h AF f.args.length cf out AR cr w.heap.size (w.heap.size+1+1) (w.heap.size+1) bH (bH+1) (bH+1+1) gH w8):=by
  obtain⟨x1,x2,x3⟩:=HBX.out _ G8.out;refine⟨(HSY.out _ G8.out).fx,(HSY.out _ G8.out).fc,HOU.out _ G8.out,x1,x3,x2,?_,?_,?_,?_⟩
  . have:=HD5.out;rw[e4] at this;exact Lb B58 (by omega) this
  . exact(B48.block gH hlH').trans HRH.out
  . have:=HD6.out;rw[e5] at this;exact Lb B68 (by omega) this
  . have:=HD7.out;rw[e6] at this;exact Lb B8 (by omega) this
 obtain⟨w10,hw10,d10,hs10,hb10⟩:=zm w9 #[.int .i64 s.p.t.n,.int .i64 s.p.t.ins,.int .i64 s.p.t.outs,.slice A s.p.t.cases.length kc,.int .i64 s.p.a.n,.slice SV s.p.a.sts.length ks,.int .i64 s.p.k,.int .i64 s.n,.slice AV s.vs.length kv,.slice AX s.xs.length kx] 35;have hz10:b14+2=w10.heap.size:=by omega
 have HAT:Hid (∀X,Wrote (fun z=>z=b14) w10 X->AtW s A SV AV AX kc ks kv kx f.h AF f.args.length cf out AR cr w.heap.size (w.heap.size+1+1) (w.heap.size+1) bH (bH+1) (bH+1+1) gH X):=fun X hX=>HAW.out.keep ⟨hX.os.trans (hb10.os.trans hb9.os),hX.tape.trans (hb10.tape.trans hb9.tape),hX.output.trans (hb10.output.trans hb9.output),by have:=hX.size;omega,fun k hk=>(hX.block k (by omega) (by show ¬k=b14;omega)).trans ((hb10.block k (by omega)).trans (hb9.block k (by omega)))⟩
 have HMP:Hid (∀X,Wrote (fun z=>z=b14) w10 X->X.heap[b13]?=some (.cells #[.map (some (bH+1+1+1))] 204 (0,0))/\X.heap[bH+1+1+1]?=v7.heap[bH+1+1+1]?/\X.heap[w.heap.size+1+1]?=some (.cells #[.int .i64 f.h.op,.int .i64 f.h.p,.int .i64 f.h.o,.int .i64 f.h.v,.int .i64 f.h.g,.slice AF f.args.length cf] 60 (0,0))):=fun X hX=>by
  have hk:∀k,k<b14->X.heap[k]?=w8.heap[k]?:=fun k hk=>(hX.block k (by omega) (by show ¬k=b14;omega)).trans ((hb10.block k (by omega)).trans (hb9.block k (by omega)))
  refine⟨(hk b13 (by omega)).trans ?_,(hk _ (by omega)).trans (hb8.block _ (by omega)),?_⟩
  . rw[<-hb13];exact d8
  . have h1:=HZ1.out
    exact(hk _ (by omega)).trans (HBX.out _ G8.out).2.2
 have h0I:AtIn b14 [] w10 w10:=⟨Wrote.refl _ _,none,0,by rw[<-hb14];exact Lb hb10 (by omega) d9,OwnR.nil _ _ _⟩;have HFN:=zH (atom_fn HFi.out HSe.out HLV2.out HTK.out HOL.out HAO.out A SV AV AX AF AR kc ks kv kx f.args.length cf cr w.heap.size (w.heap.size+1+1) (w.heap.size+1) bH (bH+1) (bH+1+1) gH);obtain⟨kf,kb,hgo,ek,hcall⟩:=HFN.out;have HCL:=zH hcall;have HGO:=zH hgo;have HAL:=zH (fun (X:Ba)=>Yk s A SV AV AX kc ks kv kx X)
 have hlen:(zu (K+1) 0 s.xs.length).length<=20000:=by
  rw[xU (K+1) _ (by omega)];exact LB (LM HFi.out.lx (show K+1<=101 by have:=HFi.out.k6;omega)) (by decide)
 have HIT:=zH (uf (s.vs_ A kc SV ks AV kv AX kx) K s.xs.length (by have:=HFi.out.k6;omega) (by have:=HFi.out.lx;omega) AX kx ⟨by unfold Sy.vs_;rw[<-HFi.out.k];rfl,by unfold Sy.vs_;rfl⟩ w9.heap.size w10 d10);obtain⟨L,hL⟩:=Ki (zu (K+1) 0 s.xs.length);rw[hL] at HIT HCL hlen HKL2;unfold Sy.vs_ at HAL
 have G10:Hid (Below w.heap.size w w10):=by
  have g9:=G8.out.trans (hb9.mono (by have:=G8.out.size;omega));have g10:=g9.trans (hb10.mono (by have:=g9.size;omega));exact Lc HB.out g10
 have HWB:Hid (w.heap.size+3<=b14):=by have:=G8.out.size;have:=HZ1.out;rw[Hid];omega
 have HW10:=zH hw10;have H0I:=zH h0I;have HZ10:=zH hz10;have HS9:=zH hs9;have D9:=zH ((hb9.block w.heap.size (by have:=G8.out.size;have:=HZ1.out;omega)).trans (HBX.out _ G8.out).1);have HB14:=zH hb14;clear hw9 d9 hs9 hb9 hw10 d10 hs10 hb10 hz10 h0I hgo hcall HFN hz7 e4 e5 e6 e7 k5 k6 k7 B7 B8 B68 B58 B48 hz14' hlH' hs8' HAW hb13 hb14 d8 hb8 HD5 HD6 HD7 HRH HS HBB HBN HG7 G4 G3 G2 G1 HSY HOU HTK HOL HSe HLV2 hlH hz14 hL;have hz14:Hid True:=trivial;obtain⟨p0,p1,p2,p3,p4,p5,p6,p7,p8,p9⟩:=zw (D9.out);go_wp2_with fail;refine(HAL.out _).mono ?_;rintro e wx ⟨rfl,hwx⟩;rw[HW10.out] at hwx;obtain rfl:=hwx;clear p0 p1 p2 p3 p4 p5 p6 p7 p8 p9;go_wp2_with fail
 refine kN rfl (N5 RT (by kernel_rfl) rfl) HIT.out (by rintro x rfl;have:=HZ10.out;have:=HS9.out;have:=HB14.out;omega) (fun _=>rfl)
  (fun (pre:List { x:Nat×Nat // x∈L }) (X:Ba)=>AtIn b14 (pre.map fun x=>qo s out f.h x.1) w10 X)
  (fun _ _ _=>False)
  ?hI (fun _ _ _ _ _ h _ _=>h)
  H0I.out (fun x=>#[.int .i64 x.1,.int .i64 x.2]) 118 ?a1 ?assign ?body ?done ?stop (fun _ _ h=>h.wrote.size)
 case hI=>
  intro pre X X' row hX hg hr;exact hX.turn (by have:=HZ10.out;omega) hg hr
 case assign=>
  intro l pre x X K' hI hK;obtain⟨g',hg'⟩:∃g',g'=X.heap.size:=⟨_,rfl⟩;have HK:=zH (hK g' hg' (hI.turn (by have:=HZ10.out;omega) (row:=none) ⟨rfl,rfl,rfl,by simp,fun k hk _=>Pa X _ k hk⟩ (fun r e=>by cases e)));have HG:=zH hg';clear hK hg' hI;gi_wp2;rw[<-HG.out];exact HK.out
 case body=>
  intro l pre x g W3 hg hgb hI hlt;obtain⟨bs,hbs⟩:∃bs,(pre.map fun x=>qo s out f.h x.1)=bs:=⟨_,rfl⟩;have hbl:bs.length<=20000:=by rw[<-hbs,LF];omega
  have hbs2:Hid (((pre++[x]).map fun x=>qo s out f.h x.1)=bs++[qo s out f.h x.1]):=by rw[Hid,LP,hbs];rfl
  rw[hbs] at hI;obtain⟨P,c,hbx,ho⟩:=hI.box;obtain⟨x1,x2,x3⟩:=HMP.out W3 hI.wrote;have HC:=zH (HCL.out x.1 x.2 W3.drew ((HAT.out W3 hI.wrote).keep (Lm _ W3).drew));obtain⟨bv,hbv⟩:=Ki (qo s out f.h x.1);rw[hbv] at hbs2 HC;have hszI:=hI.wrote.size;have hz10:=HZ10.out
  have HKP:Hid (∀X,Below W3.heap.size W3 X->X.heap[b14]?=some (.cells #[.slice P bs.length c] 36 (0,0))/\X.heap[b13]?=some (.cells #[.map (some (bH+1+1+1))] 204 (0,0))/\X.heap[bH+1+1+1]?=v7.heap[bH+1+1+1]?/\X.heap[w.heap.size+1+1]?=some (.cells #[.int .i64 f.h.op,.int .i64 f.h.p,.int .i64 f.h.o,.int .i64 f.h.v,.int .i64 f.h.g,.slice AF f.args.length cf] 60 (0,0))/\X.heap[g]?=some (.cells #[.int .i64 x.1.1,.int .i64 x.1.2] 118 (0,0))):=fun X hX=>
   ⟨Lb hX (by omega) hbx,La hX x1,Lb hX (by
    obtain⟨_,_,h1,_⟩:=HM7.out;rw[h1] at x2
    exact blk_lt' x2) x2,La hX x3,La hX hgb⟩
  have HI3:=zH hI;have HO3:=zH ho;have HX3:=zH hbx;have hgW:=zj hgb;clear hI ho hbx x1 x2 x3 hgb hbs hbv;gi_wp2_with fail;refine yW [(0,true),(1,true),(2,true),(3,true),(5,true),(4,true),(6,false),(7,false),(8,false),(9,false)] (fun X=>X.heap[b14]?=some (.cells #[.slice P bs.length c] 36 (0,0))/\X.heap[b13]?=some (.cells #[.map (some (bH+1+1+1))] 204 (0,0))/\X.heap[bH+1+1+1]?=v7.heap[bH+1+1+1]?/\X.heap[w.heap.size+1+1]?=some (.cells #[.int .i64 f.h.op,.int .i64 f.h.p,.int .i64 f.h.o,.int .i64 f.h.v,.int .i64 f.h.g,.slice AF f.args.length cf] 60 (0,0))/\X.heap[g]?=some (.cells #[.int .i64 x.1.1,.int .i64 x.1.2] 118 (0,0))) (by kernel_rfl) (by kernel_rfl) (by kernel_rfl) (by rintro⟨_,_,h⟩;exact h) (HKP.out _ (Lm _ _).drew) ?_
  repeat
   apply zy rfl
   . rintro K' hK' X ⟨u1,u2,u3,u4,u5⟩
     have hlk:=(HM7.out.same u3).look yp ht (show(zeroValue 165).run Tryz.prog X=.ok .nilFunc X by kernel_rfl) f.h.op;rw[HGO.out] at hlk;simp only[Option.getD_some] at hlk;have y0:=zh u1 0 rfl;have y1:=zh u2 0 rfl;have y2:=zh u4 0 rfl;obtain⟨y3,y4,_⟩:=Ka u5;clear u1 u2 u3 u4 u5;go_simp;exact hK'
  refine zA rfl ?_;intro K' hK';go_simp;rw[ek];refine Calls.mono HC.out ?_;rintro e W4 ⟨rfl,hb4⟩;have hb4:Below W3.heap.size W3 W4:=(Lm _ W3).drew.trans hb4;have HB4:=zH hb4;have HI4:=zH (HI3.out.call (by omega) hb4);have HO4:Hid (OwnR kBl W4 w10.heap.size (.slice P bs.length c) bs.length (bs.map .bool)):=HO3.out.below hb4 (Le _);refine hK' _ _ (HKP.out _ hb4) ?_;clear hK' K' hb4 HC;refine zA rfl ?_;intro K' hK';go_simp;obtain⟨W5,hW5,d5,hs5,hb5⟩:=zm W4 #[.bool bv] 4;rw[hW5];have HI5:=zH (HI4.out.call (by omega) hb5);have HO5:Hid (OwnR kBl W5 w10.heap.size (.slice P bs.length c) bs.length (bs.map .bool)):=HO4.out.below hb5 (Le _);have HB5:Hid (Below W3.heap.size W3 W5):=Lc HB4.out hb5;have hsz5:w10.heap.size<=W5.heap.size:=by have:=HB5.out.size;omega
  refine hK' _ _ (HKP.out _ HB5.out) ?_;clear hK' K' hW5 HI4 HO4;refine xt rfl (by kernel_rfl) ?_;intro K' hK';rw[Lh (by rfl)];refine jU kBl_ok (.tmp 62) (.tmp 69) (by rfl) w10.heap.size (.slice P bs.length c) bs.length (bs.map .bool) (by rfl) HO5.out W4.heap.size #[.bool bv] (by rfl) d5 rfl (by simp[Value.oneCell']) (by omega) hsz5 _ rfl ?_;intro g' cap' W6 hr6 hg6 hat6 hlt6;have hbx5:=(HKP.out _ HB5.out).1;have HK6:Hid (AtIn b14 (bs++[bv]) w10 (W6.setCell ⟨b14,0,none⟩ (.slice (some ⟨g',0,none⟩) (bs.length+1) cap'))):=HI5.out.push (by omega) hbx5 HO5.out hr6 hg6;have HKE:=zH (HI5.out.keeps (bi:=w9.heap.size) (by omega) (by have:=HS9.out;have:=HB14.out;omega) (by have:=HS9.out;have:=HB14.out;omega) hbx5 HO5.out hg6 (.slice (some ⟨g',0,none⟩) (bs.length+1) cap'));have hb6:Below w10.heap.size W5 W6:=(Lm _ _).grown hg6 hsz5 (fun k hk=>(HO5.out.lt k hk).1);have hfz:=zi ((hb6.block b14 (by omega)).trans hbx5) 0;have hlb:=zj ((hb6.block b14 (by omega)).trans hbx5);have hc6:=zh ((hb6.block b14 (by omega)).trans hbx5) 0 rfl;have HK2:Hid (∀k,k<w10.heap.size->W6.heap[k]?=W5.heap[k]?):=fun k hk=>hb6.block k hk
  refine hK' (fun _=>True) _ _ trivial ?_;clear hK' K';refine zA rfl ?_;intro K' hK';go_simp;refine hK' _ _ trivial ?_;refine zL ?_;clear hK' K';refine⟨?_,?_,?_⟩
  . refine KeepsFrom.trans ?_ HKE.out.1
    exact⟨HB5.out.size,fun k o hk hk1 _=>(HB5.out.block k (blk_lt' hk1)).trans hk1⟩
  . refine KeepB.trans ?_ HKE.out.2
    exact⟨HB5.out.size,fun k hk hl=>HB5.out.block k hl⟩
  . show AtIn b14 _ w10 _
    rw[hbs2.out];exact HK6.out
 case done=>
  intro D ys W hD hys hI hDk;have hmap:ys.map (fun x=>qo s out f.h x.1)=L.map (qo s out f.h):=by rw[show ys.map (fun x=>qo s out f.h x.1)=(ys.map (·.1)).map (qo s out f.h) by rw[Rn];rfl,hys]
  rw[hmap] at hI;obtain⟨P,c,hbx,ho⟩:=hI.box;have q4:=zh hbx 0 rfl;have HO:=zH ho;have HI9:=zH hI;have HDk:=zH hDk;clear hI ho hbx hDk hys hmap;go_wp2_with fail;refine xn (B:=w10.heap.size) (w:=W) (show Marks w10.heap.size _ W from⟨[D],rfl,by simp,fun r hr=>by rw[LZ] at hr;subst hr;exact⟨hD,HDk.out⟩⟩) (v:=.tuple #[.slice P L.length c,.int .i64 0]) (fun W=>by kernel_rfl) ?_;intro X hS;rw[hR.out,HKL2.out];have hbX:Below w10.heap.size W X:=hS.below;have hwI:=HI9.out.wrote;have hz10:=HZ10.out;have hs9:=HS9.out;have hb14:=HB14.out;have hwz:=hwI.size;have hg10:=G10.out.size;have hz1:=HZ1.out;have hwb:=HWB.out;refine⟨P,c,by rw[LF],?_,G10.out.trans ⟨hbX.os.trans hwI.os,hbX.tape.trans hwI.tape,hbX.output.trans hwI.output,by have:=hbX.size;omega,fun k hk=>(hbX.block k (by omega)).trans (hwI.block k (by omega) (by show ¬k=b14;omega))⟩⟩;have hO2:=hS.own HO.out;simp only[List.length_map] at hO2 ⊢;refine⟨hO2.1,?_⟩;rcases hO2.2 with h0 | ⟨gg,cap,cur,e1,hb,rest⟩
  . exact .inl h0
  . exact .inr ⟨gg,cap,cur,e1,by omega,rest⟩
 case stop=>
  intro D c pre W _ _ h;exact h.elim
theorem kshared_any(bw n N:Nat)(cls:Nat->List Int)(h1:1<=n)(hn:n<=100000)(hN:N<=5)(G:Nat)(hG:G<32)(B:Bb)(cb:Nat)(set:List Bool)(hb:set.length=n)(M:Nat)(hMn:M<=n)(hM:zD n (evL n cls (zr G N)) set (M+1)=zD n (evL n cls (zr G N)) set M)(hlt:∀m,m<M->zD n (evL n cls (zr G N)) set (m+1)≠zD n (evL n cls (zr G N)) set m)
  (w:Ba) (hK:KwAt w w.heap.size bw n N cls) (hB:BAt w w.heap.size B set) :
  Calls Tryz.prog 102 #[.pointer (some ⟨bw,0,none⟩),.int .i64 (G:Int),.slice B n cb] w (RetB (zD n (evL n cls (zr G N)) set M) w):=by
 have HC:=zH (ZH bw n N cls h1 hn hN G hG B cb set hb M hMn hM hlt w hK hB);unfold RetB;rw[yP];clear hK hB hM hlt;go_enter Tryz.func102,Tryz.ntmps102;go_wp2_with fail;refine HC.out.mono ?_;rintro e w2 ⟨g2,rfl,hg2,hr2,hb2⟩;have HR2:=zH hr2;have HB2:=zH hb2;clear hr2 hb2 HC;go_wp2_with fail;go_ret;exact⟨g2,rfl,hg2,HR2.out,HB2.out⟩
theorem XD(h:Fh)(AF:Bb)(lf cf:Nat)(AB:Bb)(n kb bw c:Nat)(w:Ba)(Q:Ba->Ending->Ba->Prop)(hc:GrB w c 45 bw)(hr:∀X e w',Q X e w'->∃A' n' c',e=.returned (.slice A' n' c'))
  (hq:∀X,Below w.heap.size w X->Calls Tryz.prog 45 #[.pointer (some ⟨bw,0,none⟩),.int .i64 h.g,.slice AB n kb] X (Q X)) :
  Calls Tryz.prog 100 #[.agg #[.int .i64 h.op,.int .i64 h.p,.int .i64 h.o,.int .i64 h.v,.int .i64 h.g,.slice AF lf cf],.slice AB n kb,.pointer (some ⟨c,0,none⟩)] w fun e w'=>∃X,Below w.heap.size w X/\Q X e w':=by
 obtain⟨w1,hw1,d0,hs1,hB⟩:=zm w #[.int .i64 h.op,.int .i64 h.p,.int .i64 h.o,.int .i64 h.v,.int .i64 h.g,.slice AF lf cf] 60;have HC:=zH (hq w1 hB);have HR:=zH hr;have q0:=zh (hc.keep hB) 0 rfl;have p4:=zh d0 4 rfl;unfold XK at q0;have HW1:=zH hw1;have HB:=zH hB;clear hw1 d0 hB hc hr hq;go_enter Tryz.func100,Tryz.ntmps100;go_upto_region 1 with fail
 rw[HW1.out];go_wp2_with fail;refine HC.out.mono ?_;intro e w2 hQ;obtain⟨A',n',c',rfl⟩:=HR.out _ _ _ hQ;have HQ:=zH hQ;clear hQ HC HR HW1;go_wp2_with fail;go_ret;exact⟨w1,HB.out,HQ.out⟩
theorem gW(h:Fh)(AF:Bb)(lf cf:Nat)(AB:Bb)(n kb bw c:Nat)(w:Ba)(Q:Ba->Ending->Ba->Prop)(hc:GrB w c 46 bw)(hr:∀X e w',Q X e w'->∃A' n' c',e=.returned (.slice A' n' c'))
  (hq:∀X,Below w.heap.size w X->Calls Tryz.prog 46 #[.pointer (some ⟨bw,0,none⟩),.int .i64 h.g,.slice AB n kb] X (Q X)) :
  Calls Tryz.prog 100 #[.agg #[.int .i64 h.op,.int .i64 h.p,.int .i64 h.o,.int .i64 h.v,.int .i64 h.g,.slice AF lf cf],.slice AB n kb,.pointer (some ⟨c,0,none⟩)] w fun e w'=>∃X,Below w.heap.size w X/\Q X e w':=by
 obtain⟨w1,hw1,d0,hs1,hB⟩:=zm w #[.int .i64 h.op,.int .i64 h.p,.int .i64 h.o,.int .i64 h.v,.int .i64 h.g,.slice AF lf cf] 60;have HC:=zH (hq w1 hB);have HR:=zH hr;have q0:=zh (hc.keep hB) 0 rfl;have p4:=zh d0 4 rfl;unfold XK at q0;have HW1:=zH hw1;have HB:=zH hB;clear hw1 d0 hB hc hr hq;go_enter Tryz.func100,Tryz.ntmps100;go_upto_region 1 with fail
 rw[HW1.out];go_wp2_with fail;refine HC.out.mono ?_;intro e w2 hQ;obtain⟨A',n',c',rfl⟩:=HR.out _ _ _ hQ;have HQ:=zH hQ;clear hQ HC HR HW1;go_wp2_with fail;go_ret;exact⟨w1,HB.out,HQ.out⟩
theorem kgrp_shared(h:Fh)(AF:Bb)(lf cf:Nat)(AB:Bb)(n kb bw c:Nat)(w:Ba)(Q:Ba->Ending->Ba->Prop)(hc:GrB w c 102 bw)(hr:∀X e w',Q X e w'->∃A' n' c',e=.returned (.slice A' n' c'))
  (hq:∀X,Below w.heap.size w X->Calls Tryz.prog 102 #[.pointer (some ⟨bw,0,none⟩),.int .i64 h.g,.slice AB n kb] X (Q X)) :
  Calls Tryz.prog 100 #[.agg #[.int .i64 h.op,.int .i64 h.p,.int .i64 h.o,.int .i64 h.v,.int .i64 h.g,.slice AF lf cf],.slice AB n kb,.pointer (some ⟨c,0,none⟩)] w fun e w'=>∃X,Below w.heap.size w X/\Q X e w':=by
 obtain⟨w1,hw1,d0,hs1,hB⟩:=zm w #[.int .i64 h.op,.int .i64 h.p,.int .i64 h.o,.int .i64 h.v,.int .i64 h.g,.slice AF lf cf] 60;have HC:=zH (hq w1 hB);have HR:=zH hr;have q0:=zh (hc.keep hB) 0 rfl;have p4:=zh d0 4 rfl;unfold XK at q0;have HW1:=zH hw1;have HB:=zH hB;clear hw1 d0 hB hc hr hq;go_enter Tryz.func100,Tryz.ntmps100;go_upto_region 1 with fail
 rw[HW1.out];go_wp2_with fail;refine HC.out.mono ?_;intro e w2 hQ;obtain⟨A',n',c',rfl⟩:=HR.out _ _ _ hQ;have HQ:=zH hQ;clear hQ HC HR HW1;go_wp2_with fail;go_ret;exact⟨w1,HB.out,HQ.out⟩
theorem kone_any(h:Fh)(AF:Bb)(lf cf:Nat)(AB:Bb)(n kb bw b0:Nat)(w:Ba)(Q:Ba->Ending->Ba->Prop)(hc:w.heap[b0]?=some (.cells #[.pointer (some ⟨bw,0,none⟩)] 83 (0,0)))(hr:∀X e w',Q X e w'->∃A' n' c',e=.returned (.slice A' n' c'))
  (hq:∀X,Below w.heap.size w X->Calls Tryz.prog 40 #[.pointer (some ⟨bw,0,none⟩),.int .i64 h.p,.slice AB n kb] X (Q X)) :
  Calls Tryz.prog 101 #[.agg #[.int .i64 h.op,.int .i64 h.p,.int .i64 h.o,.int .i64 h.v,.int .i64 h.g,.slice AF lf cf],.slice AB n kb,.pointer (some ⟨b0,0,none⟩)] w fun e w'=>∃X,Below w.heap.size w X/\Q X e w':=by
 obtain⟨w1,hw1,d0,hs1,hB⟩:=zm w #[.int .i64 h.op,.int .i64 h.p,.int .i64 h.o,.int .i64 h.v,.int .i64 h.g,.slice AF lf cf] 60;have HC:=zH (hq w1 hB);have HR:=zH hr;have q0:=zh (La hB hc) 0 rfl;have p1:=zh d0 1 rfl;have HW1:=zH hw1;have HB:=zH hB;clear hw1 d0 hB hc hr hq;go_enter Tryz.func101,Tryz.ntmps101;go_upto_region 1 with fail
 rw[HW1.out];go_wp2_with fail;refine HC.out.mono ?_;intro e w2 hQ;obtain⟨A',n',c',rfl⟩:=HR.out _ _ _ hQ;have HQ:=zH hQ;clear hQ HC HR HW1;go_wp2_with fail;go_ret;exact⟨w1,HB.out,HQ.out⟩
end
section
open Go.RowKit Go.Shelf
def orL(n:Nat)(a b:List Bool):List Bool:=(List.range n).map fun i=>a.getD i false||b.getD i false
theorem Z7(n:Nat)(a b:List Bool):(orL n a b).length=n:=by simp[orL]
theorem orL_at{n:Nat}{a b:List Bool}{i:Nat}(h:i<n):(orL n a b)[i]'(by rw[Z7];exact h)=(a.getD i false||b.getD i false):=by
 simp only[orL,List.getElem_map,List.getElem_range]
def Z1(s:Sy)(h:Fh)(a b:List Bool):List Bool:=
 if h.op=10 then yn (ptn s) (zX s h.p.toNat) a
 else if h.op=11 then evG s h.g a
 else if h.op=12 then yn (ptn s) (xJ s h.g) a
 else if h.op=13 then zD (ptn s) (evG s h.g) a (ptn s)
 else if h.op=7 then jH (ptn s) a
 else if h.op=8 then xC (ptn s) a b
 else orL (ptn s) a b
theorem vI(s:Sy)(h:Fh)(a b:List Bool):(Z1 s h a b).length=ptn s:=by
 unfold Z1
 repeat' split
 . exact zT _ _ _
 . exact yH _ _ _ _
 . exact zT _ _ _
 . exact yP _
 . exact qc _ _
 . exact yi _ _ _
 . exact Z7 _ _ _
def Z2(s:Sy)(out:List Int):Nat->Fm->List Bool
 | 0,f=>gj s out f.h
 | d+1,f=>if f.args.length=0 then gj s out f.h else Z1 s f.h (Z2 s out d (f.args.getD 0 default)) (Z2 s out d (f.args.getD 1 default))
theorem evlE_len(s:Sy)(out:List Int):∀d f,(Z2 s out d f).length=ptn s
 | 0,f=>Xq s out f.h
 | d+1,f=>by
  unfold Z2
  split
  . exact Xq s out f.h
  . exact vI ..
def evOk(N:Nat):Nat->Fm->Prop
 | 0,f=>kJ N f.h f.args.length=0/\f.args=[]
 | d+1,f=>kJ N f.h f.args.length=0/\f.h.op<=13/\∀x∈f.args,evOk N d x
def wR(a b:List Bool)(k:Nat):List Bool:=a.take k++b.drop k
theorem Qb(a b:List Bool):wR a b 0=b:=by simp[wR]
theorem midB_all{a b:List Bool}(h:a.length=b.length){k:Nat}(hk:k=b.length):wR a b k=a:=by subst hk;simp[wR,<-h]
theorem wQ{a b:List Bool}(h:a.length=b.length)(k:Nat):(wR a b k).length=b.length:=by simp[wR];omega
theorem midB_at{a b:List Bool}(h:a.length=b.length){k:Nat}(hk:k<b.length):(wR a b k)[k]'(by rw[wQ h];exact hk)=b[k]:=by
 unfold wR;rw[Pu (by simp;omega)];simp[show min k a.length=k by omega]
theorem midB_get{a b:List Bool}(h:a.length=b.length){k:Nat}(hk:k<=b.length)(i:Nat):(wR a b k)[i]?=if i<k then a[i]? else b[i]?:=by
 unfold wR
 by_cases e:i<k
 . rw[Lh e,LW (by simp;omega),N9,Lh e]
 . rw[Lf e,LT (by simp;omega),Ru]
   congr 1
   simp;omega
theorem midB_set{a b:List Bool}(h:a.length=b.length){k:Nat}(hk:k<b.length):(wR a b k).set k (a[k]'(by omega))=wR a b (k+1):=by
 refine List.ext_getElem? fun i=>?_
 rw[RG,midB_get h (by omega),midB_get h (by omega),wQ h]
 by_cases e:k=i
 . subst e
   rw[Lh rfl,Lh hk,Lh (by omega),Lq]
 . rw[Lf e]
   by_cases e2:i<k
   . rw[Lh e2,Lh (by omega)]
   . rw[Lf e2,Lf (by omega)]
def OwnB(w:Ba)(g cap:Nat)(bs:List Bool):Prop:=∃cur:Array Value,w.heap[g]?=some (.cells cur 4 (0,0))/\cur.size=cap/\bs.length<=cap/\cap<=maxLen/\cur.toList.take bs.length=bs.map .bool
theorem OwnB.lt{w:Ba}{g cap:Nat}{bs:List Bool}(h:OwnB w g cap bs):g<w.heap.size:=by obtain⟨_,h1,_⟩:=h;exact zj h1
theorem OwnB.cell{w:Ba}{g cap:Nat}{bs:List Bool}(h:OwnB w g cap bs)(k:Nat)(hk:k<bs.length):w.cell? ⟨g,k,none⟩=some (.bool bs[k]):=by
 obtain⟨cur,h1,h2,h3,_,h4⟩:=h;refine zh h1 k ?_;have e:(cur.toList.take bs.length)[k]?=(bs.map Value.bool)[k]?:=by rw[h4]
 rw[N9,Lh hk,Su,Lq hk] at e;simpa using e
theorem OwnB.froz{w:Ba}{g cap:Nat}{bs:List Bool}(h:OwnB w g cap bs)(k:Nat):w.frozen? ⟨g,k,none⟩=false:=by
 obtain⟨cur,h1,_⟩:=h;exact zi h1 k
theorem OwnB.set{w:Ba}{g cap:Nat}{bs:List Bool}(h:OwnB w g cap bs)(k:Nat)(x:Bool):OwnB (w.setCell ⟨g,k,none⟩ (.bool x)) g cap (bs.set k x):=by
 obtain⟨cur,h1,h2,h3,h5,h4⟩:=h;refine⟨cur.setIfInBounds k (.bool x),?_,by simpa using h2,by simpa using h3,h5,?_⟩
 . rw[World.setCell,Pt,Lh rfl,h1];rfl
 . rw[Ri,Array.toList_setIfInBounds,List.take_set,h4,St]
theorem OwnB.of{w:Ba}{base:Nat}{A:Bb}{n c:Nat}{bs:List Bool}(hl:bs.length=n)(h1:1<=n)(h:OwnR kBl w base (.slice A n c) n (bs.map .bool)):∃g,A=some ⟨g,0,none⟩/\base<=g/\OwnB w g c bs:=by
 rcases h.2 with ⟨_,h0⟩ | ⟨g,cap,cur,e,hb,hg,hle,hcm,hsz,htk⟩
 . omega
 . cases e
   exact⟨g,rfl,hb,cur,hg,by rw[hsz];exact N6 _,by omega,hcm,by rw[hl,<-htk];show _=cur.toList.take (n*1);rw[N6]⟩
theorem BRow.ownB{w:Ba}{g n:Nat}{bs:List Bool}(h:BRow w g bs)(hl:bs.length=n)(hn:n<=100000):OwnB w g n bs:=
 ⟨xI bs,h,by simpa[xI] using hl,by omega,by unfold maxLen;omega,by rw[show(xI bs).toList=bs.map .bool by simp[xI]];exact Nw (by simp)⟩
theorem OwnB.at_{w:Ba}{g c B:Nat}{bs:List Bool}(h:OwnB w g c bs)(hB:g<B):BAt w B (some ⟨g,0,none⟩) bs:=fun _=>⟨g,0,rfl,hB,fun i hi=>by rw[LL];exact h.cell i hi⟩
theorem OwnB.same{w w':Ba}{g c:Nat}{bs:List Bool}(h:OwnB w g c bs)(e:w'.heap[g]?=w.heap[g]?):OwnB w' g c bs:=by
 obtain⟨cur,h1,rest⟩:=h;exact⟨cur,e.trans h1,rest⟩
structure BoolK(g:Nat)(w w':Ba):Prop where
 cell:∀(p:Addr) (v:Value),w.cell? p=some v->(∀b,v≠.bool b)->w'.cell? p=some v
 heap:∀z,z≠g->w'.heap[z]?=w.heap[z]?
 size:w'.heap.size=w.heap.size
 os:w'.os=w.os
 tape:w'.tape=w.tape
 output:w'.output=w.output
theorem BoolK.refl(g:Nat)(w:Ba):BoolK g w w:=⟨fun _ _ h _=>h,fun _ _=>rfl,rfl,rfl,rfl,rfl⟩
theorem BoolK.set{g k:Nat}{w w':Ba}{y:Bool}(h:BoolK g w w')(hc:w'.cell? ⟨g,k,none⟩=some (.bool y))(x:Bool):BoolK g w (w'.setCell ⟨g,k,none⟩ (.bool x)):=by
 refine⟨fun p v hp hv=>?_,fun z hz=>(Lg w' ⟨g,k,none⟩ _ z hz).trans (h.heap z hz),by simpa[World.setCell] using h.size,h.os,h.tape,h.output⟩;have h1:=h.cell p v hp hv
 by_cases e:(⟨g,k,none⟩:Addr)=p
 . subst e
   rw[hc] at h1;exact absurd (LO h1).symm (hv y)
 . exact(World.cell?_setCell_other (h:=e) ..).trans h1
theorem BoolK.below{g B:Nat}{w w':Ba}(h:BoolK g w w')(hg:B<=g):Below B w w':=⟨h.os,h.tape,h.output,by rw[h.size];exact Le _,fun k hk=>h.heap k (by omega)⟩
theorem BoolK.iat{g B:Nat}{w w':Ba}(h:BoolK g w w'){A:Bb}{xs:List Int}(hx:IAt w B A xs):IAt w' B A xs:=fun h0=>by
 obtain⟨b,off,e,hlt,hc⟩:=hx h0;exact⟨b,off,e,hlt,fun i hi=>h.cell _ _ (hc i hi) (fun b e=>by cases e)⟩
theorem KwAt.bools{g B bw n N:Nat}{cls:Nat->List Int}{w w':Ba}(hk:KwAt w B bw n N cls)(h:BoolK g w w'):KwAt w' B bw n N cls:=by
 obtain⟨b,off,cC,h1,h2,h3⟩:=hk.rows;refine⟨hk.lt,h.cell _ _ hk.size (fun b e=>by cases e),⟨b,off,cC,h.cell _ _ h1 (fun b e=>by cases e),h2,fun q hq=>?_⟩,hk.len⟩;obtain⟨A,c,h4,h5⟩:=h3 q hq;exact⟨A,c,h.cell _ _ h4 (fun b e=>by cases e),h.iat h5⟩
section
variable {s:Sy} {A SV AV AX:Bb} {kc ks kv kx B:Nat} {w w':Ba} {bw mb m:Nat} {F:Int->Option Value}
theorem KwD.bools(h:KwD s A SV AV AX kc ks kv kx B w bw mb m F){g:Nat}(hb:BoolK g w w')(hg:B<=g)(h1:bw≠g)(h2:mb≠g):KwD s A SV AV AX kc ks kv kx B w' bw mb m F:=by
 obtain⟨AQ,cQ,hbk⟩:=h.blk;have hz:=hb.size;refine⟨by rw[hz];exact h.kw.bools hb,⟨AQ,cQ,(hb.heap _ h1).trans hbk⟩,h.map.same (hb.heap _ h2),fun q v hv=>?_,h.sys.keep (hb.below hg),by rw[hz];exact h.lowB,h.low⟩;obtain⟨A',c',e,hI⟩:=h.vals q v hv;exact⟨A',c',e,by rw[hz];exact hb.iat hI⟩
end
structure EvC(s:Sy)(out:List Int)(AR A SV AV AX:Bb)(kc ks kv kx B bw mb mo b0 c1 c2 c3:Nat)(w:Ba):Prop where
 kw:∃m F,KwD s A SV AV AX kc ks kv kx B w bw mb m F
 ops:∃m,MapOf (Value.int .i64) w mo m (opG b0 c1 c2 c3)
 at_:OpsAt w bw b0 c1 c2 c3
 ne:mo≠mb
 out:IAt w B AR out
section
variable {s:Sy} {out:List Int} {AR A SV AV AX:Bb} {kc ks kv kx B bw mb mo b0 c1 c2 c3:Nat} {w w':Ba}
theorem OpsAt.keep(h:OpsAt w bw b0 c1 c2 c3)(hk:∀z,¬z=mb->z<w.heap.size->w'.heap[z]?=w.heap[z]?)(hm:∃m F,MapOf (Value.int .i64) w mb m F):OpsAt w' bw b0 c1 c2 c3:=by
 obtain⟨m,F,es,clock,hmb,_⟩:=hm;have ne:∀z (cs:Array Value) t,w.heap[z]?=some (.cells cs t (0,0))->¬z=mb:=fun z cs t hz e=>by rw[e,hmb] at hz;cases hz
 exact⟨(hk _ (ne _ _ _ h.b0) (zj h.b0)).trans h.b0,(hk _ (ne _ _ _ h.c1) (zj h.c1)).trans h.c1,(hk _ (ne _ _ _ h.c2) (zj h.c2)).trans h.c2,(hk _ (ne _ _ _ h.c3) (zj h.c3)).trans h.c3⟩
theorem EvC.wrote(h:EvC s out AR A SV AV AX kc ks kv kx B bw mb mo b0 c1 c2 c3 w)(hw:Wrote (fun z=>z=mb) w w')(hk:∃m F,KwD s A SV AV AX kc ks kv kx B w' bw mb m F):EvC s out AR A SV AV AX kc ks kv kx B bw mb mo b0 c1 c2 c3 w':=by
 obtain⟨m,F,hK⟩:=h.kw;obtain⟨m',hM⟩:=h.ops;exact⟨hk,⟨m',hM.same (hw.block _ hM.lt h.ne)⟩,h.at_.keep (fun z hz hl=>hw.block z hl hz) ⟨m,F,hK.map⟩,h.ne,h.out.keep (hw.below hK.lowB (fun k hk e=>by have:=hK.low;omega))⟩
theorem EvC.call(h:EvC s out AR A SV AV AX kc ks kv kx B bw mb mo b0 c1 c2 c3 w)(hb:Below w.heap.size w w'):EvC s out AR A SV AV AX kc ks kv kx B bw mb mo b0 c1 c2 c3 w':=by
 obtain⟨m,F,hK⟩:=h.kw;exact h.wrote (Wrote.of_below hb) ⟨m,F,hK.call hb⟩
def RetEv(s:Sy)(out:List Int)(AR A SV AV AX:Bb)(kc ks kv kx B bw mb mo b0 c1 c2 c3:Nat)(R:List Bool)(w:Ba)(e:Ending)(w':Ba):Prop:=
 ∃g c,e=.returned (.tuple #[.slice (some ⟨g,0,none⟩) (ptn s) c,.int .i64 0])/\w.heap.size<=g/\OwnB w' g c R/\EvC s out AR A SV AV AX kc ks kv kx B bw mb mo b0 c1 c2 c3 w'/\Wrote (fun z=>z=mb) w w'
end
end
section
open Go.RowKit Go.Shelf
theorem X8{N:Nat}{h:Fh}{k:Nat}(he:kJ N h k=0):0<=h.op/\(k:Int)=arN h.op/\(h.op=10->0<=h.p/\h.p<=(N:Int)-1)/\(h.op=11\/h.op=12\/h.op=13->0<=h.g/\h.g<=(2:Int)^N-1):=by
 unfold kJ at he
 by_cases h1:h.op<0\/17<h.op
 . rw[Lh h1] at he;cases he
 rw[Lf h1] at he
 by_cases h2:(k:Int)≠arN h.op
 . rw[Lh h2] at he;cases he
 rw[Lf h2] at he
 split at he
 . cases he
 rename_i h3;refine⟨by omega,by simpa using h2,fun e=>?_,fun e=>?_⟩
 . have hu:usP h.op=true:=by unfold usP;rw[NB];omega
   exact NQ fun hn=>h3 (.inl ⟨hu,hn⟩)
 . have hu:usG h.op=true:=by unfold usG;rw[NB];omega
   exact NQ fun hn=>h3 (.inr (.inr (.inr ⟨hu,hn⟩)))
section
variable {n:Nat} {cls:Nat->List Int} {ps:List Nat}
theorem X7{set:List Bool}{M:Nat}(hM:zD n (evL n cls ps) set (M+1)=zD n (evL n cls ps) set M):∀m,zD n (evL n cls ps) set (M+m)=zD n (evL n cls ps) set M
 | 0=>rfl
 | m+1=>by
  show zD n (evL n cls ps) set (M+m+1)=_;rw[zD,X7 hM m];exact hM
theorem now_up{set:List Bool}{M:Nat}(hM:zD n (evL n cls ps) set (M+1)=zD n (evL n cls ps) set M)(h:M<=n):zD n (evL n cls ps) set n=zD n (evL n cls ps) set M:=by
 have:=X7 hM (n-M);rwa[show M+(n-M)=n by omega] at this
end
def RetOq(s:Sy)(out:List Int)(AR A SV AV AX:Bb)(kc ks kv kx B bw mb mo b0 c1 c2 c3:Nat)(R:List Bool)(w:Ba)(e:Ending)(w':Ba):Prop:=
 ∃g',e=.returned (.slice (some ⟨g',0,none⟩) (ptn s) (ptn s))/\w.heap.size<=g'/\BRow w' g' R/\EvC s out AR A SV AV AX kc ks kv kx B bw mb mo b0 c1 c2 c3 w'/\Wrote (fun z=>z=mb) w w'
section
variable {s:Sy} (hs:LowS s) (hf:yM s.p) {K N:Nat} (hF:Fine s K N) (hv:zZ s=0) (hn1:1<=ptn s) (hn7:ptn s<=700) {out:List Int} {AR A SV AV AX:Bb} {kc ks kv kx B bw mb mo b0 c1 c2 c3:Nat}
 (h:Fh) (AF:Bb) (lf cf g3 c:Nat) (a:List Bool) (ha:a.length=ptn s) (w:Ba) (E:EvC s out AR A SV AV AX kc ks kv kx B bw mb mo b0 c1 c2 c3 w) (hg:OwnB w g3 c a)
include hF hn1 hn7 ha E hg
theorem kop10(hp:0<=h.p/\h.p<=(N:Int)-1):Calls Tryz.prog 101 #[.agg #[.int .i64 h.op,.int .i64 h.p,.int .i64 h.o,.int .i64 h.v,.int .i64 h.g,.slice AF lf cf],.slice (some ⟨g3,0,none⟩) (ptn s) c,.pointer (some ⟨b0,0,none⟩)] w (RetOq s out AR A SV AV AX kc ks kv kx B bw mb mo b0 c1 c2 c3 (yn (ptn s) (zX s h.p.toNat) a) w):=by
 refine(kone_any h AF lf cf (some ⟨g3,0,none⟩) (ptn s) c bw b0 w (fun X e w'=>RetB (yn (ptn s) (zX s h.p.toNat) a) X e w') E.at_.b0 (fun X e w' hq=>?_) (fun X hX=>?_)).mono ?_
 . obtain⟨g',rfl,_⟩:=hq;exact⟨_,_,_,rfl⟩
 . obtain⟨m,F,hK⟩:=(E.call hX).kw
   obtain⟨q,hq⟩:=Lr hp.1;have hn:=hF.n;rw[hq];exact uN bw (ptn s) s.n.toNat (zX s) (by omega) q (by omega) (some ⟨g3,0,none⟩) c a ha X hK.kw (((hg.at_ hg.lt).keep hX).more hX.size)
 . rintro e w' ⟨X,hX,hQ⟩
   unfold RetB at hQ;rw[zT] at hQ;obtain⟨g',rfl,h1,h2,h3⟩:=hQ;have hb:=Lc hX h3;exact⟨g',rfl,LB hX.size h1,h2,E.call hb,Wrote.of_below hb⟩
theorem kop11(hG:0<=h.g/\h.g<=(2:Int)^N-1):Calls Tryz.prog 100 #[.agg #[.int .i64 h.op,.int .i64 h.p,.int .i64 h.o,.int .i64 h.v,.int .i64 h.g,.slice AF lf cf],.slice (some ⟨g3,0,none⟩) (ptn s) c,.pointer (some ⟨c1,0,none⟩)] w (RetOq s out AR A SV AV AX kc ks kv kx B bw mb mo b0 c1 c2 c3 (evG s h.g a) w):=by
 obtain⟨G,hg0⟩:=Lr hG.1;have hn:=hF.n;have hn5:=hF.n5;have hNN:s.n.toNat=N:=by omega
 have hG32:G<32:=by
  have h1:(2:Int)^N<=32:=by
   have:∀k,k<=5->(2:Int)^k<=32:=by decide
   exact this N hn5
  omega
 have hps:psG s h.g=zr G s.n.toNat:=by rw[hg0];rfl
 refine(XD h AF lf cf (some ⟨g3,0,none⟩) (ptn s) c bw c1 w (fun X e w'=>RetB (evG s h.g a) X e w') E.at_.c1 (fun X e w' hq=>?_) (fun X hX=>?_)).mono ?_
 . obtain⟨g',rfl,_⟩:=hq;exact⟨_,_,_,rfl⟩
 . obtain⟨m,F,hK⟩:=(E.call hX).kw
   unfold evG;rw[hps,hg0];exact kn bw (ptn s) s.n.toNat (zX s) hn1 (by omega) (by omega) G hG32 (some ⟨g3,0,none⟩) c a ha X hK.kw (((hg.at_ hg.lt).keep hX).more hX.size)
 . rintro e w' ⟨X,hX,hQ⟩
   have hl:(evG s h.g a).length=ptn s:=by unfold evG;exact yH ..
   unfold RetB at hQ;rw[hl] at hQ;obtain⟨g',rfl,h1,h2,h3⟩:=hQ;have hb:=Lc hX h3;exact⟨g',rfl,LB hX.size h1,h2,E.call hb,Wrote.of_below hb⟩
theorem kop13(hG:0<=h.g/\h.g<=(2:Int)^N-1):Calls Tryz.prog 100 #[.agg #[.int .i64 h.op,.int .i64 h.p,.int .i64 h.o,.int .i64 h.v,.int .i64 h.g,.slice AF lf cf],.slice (some ⟨g3,0,none⟩) (ptn s) c,.pointer (some ⟨c3,0,none⟩)] w (RetOq s out AR A SV AV AX kc ks kv kx B bw mb mo b0 c1 c2 c3 (zD (ptn s) (evG s h.g) a (ptn s)) w):=by
 obtain⟨G,hg0⟩:=Lr hG.1;have hn:=hF.n;have hn5:=hF.n5;have hNN:s.n.toNat=N:=by omega
 have hG32:G<32:=by
  have h1:(2:Int)^N<=32:=by
   have:∀k,k<=5->(2:Int)^k<=32:=by decide
   exact this N hn5
  omega
 have hps:psG s h.g=zr G s.n.toNat:=by rw[hg0];rfl
 refine(kgrp_shared h AF lf cf (some ⟨g3,0,none⟩) (ptn s) c bw c3 w (fun X e w'=>RetB (zD (ptn s) (evG s h.g) a (ptn s)) X e w') E.at_.c3 (fun X e w' hq=>?_) (fun X hX=>?_)).mono ?_
 . obtain⟨g',rfl,_⟩:=hq;exact⟨_,_,_,rfl⟩
 . obtain⟨m,F,hK⟩:=(E.call hX).kw
   unfold evG;rw[hps,hg0];obtain⟨M,m1,m2,m3⟩:=jr (F:=zD (ptn s) (evL (ptn s) (zX s) (zr G s.n.toNat)) a) yP kZ;rw[now_up m2 m1];exact kshared_any bw (ptn s) s.n.toNat (zX s) hn1 (by omega) (by omega) G hG32 (some ⟨g3,0,none⟩) c a ha M m1 m2 m3 X hK.kw (((hg.at_ hg.lt).keep hX).more hX.size)
 . rintro e w' ⟨X,hX,hQ⟩
   have hl:(zD (ptn s) (evG s h.g) a (ptn s)).length=ptn s:=by unfold evG;exact yP ..
   unfold RetB at hQ;rw[hl] at hQ;obtain⟨g',rfl,h1,h2,h3⟩:=hQ;have hb:=Lc hX h3;exact⟨g',rfl,LB hX.size h1,h2,E.call hb,Wrote.of_below hb⟩
include hs hf hv in
theorem kop12(hG:0<=h.g/\h.g<=(2:Int)^N-1):Calls Tryz.prog 100 #[.agg #[.int .i64 h.op,.int .i64 h.p,.int .i64 h.o,.int .i64 h.v,.int .i64 h.g,.slice AF lf cf],.slice (some ⟨g3,0,none⟩) (ptn s) c,.pointer (some ⟨c2,0,none⟩)] w (RetOq s out AR A SV AV AX kc ks kv kx B bw mb mo b0 c1 c2 c3 (yn (ptn s) (xJ s h.g) a) w):=by
 have hn:=hF.n;have hNN:s.n.toNat=N:=by omega
 have hr:zQ s h.g=0:=by
  unfold zQ;rw[Lf (by simpa using hv),hNN,Lf (by omega)]
 refine(gW h AF lf cf (some ⟨g3,0,none⟩) (ptn s) c bw c2 w (fun X e w'=>(∃m F,KwD s A SV AV AX kc ks kv kx B X bw mb m F)/\∃g' m' F',e=.returned (.slice (some ⟨g',0,none⟩) (ptn s) (ptn s))/\X.heap.size<=g'/\BRow w' g' (yn (ptn s) (xJ s h.g) a)/\KwD s A SV AV AX kc ks kv kx B w' bw mb m' F'/\Wrote (fun z=>z=mb) X w') E.at_.c2 (fun X e w' hq=>?_) (fun X hX=>?_)).mono ?_
 . obtain⟨_,g',m',F',rfl,_⟩:=hq;exact⟨_,_,_,rfl⟩
 . obtain⟨m,F,hK⟩:=(E.call hX).kw
   exact(Qg s hs hf A SV AV AX kc ks kv kx B h.g hr (by omega) (some ⟨g3,0,none⟩) c a ha bw mb m F X hK (((hg.at_ hg.lt).keep hX).more hX.size)).mono fun e w' hq=>⟨⟨m,F,hK⟩,hq⟩
 . rintro e w' ⟨X,hX,_,g',m',F',rfl,h1,h2,h3,h4⟩
   have hw:Wrote (fun z=>z=mb) w w':=(Wrote.of_below hX).trans h4 (fun _ _ e=>e);exact⟨g',rfl,LB hX.size h1,h2,E.wrote hw ⟨m',F',h3⟩,hw⟩
end
end
section
open Go.RowKit Go.Shelf
attribute [local go_sem] Oper.semAt_some
section
variable {s:Sy} {out:List Int} {AR A SV AV AX:Bb} {kc ks kv kx B bw mb mo b0 c1 c2 c3:Nat} {w w':Ba}
theorem vM{w:Ba}{g c b:Nat}{bs:List Bool}{cs:Array Value}{t:TypeId}(ho:OwnB w g c bs)(h:w.heap[b]?=some (.cells cs t (0,0)))(ht:t≠4):b≠g:=by
 obtain⟨cur,h1,_⟩:=ho;intro e;subst e;rw[h1] at h;injection h with h
 injection h with _ h2 _
 exact ht h2.symm
theorem map_ne{w:Ba}{g c b m:Nat}{bs:List Bool}{F:Int->Option Value}(ho:OwnB w g c bs)(h:MapOf (Value.int .i64) w b m F):b≠g:=by
 obtain⟨cur,h1,_⟩:=ho;obtain⟨es,clock,h2,_⟩:=h;intro e;subst e;rw[h1] at h2
 cases h2
theorem EvC.bools(E:EvC s out AR A SV AV AX kc ks kv kx B bw mb mo b0 c1 c2 c3 w){g c:Nat}{bs:List Bool}(ho:OwnB w g c bs)(hb:BoolK g w w')(hg:B<=g):EvC s out AR A SV AV AX kc ks kv kx B bw mb mo b0 c1 c2 c3 w':=by
 obtain⟨m,F,hK⟩:=E.kw;obtain⟨m',hM⟩:=E.ops;obtain⟨AQ,cQ,hbk⟩:=hK.blk;have h0:=E.at_
 exact⟨⟨m,F,hK.bools hb hg (vM ho hbk (by decide)) (map_ne ho hK.map)⟩,⟨m',hM.same (hb.heap _ (map_ne ho hM))⟩,
  ⟨(hb.heap _ (vM ho h0.b0 (by decide))).trans h0.b0,(hb.heap _ (vM ho h0.c1 (by decide))).trans h0.c1,(hb.heap _ (vM ho h0.c2 (by decide))).trans h0.c2,(hb.heap _ (vM ho h0.c3 (by decide))).trans h0.c3⟩,E.ne,hb.iat E.out⟩
theorem BoolK.wrote{g:Nat}{R:Nat->Prop}{v:Ba}(h:Wrote R v w)(hb:BoolK g w w')(hg:v.heap.size<=g):Wrote R v w':=
 ⟨hb.os.trans h.os,hb.tape.trans h.tape,hb.output.trans h.output,by rw[hb.size];exact h.size,fun k hk hr=>(hb.heap k (by omega)).trans (h.block k hk hr)⟩
end
theorem atm_fine{s:Sy}{K N:Nat}(hF:Fine s K N)(hv:zZ s=0){out:List Int}(hout:¬(0<out.length/\out.length≠s.vs.length)){f:Fm}(hnod:kJ N f.h f.args.length=0)(hk:f.args.length=0):atmE s out 0 f=(gj s out f.h,0):=by
 have hn:=hF.n;have h1:=hF.n1;have h5:=hF.n5;have ha:f.args=[]:=PE.1 hk;have hN:s.n.toNat=N:=by omega
 have hE:je s.n 0 f=0:=by
  unfold je;rw[Lf (by omega)];have h2:Z3 (qg 0 f)=0:=by unfold qg;rw[ha];rfl
  rw[Lf (by rw[h2];simp),hN];unfold jI nodS;rw[Lf (by rw[hnod];simp),ha]
  rfl
 unfold atmE;rw[Lf (by rw[hv];simp),Lf hout,Lf (by rw[hE];simp),Lf (by omega)]
theorem Y0(s:Sy)(hs:LowS s)(hf:yM s.p)(hv:zZ s=0)(K N:Nat)(hF:Fine s K N)(hn1:1<=ptn s)(hn7:ptn s<=700)(out:List Int)(hout:¬(0<out.length/\out.length≠s.vs.length))(cr:Nat)(AR A SV AV AX:Bb)(kc ks kv kx B bw mb mo b0 c1 c2 c3:Nat)(f:Fm)(AF:Bb)(cf:Nat)(hnod:kJ N f.h f.args.length=0)(hop:f.h.op<=13)(RA:Fm->List Bool)(hRA:∀x,(RA x).length=ptn s)(w:Ba)(hE:EvC s out AR A SV AV AX kc ks kv kx B bw mb mo b0 c1 c2 c3 w)
  (hrec:∀i (hi:i<f.args.length),∃b o A' c',AF=some ⟨b,o,none⟩/\(∀X,Below B w X->∀j v,(f.args[i].vs A' c')[j]?=some v->X.cell? ⟨b,o+i*6+j,none⟩=some v) /\
   ∀X,Below B w X->EvC s out AR A SV AV AX kc ks kv kx B bw mb mo b0 c1 c2 c3 X->Calls Tryz.prog 60 #[.pointer (some ⟨bw,0,none⟩),.agg #[.slice AR out.length cr],.agg (f.args[i].vs A' c'),.map (some mo)] X (RetEv s out AR A SV AV AX kc ks kv kx B bw mb mo b0 c1 c2 c3 (RA f.args[i]) X)) :
  Calls Tryz.prog 60 #[.pointer (some ⟨bw,0,none⟩),.agg #[.slice AR out.length cr],.agg (f.vs AF cf),.map (some mo)] w (RetEv s out AR A SV AV AX kc ks kv kx B bw mb mo b0 c1 c2 c3 (if f.args.length=0 then gj s out f.h else Z1 s f.h (RA (f.args.getD 0 default)) (RA (f.args.getD 1 default))) w):=by
 unfold Fm.vs at hrec ⊢;obtain⟨wa,hwa,da,hsa,hBa⟩:=zm w #[.slice AR out.length cr] 57;obtain⟨w1,hw1,db,hsb,hBb⟩:=zm wa #[.int .i64 f.h.op,.int .i64 f.h.p,.int .i64 f.h.o,.int .i64 f.h.v,.int .i64 f.h.g,.slice AF f.args.length cf] 60;have hB:Below w.heap.size w w1:=hBa.trans (hBb.mono (by omega));have da1:=(hBb.block w.heap.size (by omega)).trans da;rw[hsa] at db;have E1:=hE.call hB;have HE1:=zH E1;obtain⟨m0,F0,hK0⟩:=hE.kw;have hlmb:=hK0.map.lt;have hBmb:=hK0.low;have hBlo:=hK0.lowB;have HRX:Hid (∀X,Wrote (fun z=>z=mb) w1 X->X.heap[w.heap.size]?=some (.cells #[.slice AR out.length cr] 57 (0,0))/\X.heap[w.heap.size+1]?=some (.cells #[.int .i64 f.h.op,.int .i64 f.h.p,.int .i64 f.h.o,.int .i64 f.h.v,.int .i64 f.h.g,.slice AF f.args.length cf] 60 (0,0))):=fun X hX=>⟨(hX.block _ (by omega) (by show ¬_=mb;omega)).trans da1,(hX.block _ (by omega) (by show ¬_=mb;omega)).trans db⟩
 have HBX:Hid (∀X,Wrote (fun z=>z=mb) w1 X->Below B w X):=fun X hX=>(hB.mono hBlo).trans (hX.below (by have:=hB.size;omega) (fun k hk e=>by have:k=mb:=e;omega))
 have hd:Below w1.heap.size w1 w1.drew:=(Lm _ w1).drew;have HWD:Hid (Wrote (fun z=>z=mb) w1 w1.drew):=Wrote.of_below hd;have HED:=zH (E1.call hd);have hfac:=X8 hnod;have HREC:=zH hrec;have HRA:=zH hRA;have HWA:=zH hwa;have HWB:=zH hw1;have HB:=zH hB;have HF:=zH hF;obtain⟨v0,v1,v2,v3,v4,v5,_⟩:=Kg (db)
 by_cases hk:f.args.length=0
 case pos=>
  obtain⟨m1,F1,hK1⟩:=E1.kw;obtain⟨AQ,cQ,hbk⟩:=hK1.blk;have hat:=atm_fine hF hv hout hnod hk;have hal:(gj s out f.h).length=ptn s:=Xq s out f.h;have HAT:=zH (atomN_any s hs hf out 0 f (by unfold qg;rw[PE.1 hk];decide) A SV AV AX AF AR kc ks kv kx cf cr w1.drew ((hK1.sys.more hK1.lowB).up hd) (((E1.out.more hK1.lowB).keep hd).more hd.size) (show f.args=[] from PE.1 hk));unfold RetBN at HAT;unfold Fm.vs at HAT;rw[hat] at HAT;simp only[hal] at HAT;unfold Sy.vs_ at HAT;have HKP:=zH (And.intro hbk (And.intro da1 db));have HAL:=zH hal;have HK:=zH hk;have e0:((f.args.length:Int)==0)=true:=by rw[hk];rfl
  rw[Lh hk];clear hwa da hsa hBa hw1 db hsb hBb hB da1 E1 hE hK0 hrec hRA hfac hnod hop hs hf hF hv hout hK1 hbk hat hal HREC HRA HED hd hk;go_enter Tryz.func60,Tryz.ntmps60;go_upto_region 1 with fail
  rw[HWA.out,HWB.out];go_upto_region 2 with fail
  refine zx [(0,true),(1,true),(2,true),(3,true),(4,true),(5,true),(6,false),(7,true),(8,true),(9,true),(10,true)] (fun X=>X.heap[bw]?=some (.cells #[.int .i64 s.p.t.n,.int .i64 s.p.t.ins,.int .i64 s.p.t.outs,.slice A s.p.t.cases.length kc,.int .i64 s.p.a.n,.slice SV s.p.a.sts.length ks,.int .i64 s.p.k,.int .i64 s.n,.slice AV s.vs.length kv,.slice AX s.xs.length kx,.int .i64 (ptn s:Int),.slice AQ s.n.toNat cQ,.map (some mb)] 88 (0,0))/\X.heap[w.heap.size]?=some (.cells #[.slice AR out.length cr] 57 (0,0))/\X.heap[w.heap.size+1]?=some (.cells #[.int .i64 f.h.op,.int .i64 f.h.p,.int .i64 f.h.o,.int .i64 f.h.v,.int .i64 f.h.g,.slice AF f.args.length cf] 60 (0,0))) (by kernel_rfl) (by kernel_rfl) HKP.out ?_
  repeat
   apply zy rfl
   . rintro K' hK' X ⟨u1,u2,u3⟩
     obtain⟨x0,x1,x2,x3,x4,x5,x6,x7,x8,x9⟩:=Xzw (u1);have y0:=zh (u2) 0 rfl;obtain⟨z0,z1,z2,z3,z4,z5,_⟩:=Kg (u3);clear u1 u2 u3;go_simp;exact hK'
  refine zA rfl ?_;intro K' hK';go_simp;refine HAT.out.mono ?_;rintro e w4 ⟨A4,c4,rfl,ho4,hb4⟩;have HO4:=zH ho4;have HB4:=zH hb4;obtain⟨k1,k2,k3⟩:=HKP.out;refine hK' _ _ ⟨Lb hb4 (zj (w:=w1) k1) k1,Lb hb4 (zj (w:=w1) k2) k2,Lb hb4 (zj (w:=w1) k3) k3⟩ ?_;clear hK' K' k1 k2 k3 ho4 hb4 HAT
  repeat
   apply zy rfl
   . rintro K' hK' X u
     clear u;go_simp;exact hK'
  refine zL ?_;go_wp2_with fail;obtain⟨g4,rfl,hg4,hown⟩:=OwnB.of HAL.out hn1 HO4.out;have HOW:=zH hown;clear hown HO4
  go_ret2
  have hbw:Below w1.heap.size w1 w4:=((Lm _ w1).drew).trans HB4.out;have hww:Below w.heap.size w w4:=Lc HB.out hbw;exact⟨g4,c4,rfl,LB HB.out.size hg4,HOW.out,HE1.out.call hbw,Wrote.of_below hww⟩
 have hki:0<f.args.length:=by omega
 obtain⟨bf,of,A',c',rfl,hcells,hcall⟩:=hrec 0 hki;have hs12:w.heap.size+1<w1.heap.size:=by omega
 have hop7:7<=f.h.op:=by
  obtain⟨h1,h2,_⟩:=hfac;unfold arN at h2
  by_cases e:f.h.op<=6
  . rw[Lf (by omega),Lh e] at h2;omega
  . omega
 have hkj:(0:Int)<(f.args.length:Int):=by omega
 have e0:((f.args.length:Int)==0)=false:=by rw[Sd];omega
 rw[Lf hk];have HCE0:=zH hcells;have HC1:=zH (hcall w1.drew (HBX.out _ HWD.out) HED.out);have hg0:f.args.getD 0 default=f.args[0]:=zn hki _;rw[hg0];obtain⟨a,hadef⟩:=Ki (RA f.args[0]);have hla:a.length=ptn s:=by rw[<-hadef];exact hRA _
 rw[hadef] at HC1 ⊢;obtain⟨b,hbdef⟩:=Ki (RA (f.args.getD 1 default));have hlb:b.length=ptn s:=by rw[<-hbdef];exact hRA _
 rw[hbdef];obtain⟨RR,hRR⟩:=Ki (Z1 s f.h a b);rw[hRR];have HRR:=zH hRR;have HLA:=zH hla;have HLB:=zH hlb;have HBD:=zH hbdef;have HFAC:=zH hfac;have HOP:=zH (And.intro hop7 hop);have HSY:=zH (And.intro hs (And.intro hf hv));have HKP:Hid ((fun X=>Below B w X/\X.heap[w.heap.size]?=some (.cells #[.slice AR out.length cr] 57 (0,0))/\X.heap[w.heap.size+1]?=some (.cells #[.int .i64 f.h.op,.int .i64 f.h.p,.int .i64 f.h.o,.int .i64 f.h.v,.int .i64 f.h.g,.slice (some ⟨bf,of,none⟩) f.args.length cf] 60 (0,0))) w1.drew):=⟨HBX.out _ HWD.out,HRX.out _ HWD.out⟩;have HK:=zH hk;have ht:Tryz.prog.underlying 104=some (.map 3 160):=Tryz.underlying104;have hz:∀W:Ba,(zeroValue 160).run Tryz.prog W=.ok .nilFunc W:=fun W=>by kernel_rfl
 have HT:=zH ht;have HZ:=zH hz;clear hwa da hsa hBa hw1 db hsb hBb hB da1 E1 hE hK0 hrec HRA hRA hfac hnod hop hs hf hF hv hout HED hd hcells hcall hg0 hadef hbdef hRR hla hlb hop7 hk ht hz HE1;go_enter Tryz.func60,Tryz.ntmps60;go_upto_region 1 with fail
 rw[HWA.out,HWB.out];go_upto_region 3 with fail
 refine zx [(0,true),(1,true),(2,true),(3,true),(4,true),(5,true),(6,true),(7,false),(8,true),(9,true),(10,true),(11,true),(12,true)] (fun X=>Below B w X/\X.heap[w.heap.size]?=some (.cells #[.slice AR out.length cr] 57 (0,0))/\X.heap[w.heap.size+1]?=some (.cells #[.int .i64 f.h.op,.int .i64 f.h.p,.int .i64 f.h.o,.int .i64 f.h.v,.int .i64 f.h.g,.slice (some ⟨bf,of,none⟩) f.args.length cf] 60 (0,0))) (by kernel_rfl) (by kernel_rfl) HKP.out ?_
 repeat
  apply zy rfl
  . rintro K' hK' X ⟨u1,u2,u3⟩
    have y0:=zh (u2) 0 rfl;obtain⟨z0,z1,z2,z3,z4,z5,_⟩:=Kg (u3);have q0:=HCE0.out X u1 0 _ rfl;have q1:=HCE0.out X u1 1 _ rfl;have q2:=HCE0.out X u1 2 _ rfl;have q3:=HCE0.out X u1 3 _ rfl;have q4:=HCE0.out X u1 4 _ rfl;have q5:=HCE0.out X u1 5 _ rfl;simp only[Nat.zero_mul,Nat.add_zero] at q0 q1 q2 q3 q4 q5;clear u1 u2 u3;go_simp;exact hK'
 refine zA rfl ?_;intro K' hK';go_simp;refine HC1.out.mono ?_;rintro e w3 ⟨g3,cc,rfl,hg3,ho3,hE3,hW3⟩;have W13:Hid (Wrote (fun z=>z=mb) w1 w3):=HWD.out.trans hW3 (fun _ _ e=>e);refine hK' _ _ ⟨HBX.out _ W13.out,HRX.out _ W13.out⟩ ?_;have HO3:=zH ho3;have HE3:=zH hE3;have hs13:=W13.out.size;have hg31:w1.heap.size<=g3:=hg3;have hsB:=HB.out.size;have hfo:=(HRX.out _ W13.out).2;obtain⟨v0,v1,v2,v3,v4,v5,_⟩:=Kg (hfo);obtain⟨m3,hM3⟩:=hE3.ops;have hlk:=hM3.look2 yp HT.out (HZ.out w3) f.h.op;have HWW:Hid (Wrote (fun z=>z=mb) w w3):=(Wrote.of_below HB.out).trans W13.out (fun _ _ e=>e);clear hK' K' hW3 ho3 hE3 HC1 hfo hM3 HKP
 repeat
  apply zy rfl
  . rintro K' hK' X u
    clear u;go_simp;exact hK'
 refine zL ?_
 by_cases h10:f.h.op=10
 case pos=>
  have hev:RR=yn (ptn s) (zX s f.h.p.toNat) a:=by rw[<-HRR.out];unfold Z1;rw[Lh h10]
  have hfn:opG b0 c1 c2 c3 f.h.op=some (knF b0):=by rw[h10];rfl
  rw[hfn] at hlk;simp only[Option.getD_some,Option.isSome_some] at hlk;unfold knF at hlk;have HC2:=zH (kop10 HF.out hn1 hn7 f.h (some ⟨bf,of,none⟩) f.args.length cf g3 cc a HLA.out w3 HE3.out HO3.out (HFAC.out.2.2.1 h10));rw[<-hev] at HC2;have HLR:Hid (RR.length=ptn s):=by rw[<-HRR.out];exact vI ..
  clear hev hfn h10  HREC;go_wp2_with fail;refine HC2.out.mono ?_;rintro e w5 ⟨g5,rfl,hg5,hr5,hE5,hW5⟩;have HR5:=zH hr5;have HE5:=zH hE5;have HW5:Hid (Wrote (fun z=>z=mb) w w5):=HWW.out.trans hW5 (fun _ _ e=>e);have hgw:w.heap.size<=g5:=by omega
  clear hr5 hE5 hW5 HC2;go_wp2_with fail
  go_ret2
  exact⟨g5,ptn s,rfl,hgw,HR5.out.ownB HLR.out (by omega),HE5.out,HW5.out⟩
 by_cases h11:f.h.op=11
 case pos=>
  have hev:RR=evG s f.h.g a:=by rw[<-HRR.out];unfold Z1;rw[Lf (by omega)];rw[Lh h11]
  have hfn:opG b0 c1 c2 c3 f.h.op=some (grF c1):=by rw[h11];rfl
  rw[hfn] at hlk;simp only[Option.getD_some,Option.isSome_some] at hlk;unfold grF at hlk;have HC2:=zH (kop11 HF.out hn1 hn7 f.h (some ⟨bf,of,none⟩) f.args.length cf g3 cc a HLA.out w3 HE3.out HO3.out (HFAC.out.2.2.2 (.inl h11)));rw[<-hev] at HC2;have HLR:Hid (RR.length=ptn s):=by rw[<-HRR.out];exact vI ..
  clear hev hfn h11 h10 HREC;go_wp2_with fail;refine HC2.out.mono ?_;rintro e w5 ⟨g5,rfl,hg5,hr5,hE5,hW5⟩;have HR5:=zH hr5;have HE5:=zH hE5;have HW5:Hid (Wrote (fun z=>z=mb) w w5):=HWW.out.trans hW5 (fun _ _ e=>e);have hgw:w.heap.size<=g5:=by omega
  clear hr5 hE5 hW5 HC2;go_wp2_with fail
  go_ret2
  exact⟨g5,ptn s,rfl,hgw,HR5.out.ownB HLR.out (by omega),HE5.out,HW5.out⟩
 by_cases h12:f.h.op=12
 case pos=>
  have hev:RR=yn (ptn s) (xJ s f.h.g) a:=by rw[<-HRR.out];unfold Z1;rw[Lf (by omega)];rw[Lf (by omega)];rw[Lh h12]
  have hfn:opG b0 c1 c2 c3 f.h.op=some (grF c2):=by rw[h12];rfl
  rw[hfn] at hlk;simp only[Option.getD_some,Option.isSome_some] at hlk;unfold grF at hlk;have HC2:=zH (kop12 HSY.out.1 HSY.out.2.1 HF.out HSY.out.2.2 hn1 hn7 f.h (some ⟨bf,of,none⟩) f.args.length cf g3 cc a HLA.out w3 HE3.out HO3.out (HFAC.out.2.2.2 (.inr (.inl h12))));rw[<-hev] at HC2;have HLR:Hid (RR.length=ptn s):=by rw[<-HRR.out];exact vI ..
  clear hev hfn h12 h10 h11 HREC;go_wp2_with fail;refine HC2.out.mono ?_;rintro e w5 ⟨g5,rfl,hg5,hr5,hE5,hW5⟩;have HR5:=zH hr5;have HE5:=zH hE5;have HW5:Hid (Wrote (fun z=>z=mb) w w5):=HWW.out.trans hW5 (fun _ _ e=>e);have hgw:w.heap.size<=g5:=by omega
  clear hr5 hE5 hW5 HC2;go_wp2_with fail
  go_ret2
  exact⟨g5,ptn s,rfl,hgw,HR5.out.ownB HLR.out (by omega),HE5.out,HW5.out⟩
 by_cases h13:f.h.op=13
 case pos=>
  have hev:RR=zD (ptn s) (evG s f.h.g) a (ptn s):=by rw[<-HRR.out];unfold Z1;rw[Lf (by omega)];rw[Lf (by omega)];rw[Lf (by omega)];rw[Lh h13]
  have hfn:opG b0 c1 c2 c3 f.h.op=some (grF c3):=by rw[h13];rfl
  rw[hfn] at hlk;simp only[Option.getD_some,Option.isSome_some] at hlk;unfold grF at hlk;have HC2:=zH (kop13 HF.out hn1 hn7 f.h (some ⟨bf,of,none⟩) f.args.length cf g3 cc a HLA.out w3 HE3.out HO3.out (HFAC.out.2.2.2 (.inr (.inr h13))));rw[<-hev] at HC2;have HLR:Hid (RR.length=ptn s):=by rw[<-HRR.out];exact vI ..
  clear hev hfn h13 h10 h11 h12 HREC;go_wp2_with fail;refine HC2.out.mono ?_;rintro e w5 ⟨g5,rfl,hg5,hr5,hE5,hW5⟩;have HR5:=zH hr5;have HE5:=zH hE5;have HW5:Hid (Wrote (fun z=>z=mb) w w5):=HWW.out.trans hW5 (fun _ _ e=>e);have hgw:w.heap.size<=g5:=by omega
  clear hr5 hE5 hW5 HC2;go_wp2_with fail
  go_ret2
  exact⟨g5,ptn s,rfl,hgw,HR5.out.ownB HLR.out (by omega),HE5.out,HW5.out⟩
 have hfn:opG b0 c1 c2 c3 f.h.op=none:=by unfold opG opQ;rw[Lf h10,Lf h11,Lf h12,Lf h13]
 rw[hfn] at hlk;simp only[Option.getD_none,Option.isSome_none] at hlk
 by_cases h7:f.h.op=7
 case pos=>
  have hev:RR=jH (ptn s) a:=by rw[<-HRR.out];unfold Z1;rw[Lf h10,Lf h11,Lf h12,Lf h13,Lh h7]
  have HEV:=zH hev;have e7:(f.h.op==7)=true:=by rw[h7];rfl
  clear hfn h7 h10 h11 h12 h13 HREC hev;go_wp2_with fail
  go_loopw [61] (fun i wr=>∃j:Nat,j<=ptn s/\i=.int .i64 (j:Int)/\Hid (OwnB wr g3 cc (wR (jH (ptn s) a) a j))/\Hid (BoolK g3 w3 wr)) (fun i _=>ptn s-(intOf i).toNat)
  case atStart=>exact⟨0,by omega,rfl,by rw[Qb];exact HO3,BoolK.refl _ _⟩
  case round=>
   obtain⟨j,hj,rfl,hown,hbk⟩:=hrel;have hwj:IntKind.i64.wrap ((j:Int)+1)=((j+1:Nat):Int):=by rw[Ll];omega
   by_cases hlt:j<ptn s
   . have hkb:j<a.length:=by rw[HLA.out];exact hlt
     have hnl:(jH (ptn s) a).length=ptn s:=qc ..;have hab:(jH (ptn s) a).length=a.length:=by rw[hnl,HLA.out]
     have hml:=wQ hab j;have y0:=hown.out.cell j (by rw[hml];exact hkb);have f0:=hown.out.froz j;have hlw:=hown.out.lt;rw[midB_at hab hkb] at y0;obtain⟨x,hx⟩:=Ki (a[j]'hkb);rw[hx] at y0;have hnv:(jH (ptn s) a)[j]'(by rw[hnl];exact hlt)=!x:=by rw[<-zn (by rw[hnl];exact hlt) false,wH hlt,zn hkb,hx]
     have hset:=hown.out.set j (!x);have hms:=midB_set hab hkb;rw[hnv] at hms;rw[hms] at hset;have HOW:=zH hset;have HBK:=zH (hbk.out.set y0 (!x));have hj0:(0:Int)<=(j:Int):=by omega
     have hj1:(j:Int)<(ptn s:Int):=by omega
     clear hset hms hnv hx hml hab hnl hown hbk hkb
     cases x with
     | false=>
      go_wp2_with fail
      go_roundw
      case rel=>exact⟨j+1,by omega,by go_num,HOW,HBK⟩
      case measure=>simp[intOf];omega
     | true=>
      go_wp2_with fail
      go_roundw
      case rel=>exact⟨j+1,by omega,by go_num,HOW,HBK⟩
      case measure=>simp[intOf];omega
   . obtain rfl:ptn s=j:=by omega
     have hj1:¬(ptn s:Int)<(ptn s:Int):=by omega
     have hnl:(jH (ptn s) a).length=ptn s:=qc ..;have HOW:Hid (OwnB wr g3 cc RR):=by have h:=hown.out;rw[midB_all (by rw[hnl,HLA.out]) (by rw[HLA.out])] at h;rw[HEV.out];exact h
     have HEE:=zH (HE3.out.bools HO3.out hbk.out (by omega));have HWE:=zH (BoolK.wrote HWW.out hbk.out (by omega));have hgw:w.heap.size<=g3:=by omega
     clear hown hbk hnl;go_wp2_with fail
     go_ret2
     exact⟨g3,cc,rfl,hgw,HOW.out,HEE.out,HWE.out⟩
 have hki1:1<f.args.length:=by
  have h1:=HFAC.out.2.1;have h3:=HOP.out;unfold arN at h1;rw[Lh (by omega)] at h1;omega
 have hkj1:(1:Int)<(f.args.length:Int):=by omega
 obtain⟨bf2,of2,A2,cA2,eA,hcells2,hcall2⟩:=HREC.out 1 hki1
 cases eA
 have hg1:f.args.getD 1 default=f.args[1]:=zn hki1 _;have hbb:RA f.args[1]=b:=by rw[<-hg1];exact HBD.out
 rw[hbb] at hcall2;have hd3:Below w3.heap.size w3 w3.drew:=(Lm _ w3).drew;have WD3:Hid (Wrote (fun z=>z=mb) w1 w3.drew):=W13.out.trans (Wrote.of_below hd3) (fun _ _ e=>e);have HC2:=zH (hcall2 w3.drew (HBX.out _ WD3.out) (HE3.out.call hd3));have HCE1:=zH hcells2;have e7:(f.h.op==7)=false:=by rw[Sd];exact h7
 have h89:f.h.op=8\/f.h.op=9:=by have h3:=HOP.out;omega
 have HEV:Hid (RR=if f.h.op=8 then xC (ptn s) a b else orL (ptn s) a b):=by
  show RR=_;rw[<-HRR.out];unfold Z1;rw[Lf h10,Lf h11,Lf h12,Lf h13,Lf h7]
 have H89:=zH h89;have hmb3:mb≠g3:=by obtain⟨m,F,hK⟩:=HE3.out.kw;exact map_ne HO3.out hK.map
 have HKP:Hid ((fun X=>Below B w X/\X.heap[w.heap.size]?=some (.cells #[.slice AR out.length cr] 57 (0,0))/\X.heap[w.heap.size+1]?=some (.cells #[.int .i64 f.h.op,.int .i64 f.h.p,.int .i64 f.h.o,.int .i64 f.h.v,.int .i64 f.h.g,.slice (some ⟨bf,of,none⟩) f.args.length cf] 60 (0,0))) w3.drew):=⟨HBX.out _ WD3.out,HRX.out _ WD3.out⟩;clear hfn h7 h10 h11 h12 h13 h89 HREC hcells2 hcall2 hg1 hbb hd3;go_upto_region 16 with fail
 refine zx [(0,true),(1,true),(2,true),(3,true),(4,true),(5,true),(6,true),(7,false),(8,true),(9,true),(10,true),(11,true),(12,true)] (fun X=>Below B w X/\X.heap[w.heap.size]?=some (.cells #[.slice AR out.length cr] 57 (0,0))/\X.heap[w.heap.size+1]?=some (.cells #[.int .i64 f.h.op,.int .i64 f.h.p,.int .i64 f.h.o,.int .i64 f.h.v,.int .i64 f.h.g,.slice (some ⟨bf,of,none⟩) f.args.length cf] 60 (0,0))) (by kernel_rfl) (by kernel_rfl) HKP.out ?_
 repeat
  apply zy rfl
  . rintro K' hK' X ⟨u1,u2,u3⟩
    have y0:=zh (u2) 0 rfl;obtain⟨z0,z1,z2,z3,z4,z5,_⟩:=Kg (u3);have q0:=HCE1.out X u1 0 _ rfl;have q1:=HCE1.out X u1 1 _ rfl;have q2:=HCE1.out X u1 2 _ rfl;have q3:=HCE1.out X u1 3 _ rfl;have q4:=HCE1.out X u1 4 _ rfl;have q5:=HCE1.out X u1 5 _ rfl;simp only[Nat.one_mul,Nat.add_zero] at q0 q1 q2 q3 q4 q5;clear u1 u2 u3;go_simp;exact hK'
 refine zA rfl ?_;intro K' hK';go_simp;refine HC2.out.mono ?_;rintro e w5 ⟨g5,cd,rfl,hg5,ho5,hE5,hW5⟩;have W15:Hid (Wrote (fun z=>z=mb) w1 w5):=WD3.out.trans hW5 (fun _ _ e=>e);refine hK' _ _ ⟨HBX.out _ W15.out,HRX.out _ W15.out⟩ ?_;have HO5:=zH ho5;have HE5:=zH hE5;have hs35:w3.heap.size<=w5.heap.size:=hW5.size;have hg53:w3.heap.size<=g5:=hg5;have hl3:=HO3.out.lt;have HA5:Hid (OwnB w5 g3 cc a):=HO3.out.same (hW5.block g3 hl3 (fun e=>hmb3 (by have:g3=mb:=e;omega)));have HWW5:Hid (Wrote (fun z=>z=mb) w w5):=(Wrote.of_below HB.out).trans W15.out (fun _ _ e=>e);have HFO:=zH (HRX.out _ W15.out).2;clear hK' K' hW5 ho5 hE5 HC2 HKP v0 v1 v2 v3 v4 v5 hlk
 repeat
  apply zy rfl
  . rintro K' hK' X u
    clear u;go_simp;exact hK'
 refine zL ?_;go_wp2_with fail
 go_loopw [90] (fun i wr=>∃j:Nat,j<=ptn s/\i=.int .i64 (j:Int)/\Hid (OwnB wr g3 cc (wR RR a j))/\Hid (BoolK g3 w5 wr)) (fun i _=>ptn s-(intOf i).toNat)
 case atStart=>exact⟨0,by omega,rfl,by rw[Qb];exact HA5,BoolK.refl _ _⟩
 case round=>
  obtain⟨j,hj,rfl,hown,hbk⟩:=hrel;have hwj:IntKind.i64.wrap ((j:Int)+1)=((j+1:Nat):Int):=by rw[Ll];omega
  have hRL:RR.length=ptn s:=by
   rw[HEV.out];split
   . exact yi ..
   . exact Z7 ..
  have hab:RR.length=a.length:=by rw[hRL,HLA.out]
  by_cases hlt:j<ptn s
  . have hkb:j<a.length:=by rw[HLA.out];exact hlt
    have hkb2:j<b.length:=by rw[HLB.out];exact hlt
    have hml:=wQ hab j;have y0:=hown.out.cell j (by rw[hml];exact hkb);have f0:=hown.out.froz j;have hlw:=hown.out.lt;rw[midB_at hab hkb] at y0;have z0:=(LE (a:=⟨g5,j,none⟩) (hbk.out.heap g5 (by omega))).trans (HO5.out.cell j hkb2);have fr:=(hbk.out.heap (w.heap.size+1) (by omega)).trans HFO.out;have v0:=zh fr 0 rfl;obtain⟨x,hx⟩:=Ki (a[j]'hkb);obtain⟨y,hy⟩:=Ki (b[j]'hkb2);rw[hx] at y0;rw[hy] at z0;have hj0:(0:Int)<=(j:Int):=by omega
    have hj1:(j:Int)<(ptn s:Int):=by omega
    have hms:=midB_set hab hkb;rcases H89.out with h8 | h9
    . have e8:(f.h.op==8)=true:=by rw[h8];rfl
      have hnv:RR[j]'(by rw[hRL];exact hlt)=(x&&y):=by
       rw[<-zn (by rw[hRL];exact hlt) false,HEV.out,Lh h8,zn (by rw[yi];exact hlt),gt hlt,zn hkb,zn hkb2,hx,hy]
      rw[hnv] at hms;have hset:=hown.out.set j (x&&y);rw[hms] at hset;have HOW:=zH hset;have HBK:=zH (hbk.out.set y0 (x&&y));clear hset hms hnv hx hy hml hab hRL hown hbk hkb hkb2 h8 fr
      cases x with
      | false=>
       cases y with
       | false=>
        go_wp2_with fail
        go_roundw
        case rel=>exact⟨j+1,by omega,by go_num,HOW,HBK⟩
        case measure=>simp[intOf];omega
       | true=>
        go_wp2_with fail
        go_roundw
        case rel=>exact⟨j+1,by omega,by go_num,HOW,HBK⟩
        case measure=>simp[intOf];omega
      | true=>
       cases y with
       | false=>
        go_wp2_with fail
        go_roundw
        case rel=>exact⟨j+1,by omega,by go_num,HOW,HBK⟩
        case measure=>simp[intOf];omega
       | true=>
        go_wp2_with fail
        go_roundw
        case rel=>exact⟨j+1,by omega,by go_num,HOW,HBK⟩
        case measure=>simp[intOf];omega
    . have e8:(f.h.op==8)=false:=by rw[h9];rfl
      have hnv:RR[j]'(by rw[hRL];exact hlt)=(x||y):=by
       rw[<-zn (by rw[hRL];exact hlt) false,HEV.out,Lf (by omega),zn (by rw[Z7];exact hlt),orL_at hlt,zn hkb,zn hkb2,hx,hy]
      rw[hnv] at hms;have hset:=hown.out.set j (x||y);rw[hms] at hset;have HOW:=zH hset;have HBK:=zH (hbk.out.set y0 (x||y));clear hset hms hnv hx hy hml hab hRL hown hbk hkb hkb2 h9 fr
      cases x with
      | false=>
       cases y with
       | false=>
        go_wp2_with fail
        go_roundw
        case rel=>exact⟨j+1,by omega,by go_num,HOW,HBK⟩
        case measure=>simp[intOf];omega
       | true=>
        go_wp2_with fail
        go_roundw
        case rel=>exact⟨j+1,by omega,by go_num,HOW,HBK⟩
        case measure=>simp[intOf];omega
      | true=>
       cases y with
       | false=>
        go_wp2_with fail
        go_roundw
        case rel=>exact⟨j+1,by omega,by go_num,HOW,HBK⟩
        case measure=>simp[intOf];omega
       | true=>
        go_wp2_with fail
        go_roundw
        case rel=>exact⟨j+1,by omega,by go_num,HOW,HBK⟩
        case measure=>simp[intOf];omega
  . obtain rfl:ptn s=j:=by omega
    have hj1:¬(ptn s:Int)<(ptn s:Int):=by omega
    have HOW:Hid (OwnB wr g3 cc RR):=by have h:=hown.out;rw[midB_all (by rw[hRL,HLA.out]) (by rw[HLA.out])] at h;exact h
    have HEE:=zH (HE5.out.bools HA5.out hbk.out (by omega));have HWE:=zH (BoolK.wrote HWW5.out hbk.out (by omega));have hgw:w.heap.size<=g3:=by omega
    clear hown hbk hRL hab;go_wp2_with fail
    go_ret2
    exact⟨g3,cc,rfl,hgw,HOW.out,HEE.out,HWE.out⟩
end
section
open Go.RowKit Go.Shelf
theorem ffs_all:∀ {l:List Int},XG l=0->∀x∈l,x=0
 | [],_,x,hx=>by cases hx
 | e::l,h,x,hx=>by
  unfold XG at h
  by_cases he:e≠0
  . rw[Lh he] at h;exact absurd h he
  . rw[Lf he] at h
    rcases LX.1 hx with rfl | hx
    . simpa using he
    . exact ffs_all h x hx
theorem X9{N:Nat}{R:Fm->Int}{f:Fm}(h:nodS N R f=0):kJ N f.h f.args.length=0/\∀x∈f.args,R x=0:=by
 unfold nodS at h
 by_cases he:kJ N f.h f.args.length≠0
 . rw[Lh he] at h;exact absurd h he
 . rw[Lf he] at h
   exact⟨by simpa using he,fun x hx=>ffs_all h _ (LY.2 ⟨x,hx,rfl⟩)⟩
theorem evOk_of{N:Nat}{w:Ba}{B:Nat}:∀ {d:Nat} {f:Fm} {A:Bb},FsAt w B d A f.args->jI N d f=0->Xw d f=false->evOk N d f
 | 0,f,A,hA,h,ht=>⟨(X9 h).1,hA⟩
 | d+1,f,A,hA,h,ht=>by
  obtain⟨h1,h2⟩:=X9 (R:=jI N d) h;have ht2:(ZW f.h.op||f.args.any (Xw d))=false:=ht;rw[Bool.or_eq_false_iff] at ht2
  have h17:f.h.op<=17:=by
   unfold kJ at h1
   by_cases e:f.h.op<0\/17<f.h.op
   . rw[Lh e] at h1;cases h1
   . omega
  refine⟨h1,?_,fun x hx=>?_⟩
  . have:=ht2.1
    unfold ZW at this;rw[decide_eq_false_iff_not] at this;omega
  . obtain⟨i,hi,rfl⟩:=LQ hx
    obtain⟨b,o,e,hlt,hr⟩:=hA (by omega);obtain⟨A',c',_,hB⟩:=hr i hi;refine evOk_of hB (h2 _ hx) ?_;have:=List.any_eq_false.1 ht2.2 _ hx;simpa using this
theorem nod_leaf{N:Nat}{h:Fh}(he:kJ N h 0=0):h.op<=13:=by
 obtain⟨h0,h1,_⟩:=X8 he;unfold arN at h1
 by_cases e:h.op=8\/h.op=9\/h.op=17
 . rw[Lh e] at h1;simp at h1
 . rw[Lf e] at h1
   by_cases e2:h.op<=6
   . omega
   . rw[Lf e2] at h1;simp at h1
theorem Qe(s:Sy)(hs:LowS s)(hf:yM s.p)(hv:zZ s=0)(K N:Nat)(hF:Fine s K N)(hn1:1<=ptn s)(hn7:ptn s<=700)(out:List Int)(hout:¬(0<out.length/\out.length≠s.vs.length))(cr:Nat)(AR A SV AV AX:Bb)(kc ks kv kx B bw mb mo b0 c1 c2 c3:Nat):∀(d:Nat) (f:Fm) (AF:Bb) (cf:Nat) (w:Ba),evOk N d f->FsAt w B d AF f.args->EvC s out AR A SV AV AX kc ks kv kx B bw mb mo b0 c1 c2 c3 w ->
  Calls Tryz.prog 60 #[.pointer (some ⟨bw,0,none⟩),.agg #[.slice AR out.length cr],.agg (f.vs AF cf),.map (some mo)] w (RetEv s out AR A SV AV AX kc ks kv kx B bw mb mo b0 c1 c2 c3 (Z2 s out d f) w)
 | 0,f,AF,cf,w,hok,hA,hE=>by
  have h0:f.args.length=0:=by rw[hok.2];rfl
  have h1:f.h.op<=13:=nod_leaf (by rw[<-h0];exact hok.1);have:=Y0 s hs hf hv K N hF hn1 hn7 out hout cr AR A SV AV AX kc ks kv kx B bw mb mo b0 c1 c2 c3 f AF cf hok.1 h1 (fun _=>List.replicate (ptn s) false) (fun _=>LH) w hE (fun i hi=>by omega);rw[Lh h0] at this;exact this
 | d+1,f,AF,cf,w,hok,hA,hE=>
  Y0 s hs hf hv K N hF hn1 hn7 out hout cr AR A SV AV AX kc ks kv kx B bw mb mo b0 c1 c2 c3 f AF cf hok.1 hok.2.1 (Z2 s out d) (evlE_len s out d) w hE (fun i hi=>by
   obtain⟨b,o,e,hlt,hr⟩:=hA (by omega);obtain⟨A',c',h1,h2⟩:=hr i hi
   exact⟨b,o,A',c',e,fun X hX j v hv=>(hX.cell hlt).trans (h1 j v hv),fun X hX hEX=>Qe s hs hf hv K N hF hn1 hn7 out hout cr AR A SV AV AX kc ks kv kx B bw mb mo b0 c1 c2 c3 d _ A' c' X (hok.2.2 _ (Ld hi)) (h2.keep hX) hEX⟩)
end
section
open Go.RowKit Go.Shelf
attribute [local go_sem] Oper.semAt_some
theorem jz(s:Sy)(hs:LowS s)(hf:yM s.p)(g:Int)(set:List Bool)(A SV AV AX AB:Bb)(kc ks kv kx kb:Nat)(hsl:set.length<=1000000)(w:Ba)(hS:SyAt w w.heap.size A SV AV AX s)(hB0:BAt w w.heap.size AB set) :
  Calls Tryz.prog 16 #[.agg (s.vs_ A kc SV ks AV kv AX kx),.int .i64 g,.slice AB set.length kb] w (jl (vf s g set) w):=by
 obtain⟨w1,hw1,d0,hs1,hB⟩:=zm w (s.vs_ A kc SV ks AV kv AX kx) 35;have HO:=zH (uL s hs hf g set A SV AV AX AB kc ks kv kx kb hsl w1 (hS.up hB));have HBA:Hid (∀X,Below w1.heap.size w1 X->BAt X X.heap.size AB set):=fun X hX=>(((hB0.keep hB).more hB.size).keep hX).more hX.size
 have HC:Hid (zJ s g set=0->∃G:Nat,g=(G:Int)/\set.length=ptn s/\vf s g set=(evG s g set,0)/\∀(bw:Nat) (X:Ba),Below w1.heap.size w1 X->KwAt X X.heap.size bw (ptn s) s.n.toNat (zX s)->Calls Tryz.prog 45 #[.pointer (some ⟨bw,0,none⟩),.int .i64 (G:Int),.slice AB (ptn s) kb] X (RetB (evG s g set) X)):=fun h=>by
  obtain⟨G,hg,hG,hN,hn1,hn7,hl,hps⟩:=xv hf h;refine⟨G,hg,hl,Lf (by simpa using h),fun bw X hX hK=>?_⟩;unfold evG;rw[hps];exact kn bw (ptn s) s.n.toNat (zX s) hn1 (by omega) hN G hG AB kb set hl X hK (HBA.out X hX)
 unfold RetB at HC;obtain⟨E,hE⟩:=Ki (zJ s g set);obtain⟨R,hR⟩:=Ki (vf s g set);have HR0:Hid (E≠0->R=([],E)):=fun h=>by rw[<-hR,<-hE] at *;exact Lh h
 unfold RetOp at HO;unfold jl;rw[hE] at HO HC;rw[hR] at HC ⊢;obtain⟨n,hn⟩:=Ki (ptn s);rw[hn] at HO HC;unfold Sy.vs_ at hw1 d0 HO ⊢;have HW1:=zH hw1;have HB:=zH hB;obtain⟨p0,p1,p2,p3,p4,p5,p6,p7,p8,p9⟩:=zw (d0);clear hw1 d0 hB hB0 hE hR hS hs hf HBA hn;go_enter Tryz.func16,Tryz.ntmps16;go_wp2_with fail;rw[HW1.out];go_wp2_with fail;refine HO.out.mono ?_;rintro e w2 ⟨hb2,hcase⟩;have HB2:=zH hb2;clear p0 p1 p2 p3 p4 p5 p6 p7 p8 p9 hb2 HO HW1;rcases hcase with ⟨h0,rfl⟩ | ⟨rfl,bw,rfl,hK⟩
 . have e0:(E != 0)=true:=by simpa using h0
   have hRR:Hid (R=([],E)):=HR0.out h0;clear HC HR0;go_wp2_with fail
   go_ret2
   rw[hRR.out];exact⟨none,0,rfl,fun h=>absurd h (by simp),Lc HB.out HB2.out⟩
 obtain⟨G,rfl,hl,hRR,hc⟩:=HC.out rfl;have HCC:=zH (hc bw w2 HB2.out hK);have HRR:=zH hRR;rw[hl];clear HC hc hK hl HR0 hRR;go_wp2_with fail;refine HCC.out.mono ?_;rintro e w3 ⟨g3,rfl,hg3,hr3,hb3⟩;have HR3:=zH hr3;have HB3:=zH (HB.out.trans ((Lc HB2.out hb3).mono HB.out.size));clear hr3 hb3 HCC;go_wp2_with fail
 go_ret2
 rw[HRR.out];exact⟨some ⟨g3,0,none⟩,_,rfl,HR3.out.at_ HR3.out.lt,HB3.out⟩
theorem qZ(s:Sy)(hs:LowS s)(hf:yM s.p)(g:Int)(set:List Bool)(A SV AV AX AB:Bb)(kc ks kv kx kb:Nat)(hsl:set.length<=1000000)(w:Ba)(hS:SyAt w w.heap.size A SV AV AX s)(hB0:BAt w w.heap.size AB set) :
  Calls Tryz.prog 18 #[.agg (s.vs_ A kc SV ks AV kv AX kx),.int .i64 g,.slice AB set.length kb] w (jl (gc s g set) w):=by
 obtain⟨w1,hw1,d0,hs1,hB⟩:=zm w (s.vs_ A kc SV ks AV kv AX kx) 35;have HO:=zH (Zy s hs hf g set A SV AV AX AB kc ks kv kx kb hsl w1 (hS.up hB));have HBA:Hid (∀X,Below w1.heap.size w1 X->BAt X X.heap.size AB set):=fun X hX=>(((hB0.keep hB).more hB.size).keep hX).more hX.size
 have HC:Hid (zJ s g set=0->set.length=ptn s/\gc s g set=(yn (ptn s) (xJ s g) set,0)/\∀(bw mb:Nat) (X:Ba),Below w1.heap.size w1 X->KwD s A SV AV AX kc ks kv kx w1.heap.size X bw mb 0 (fun _=>none)->Calls Tryz.prog 46 #[.pointer (some ⟨bw,0,none⟩),.int .i64 g,.slice AB (ptn s) kb] X fun e w'=>∃g' m' F',e=.returned (.slice (some ⟨g',0,none⟩) (ptn s) (ptn s))/\X.heap.size<=g'/\BRow w' g' (yn (ptn s) (xJ s g) set)/\KwD s A SV AV AX kc ks kv kx w1.heap.size w' bw mb m' F'/\Wrote (fun z=>z=mb) X w'):=fun h=>by
  obtain⟨G,hg,hG,hN,hn1,hn7,hl,hps⟩:=xv hf h;exact⟨hl,Lf (by simpa using h),fun bw mb X hX hK=>Qg s hs hf A SV AV AX kc ks kv kx w1.heap.size g (uQ h).1 (by omega) AB kb set hl bw mb 0 _ X hK (HBA.out X hX)⟩
 have HSY:Hid (∀X,Below w1.heap.size w1 X->SyAt X w1.heap.size A SV AV AX s):=fun X hX=>(hS.up hB).keep hX
 have HCL:Hid (∀q,(zX s q).length=ptn s):=fun q=>xG s q
 obtain⟨E,hE⟩:=Ki (zJ s g set);obtain⟨R,hR⟩:=Ki (gc s g set);have HR0:Hid (E≠0->R=([],E)):=fun h=>by rw[<-hR,<-hE] at *;exact Lh h
 unfold RetOpG at HO;unfold jl;rw[hE] at HO HC;rw[hR] at HC ⊢;obtain⟨n,hn⟩:=Ki (ptn s);have HNN:=zH hn;rw[hn] at HO HC;unfold Sy.vs_ at hw1 d0 HO ⊢;have HW1:=zH hw1;have HB:=zH hB;obtain⟨p0,p1,p2,p3,p4,p5,p6,p7,p8,p9⟩:=zw (d0);clear hw1 d0 hB hB0 hE hR hS hs hf HBA hn;go_enter Tryz.func18,Tryz.ntmps18;go_wp2_with fail;rw[HW1.out];go_wp2_with fail;refine HO.out.mono ?_;rintro e w2 ⟨hb2,hcase⟩;have HB2:=zH hb2;clear p0 p1 p2 p3 p4 p5 p6 p7 p8 p9 hb2 HO HW1;rcases hcase with ⟨h0,rfl⟩ | ⟨rfl,bw,rfl,hK,mb,hmb,hmm,AQ,cQ,hbx⟩
 . have e0:(E != 0)=true:=by simpa using h0
   have hRR:Hid (R=([],E)):=HR0.out h0;clear HC HR0;go_wp2_with fail
   go_ret2
   rw[hRR.out];exact⟨none,0,rfl,fun h=>absurd h (by simp),Lc HB.out HB2.out⟩
 obtain⟨hl,hRR,hc⟩:=HC.out rfl;have HKD:Hid (KwD s A SV AV AX kc ks kv kx w1.heap.size w2 bw mb 0 (fun _=>none)):=⟨by rw[HNN.out];exact hK,⟨AQ,cQ,by rw[HNN.out];exact hbx⟩,hmm,fun g v h=>(by cases h),HSY.out w2 HB2.out,HB2.out.size,hmb⟩;have HCC:=zH (hc bw mb w2 HB2.out HKD.out);have HRR:=zH hRR;rw[hl];clear HC hc hK hl HR0 hRR hmm hbx HSY;go_wp2_with fail;refine HCC.out.mono ?_;rintro e w3 ⟨g3,m3,F3,rfl,hg3,hr3,hk3,hw3⟩;have HR3:=zH hr3;have HK3:=zH hk3
 have HB3:Hid (Below w.heap.size w w3):=by
  have h1:=HB.out.size;have h2:=HB2.out.size;have h3:=hw3.size;exact HB.out.trans ⟨hw3.os.trans HB2.out.os,hw3.tape.trans HB2.out.tape,hw3.output.trans HB2.out.output,by omega,fun k hk=>(hw3.block k (by omega) (by show ¬k=mb;omega)).trans (HB2.out.block k (by omega))⟩
 clear hr3 hk3 hw3 HCC;go_wp2_with fail
 go_ret2
 rw[HRR.out];refine⟨some ⟨g3,0,none⟩,n,?_,HR3.out.at_ HR3.out.lt,HB3.out⟩;dsimp only;rw[zT]
 rfl
theorem j6(s:Sy)(hs:LowS s)(hf:yM s.p)(q:Int)(set:List Bool)(A SV AV AX AB:Bb)(kc ks kv kx kb:Nat)(_hsl:set.length<=1000000)(w:Ba)(hS:SyAt w w.heap.size A SV AV AX s)(hB0:BAt w w.heap.size AB set) :
  Calls Tryz.prog 13 #[.agg (s.vs_ A kc SV ks AV kv AX kx),.int .i64 q,.slice AB set.length kb] w (jl (ui s q set) w):=by
 obtain⟨w1,hw1,d0,hs1,hB⟩:=zm w (s.vs_ A kc SV ks AV kv AX kx) 35;have HO:=zH (Jj s hs hf A SV AV AX kc ks kv kx w1 (hS.up hB));have HBA:Hid (∀X,Below w1.heap.size w1 X->BAt X X.heap.size AB set):=fun X hX=>(((hB0.keep hB).more hB.size).keep hX).more hX.size
 have HVF:Hid (zZ s=0->∃N:Nat,s.n=(N:Int)/\N<=5/\ptn s<=700):=fun h=>by
  obtain⟨_,K,N,hF⟩:=yv hf h;have hk:=hF.k;have hk6:=hF.k6;have:=LM hF.lx (show s.p.k.toNat+1<=7 by omega);exact⟨N,hF.n,hF.n5,by unfold ptn;omega⟩
 have HE:Hid (ui s q set=if zZ s≠0 then ([],zZ s) else if q<0\/s.n<=q then ([],2) else if set.length≠ptn s then ([],15) else (yn (ptn s) (zX s q.toNat) set,0)):=rfl;obtain⟨R,hR⟩:=Ki (ui s q set);rw[hR] at HE ⊢;obtain⟨r,hr⟩:=Ki (zZ s);unfold RetKw at HO;unfold jl;rw[hr] at HO HVF HE;obtain⟨n,hn⟩:=Ki (ptn s);rw[hn] at HO HVF HE;unfold Sy.vs_ at hw1 d0 HO ⊢;have HW1:=zH hw1;have HB:=zH hB;have HD:=zH d0;obtain⟨p0,p1,p2,p3,p4,p5,p6,p7,p8,p9⟩:=zw (d0);clear hw1 d0 hB hB0 hR hr hS hs hf hn;go_enter Tryz.func13,Tryz.ntmps13;go_wp2_with fail;rw[HW1.out];go_wp2_with fail;refine HO.out.mono ?_;rintro e w2 ⟨hb2,hcase⟩;have HB2:=zH hb2;have HBF:=zH (Lc HB.out hb2);have HD2:=zH (La hb2 HD.out);clear p0 p1 p2 p3 p4 p5 p6 p7 p8 p9 hb2 HO HW1 HD;rcases hcase with ⟨h0,rfl⟩ | ⟨rfl,bw,rfl,hK⟩
 . have e0:(r != 0)=true:=by simpa using h0
   have hRR:Hid (R=([],r)):=HE.out.trans (Lh h0);clear HE HVF;go_wp2_with fail
   go_ret2
   rw[hRR.out];exact⟨none,0,rfl,fun h=>absurd h (by simp),HBF.out⟩
 obtain⟨N,hN,hN5,hn7⟩:=HVF.out rfl;have HE:Hid (R=_):=HE.out.trans (Lf (by simp));rw[hN] at HE;have q7:w2.cell? ⟨w.heap.size,7,none⟩=some (.int .i64 (N:Int)):=by rw[<-hN];exact zh HD2.out 7 rfl
 have l7:=zj HD2.out;have HK:=zH hK;have z10:=hK.size;have lK:=hK.lt;have HNN:=zH hN;clear HVF hK hN
 by_cases hq0:q<0
 . have e0:decide (q<0)=true:=Lk hq0
   have hRR:Hid (R=([],2)):=HE.out.trans (Lh (.inl hq0));clear HE z10;go_wp2_with fail
   go_ret2
   rw[hRR.out];exact⟨none,0,rfl,fun h=>absurd h (by simp),HBF.out⟩
 have e0:decide (q<0)=false:=Li hq0
 by_cases hq1:(N:Int)<=q
 . have e1:decide (q>=(N:Int))=true:=Lk hq1
   have hRR:Hid (R=([],2)):=HE.out.trans (Lh (.inr hq1));clear HE z10;go_wp2_with fail
   go_ret2
   rw[hRR.out];exact⟨none,0,rfl,fun h=>absurd h (by simp),HBF.out⟩
 have e1:decide (q>=(N:Int))=false:=Li (by omega);have HE:Hid (R=_):=HE.out.trans (Lf (by omega))
 by_cases hl:set.length=n
 case neg=>
  have e2:((set.length:Int) != (n:Int))=true:=by simpa using(by omega:¬(set.length:Int)=(n:Int))
  have e3:¬(set.length:Int)=(n:Int):=by omega
  have hRR:Hid (R=([],15)):=HE.out.trans (Lh hl);clear HE;go_wp2_with fail
  go_ret2
  rw[hRR.out];exact⟨none,0,rfl,fun h=>absurd h (by simp),HBF.out⟩
 have hRR:Hid (R=(yn n (zX s q.toNat) set,0)):=HE.out.trans (Lf (by simpa using hl));obtain⟨k,rfl⟩:=Lr (show 0<=q by omega);rw[Lo] at hRR;have HCC:=zH (uN bw n s.n.toNat (zX s) (by omega) k (by rw[HNN.out,Lo];omega) AB kb set hl w2 HK.out (HBA.out w2 HB2.out));have hll:(set.length:Int)=(n:Int):=by omega
 rw[hl];unfold RetB at HCC;clear HE hl hll;go_wp2_with fail;refine HCC.out.mono ?_;rintro e w3 ⟨g3,rfl,hg3,hr3,hb3⟩;have HR3:=zH hr3;have HB3:=zH (Lc HBF.out hb3);clear hr3 hb3 HCC;go_wp2_with fail
 go_ret2
 rw[hRR.out];exact⟨some ⟨g3,0,none⟩,_,rfl,HR3.out.at_ HR3.out.lt,HB3.out⟩
def evaE(s:Sy)(out:List Int)(d:Nat)(f:Fm):List Bool×Int:=
 if zZ s≠0 then ([],zZ s) else if 0<out.length/\out.length≠s.vs.length then ([],15) else if je s.n d f≠0 then ([],je s.n d f) else if Xw d f=true then ([],11) else (Z2 s out d f,0)
theorem fml_nods{n:Int}{d:Nat}{f:Fm}(h:je n d f=0):jI n.toNat d f=0:=by
 unfold je at h
 split at h
 . cases h
 . split at h
   . rename_i h2;exact absurd h h2
   . exact h
theorem kEval_any(s:Sy)(hs:LowS s)(hf:yM s.p)(out:List Int)(d:Nat)(f:Fm)(hsz:(qg d f).1<=1000000)(A SV AV AX AF AR:Bb)(kc ks kv kx cf cr:Nat)(w:Ba)(hT:RowTab w)(hS:SyAt w w.heap.size A SV AV AX s)(hO:IAt w w.heap.size AR out)(hA:FsAt w w.heap.size d AF f.args) :
  Calls Tryz.prog 28 #[.agg (s.vs_ A kc SV ks AV kv AX kx),.agg #[.slice AR out.length cr],.agg (f.vs AF cf)] w (jl (evaE s out d f) w):=by
 obtain⟨wa,hwa,da,hsa,hBa⟩:=zm w (s.vs_ A kc SV ks AV kv AX kx) 35;obtain⟨wb,hwb,db,hsb,hBb⟩:=zm wa #[.slice AR out.length cr] 57;obtain⟨w1,hw1,dc,hsc,hBc⟩:=zm wb (f.vs AF cf) 60;have hB:Below w.heap.size w w1:=(hBa.trans (hBb.mono (by omega))).trans (hBc.mono (by omega));have da:w1.heap[w.heap.size]?=some (.cells (s.vs_ A kc SV ks AV kv AX kx) 35 (0,0)):=Lb hBc (by omega) (Lb hBb (by omega) da);have db:w1.heap[w.heap.size+1]?=some (.cells #[.slice AR out.length cr] 57 (0,0)):=by rw[<-hsa];exact Lb hBc (by omega) db
 have dc:w1.heap[w.heap.size+1+1]?=some (.cells (f.vs AF cf) 60 (0,0)):=by rw[<-hsa,<-hsb];exact dc
 have hz1:w1.heap.size=w.heap.size+3:=by omega
 have hT1:=hT.1;have HV:=zH (wg s hs hf A SV AV AX kc ks kv kx w1 (hS.up hB));have HE:Hid (evaE s out d f=if zZ s≠0 then ([],zZ s) else if 0<out.length/\out.length≠s.vs.length then ([],15) else if je s.n d f≠0 then ([],je s.n d f) else if Xw d f=true then ([],11) else (Z2 s out d f,0)):=rfl;have HVF:=zH (fun h=>yv hf h);have HAF:Hid (∀X,Below w1.heap.size w1 X->FsAt X w1.heap.size d AF f.args):=fun X hX=>((hA.keep hB).more hB.size).keep hX
 have HFC:=zH (fun (X:Ba) (hX:Below w1.heap.size w1 X)=>Xe s.n d f AF cf X ((HAF.out X hX).more hX.size) hsz);have HTF:=zH (fun (X:Ba) (hX:Below w1.heap.size w1 X)=>XS d f AF cf X (hT.keep (Lc hB hX) hT1) ((HAF.out X hX).more hX.size) hsz);have HNW:=zH (fun (X:Ba) (hX:Below w1.heap.size w1 X)=>jx s hs hf A SV AV AX kc ks kv kx X ((hS.up hB).up hX));have HSY:Hid (∀X,Below w1.heap.size w1 X->SyAt X w1.heap.size A SV AV AX s):=fun X hX=>(hS.up hB).keep hX
 have HOU:Hid (∀X,Below w1.heap.size w1 X->IAt X w1.heap.size AR out):=fun X hX=>((hO.keep hB).more hB.size).keep hX
 have HEV:=zH (fun (h:zZ s=0) (hout:¬(0<out.length/\out.length≠s.vs.length)) (hE:je s.n d f=0) (ht:Xw d f=false)=>(by
  obtain⟨_,K,N,hF⟩:=yv hf h;have hp:=hF.n1;have hn:=hF.n
  obtain⟨f1,f2,_⟩:=XZ (s:=s) (g:=0) hf (by
   unfold zQ;rw[Lf (by rw[h];simp),Lf];have:(0:Int)<2^s.n.toNat:=Int.pow_pos (by decide)
   omega)
  have hN:s.n.toNat=N:=by omega
  have hok:evOk N d f:=evOk_of (HAF.out w1 (Lm _ _)) (by rw[<-hN];exact fml_nods hE) ht
  exact⟨f1,f2,fun B bw mb mo b0 c1 c2 c3 X hX hE=>Qe s hs hf h K N hF f1 f2 out hout cr AR A SV AV AX kc ks kv kx B bw mb mo b0 c1 c2 c3 d f AF cf X hok hX hE⟩:1<=ptn s/\ptn s<=700/\∀(B bw mb mo b0 c1 c2 c3:Nat) (X:Ba),FsAt X B d AF f.args->EvC s out AR A SV AV AX kc ks kv kx B bw mb mo b0 c1 c2 c3 X ->
   Calls Tryz.prog 60 #[.pointer (some ⟨bw,0,none⟩),.agg #[.slice AR out.length cr],.agg (f.vs AF cf),.map (some mo)] X (RetEv s out AR A SV AV AX kc ks kv kx B bw mb mo b0 c1 c2 c3 (Z2 s out d f) X)))
 have HNS:Hid ((Z2 s out d f).length=ptn s):=evlE_len s out d f;obtain⟨E,hE⟩:=Ki (evaE s out d f);unfold jl;rw[hE] at HE ⊢;obtain⟨r,hr⟩:=Ki (zZ s);unfold JH at HNW;rw[hr] at HV HE HVF HNW HEV;unfold Sy.vs_ at hwa da HV HNW ⊢;unfold Fm.vs at hw1 dc HFC HTF HEV ⊢;have HWA:=zH hwa;have HWB:=zH hwb;have HWC:=zH hw1;have HB:=zH hB
 have HBX:Hid (∀X,Below w1.heap.size w1 X->X.heap[w.heap.size]?=some (.cells #[.int .i64 s.p.t.n,.int .i64 s.p.t.ins,.int .i64 s.p.t.outs,.slice A s.p.t.cases.length kc,.int .i64 s.p.a.n,.slice SV s.p.a.sts.length ks,.int .i64 s.p.k,.int .i64 s.n,.slice AV s.vs.length kv,.slice AX s.xs.length kx] 35 (0,0))/\X.heap[w.heap.size+1]?=some (.cells #[.slice AR out.length cr] 57 (0,0))/\X.heap[w.heap.size+1+1]?=some (.cells #[.int .i64 f.h.op,.int .i64 f.h.p,.int .i64 f.h.o,.int .i64 f.h.v,.int .i64 f.h.g,.slice AF f.args.length cf] 60 (0,0))):=
  fun X hX=>⟨Lb hX (by omega) da,Lb hX (by omega) db,Lb hX (by omega) dc⟩
 obtain⟨p0,p1,p2,p3,p4,p5,p6,p7,p8,p9⟩:=zw (da);clear hwa hwb hw1 da db dc hsa hsb hsc hBa hBb hBc hB hT hT1 hS hO hA hsz hE hr hs hf;go_enter Tryz.func28,Tryz.ntmps28;go_upto_region 1 with fail
 rw[HWA.out,HWB.out,HWC.out];go_wp2_with fail;refine HV.out.mono ?_;rintro e w2 ⟨rfl,hb2⟩;have G2:=zH hb2;clear hb2 HV HWA HWB HWC p0 p1 p2 p3 p4 p5 p6 p7 p8 p9
 by_cases h0:r=0
 case neg=>
  have e0:(r != 0)=true:=by simpa using h0
  have hR:Hid (E=([],r)):=HE.out.trans (Lh h0);have HBF:=zH (Lc HB.out G2.out);clear HE HVF HFC HTF HNW HSY HOU HAF HEV HNS HBX;go_wp2_with fail
  go_ret2
  rw[hR.out];exact⟨none,0,rfl,fun h=>absurd h (by simp),HBF.out⟩
 subst h0;have HE2:=zH (HE.out.trans (Lf (by simp)));have HEV2:=zH (HEV.out rfl);clear HE HVF HEV;obtain⟨D0,D1,D2⟩:=HBX.out _ G2.out;have p8:=zh D0 8 rfl;have r0:=zh D1 0 rfl;clear D0 D1 D2;go_upto_region 5 with fail
 by_cases hbad:0<out.length/\out.length≠s.vs.length
 case pos=>
  have e0:(0:Int)<(out.length:Int):=by omega
  have e1:((out.length:Int) != (s.vs.length:Int))=true:=by simp;omega
  have HBAD:=zH hbad;have hR:Hid (E=([],15)):=HE2.out.trans (Lh hbad);have HBF:=zH (Lc HB.out G2.out);clear HE2 HEV2 HFC HTF HNW HSY HOU HAF HNS HBX hbad;go_wp2_with fail
  go_ret2
  rw[hR.out];exact⟨none,0,rfl,fun h=>absurd h (by simp),HBF.out⟩
 have HE3:=zH (HE2.out.trans (Lf hbad));have HEV3:=zH (HEV2.out hbad);clear HE2 HEV2
 go_cut [30] from 21 (fun s30 wx=>s30=.bool false/\wx=w2)
 case first=>
  have hb2:out.length=0\/out.length=s.vs.length:=by omega
  by_cases h1:out.length=0
  . have e0:¬(0:Int)<(out.length:Int):=by omega
    clear hbad hb2 h1 HFC HTF HNW HSY HOU HAF HNS HBX HE3 HEV3;go_wp2_with fail
    go_meet
    exact⟨rfl,rfl⟩
  . have e0:(0:Int)<(out.length:Int):=by omega
    have e1:((out.length:Int) != (s.vs.length:Int))=false:=by simp;omega
    clear hbad hb2 h1 HFC HTF HNW HSY HOU HAF HNS HBX HE3 HEV3;go_wp2_with fail
    go_meet
    exact⟨rfl,rfl⟩
 case rest=>
 obtain⟨rfl,rfl⟩:=hcut;clear p8 r0 hbad;have HC:=zH (HFC.out _ G2.out);obtain⟨q,hq⟩:=Ki (je s.n d f);rw[hq] at HC HE3 HEV3;obtain⟨D0,D1,D2⟩:=HBX.out _ G2.out;have p7:=zh D0 7 rfl;obtain⟨q0,q1,q2,q3,q4,q5,_⟩:=Kg (D2);clear D0 D1 D2 HFC hq;go_wp2_with fail;refine HC.out.mono ?_;rintro e w3 ⟨rfl,hb3⟩;have G3:=zH (Lc G2.out hb3);clear hb3 HC p7 q0 q1 q2 q3 q4 q5
 by_cases h0:q=0
 case neg=>
  have e0:(q != 0)=true:=by simpa using h0
  have hR:Hid (E=([],q)):=HE3.out.trans (Lh h0);have HBF:=zH (Lc HB.out G3.out);clear HE3 HEV3 HTF HNW HSY HOU HAF HNS HBX;go_wp2_with fail
  go_ret2
  rw[hR.out];exact⟨none,0,rfl,fun h=>absurd h (by simp),HBF.out⟩
 subst h0;have HE4:=zH (HE3.out.trans (Lf (by simp)));have HEV4:=zH (HEV3.out rfl);clear HE3 HEV3;have HC:=zH (HTF.out _ G3.out);obtain⟨t,ht⟩:=Ki (Xw d f);rw[ht] at HC HE4 HEV4;obtain⟨D0,D1,D2⟩:=HBX.out _ G3.out;obtain⟨q0,q1,q2,q3,q4,q5,_⟩:=Kg (D2);clear D0 D1 D2 HTF ht;go_wp2_with fail;refine HC.out.mono ?_;rintro e w4 ⟨rfl,hb4⟩;have G4:=zH (Lc G3.out hb4);clear hb4 HC q0 q1 q2 q3 q4 q5
 cases t with
 | true=>
  have hR:Hid (E=([],11)):=HE4.out.trans (Lh rfl);have HBF:=zH (Lc HB.out G4.out);clear HE4 HEV4 HNW HSY HOU HAF HNS HBX;go_wp2_with fail
  go_ret2
  rw[hR.out];exact⟨none,0,rfl,fun h=>absurd h (by simp),HBF.out⟩
 | false=>
  have HE5:=zH (HE4.out.trans (Lf (by simp)));obtain⟨hn1,hn7,hcall⟩:=HEV4.out rfl;have HCL:=zH hcall;have HC:=zH (HNW.out _ G4.out);clear HE4 HEV4 HNW hcall;obtain⟨D0,D1,D2⟩:=HBX.out _ G4.out;obtain⟨p0,p1,p2,p3,p4,p5,p6,p7,p8,p9⟩:=zw (D0);clear D0 D1 D2;go_wp2_with fail;refine HC.out.mono ?_;rintro e w5 ⟨hb5,hcase⟩;have G5:=zH (Lc G4.out hb5);have hs45:=hb5.size;clear hb5 HC p0 p1 p2 p3 p4 p5 p6 p7 p8 p9;rcases hcase with ⟨h0,_⟩ | ⟨_,bw,rfl,hK,mb,hmb,hmm,AQ,cQ,hbx⟩
  . exact absurd rfl h0
  have hl4:=G4.out.size;have hl5:=G5.out.size;have HKD:Hid (KwD s A SV AV AX kc ks kv kx w1.heap.size w5 bw mb 0 (fun _=>none)):=⟨hK,⟨AQ,cQ,hbx⟩,hmm,fun g v h=>(by cases h),HSY.out _ G5.out,G5.out.size,by omega⟩;have hmlt:=hmm.lt;have hd5:Below w5.heap.size w5 w5.drew:=(Lm _ w5).drew;have G5d:Hid (Below w1.heap.size w1 w5.drew):=G5.out.trans (hd5.mono hl5);have HOPS:=zH (kops_any bw w5.drew);clear hK hmm hbx;go_upto_region 15 with fail
  refine zx [(0,true),(1,true),(2,true),(3,true),(4,false),(5,false),(6,true),(7,true),(8,true),(9,true)] (fun X=>X.heap[w.heap.size]?=some (.cells #[.int .i64 s.p.t.n,.int .i64 s.p.t.ins,.int .i64 s.p.t.outs,.slice A s.p.t.cases.length kc,.int .i64 s.p.a.n,.slice SV s.p.a.sts.length ks,.int .i64 s.p.k,.int .i64 s.n,.slice AV s.vs.length kv,.slice AX s.xs.length kx] 35 (0,0))/\X.heap[w.heap.size+1]?=some (.cells #[.slice AR out.length cr] 57 (0,0))/\X.heap[w.heap.size+1+1]?=some (.cells #[.int .i64 f.h.op,.int .i64 f.h.p,.int .i64 f.h.o,.int .i64 f.h.v,.int .i64 f.h.g,.slice AF f.args.length cf] 60 (0,0))) (by kernel_rfl) (by kernel_rfl) (HBX.out _ G5d.out) ?_
  repeat
   apply zy rfl
   . rintro K' hK' X ⟨u1,u2,u3⟩
     have y0:=zh (u2) 0 rfl;obtain⟨z0,z1,z2,z3,z4,z5,_⟩:=Kg (u3);clear u1 u2 u3;go_simp;exact hK'
  refine zA rfl ?_;intro K' hK';go_simp;refine HOPS.out.mono ?_;rintro e w6 ⟨mo,m6,y1,y2,y3,rfl,hmo,hM6,hO6,hb6⟩;have hb56:Below w5.heap.size w5 w6:=hd5.trans hb6;have G6:=zH (G5.out.trans (hb56.mono hl5));have hmo':w5.heap.size<=mo:=hmo;have HC6:=zH (HCL.out w1.heap.size bw mb mo _ y1 y2 y3 w6 (HAF.out _ G6.out) ⟨⟨0,_,HKD.out.call hb56⟩,⟨m6,hM6⟩,hO6,by omega,HOU.out _ G6.out⟩);refine hK' _ _ (HBX.out _ G6.out) ?_;clear hK' K' hM6 hO6 HOPS;refine zA rfl ?_;intro K' hK';go_simp;refine HC6.out.mono ?_;rintro e w7 ⟨g7,c7,rfl,hg7,ho7,hE7,hW7⟩;have hl6:=G6.out.size;have hs7:=hW7.size;have G7:Hid (Below w1.heap.size w1 w7):=G6.out.trans (hW7.below (by omega) (fun k hk e=>by have:k=mb:=e;omega));refine hK' _ _ (HBX.out _ G7.out) ?_;have HO7:=zH ho7;have HBF:=zH (Lc HB.out G7.out);clear hK' K' ho7 hE7 hW7 HC6
  repeat
   apply zy rfl
   . rintro K' hK' X u
     clear u;go_simp;exact hK'
  refine zL ?_;go_wp2_with fail
  go_ret2
  rw[HE5.out];refine⟨some ⟨g7,0,none⟩,c7,?_,HO7.out.at_ HO7.out.lt,HBF.out⟩;dsimp only;rw[HNS.out]
  rfl
end
section
def ex7A:List Bool:=[false,false,false,false,false,false,false,true]
def JA:List Bool:=[false,true,false,true,false,true,false,true]
def ex7N:List Bool:=List.replicate 8 false
def ex7L:List Int:=[-1,-1,-1,-1,0,0,0,1]
def ex7F:Fm:=.mk ⟨13,0,0,0,3⟩ [.mk ⟨6,0,0,1,0⟩ []]
theorem ev_congr{n:Nat}{cls cls':Nat->List Int}:∀ {ps:List Nat} (_:∀q∈ps,cls q=cls' q) (o set:List Bool),ps.foldl (fun o p=>xC n o (yn n (cls p) set)) o=ps.foldl (fun o p=>xC n o (yn n (cls' p) set)) o
 | [],_,_,_=>rfl
 | q::ps,h,o,set=>by
  rw[Pw,Pw,h q (by simp)];exact ev_congr (fun p hp=>h p (by simp[hp])) _ _
theorem ex7_evg(a:List Bool):evG yz 3 a=evL 8 wY [0,1] a:=by
 unfold evG evL;rw[qy.1,qy.2.2];refine ev_congr (fun q hq=>?_) _ _;rcases LX.1 hq with rfl | hq
 . exact Yg.1
 . rw[LZ] at hq
   subst hq;exact Yg.2
theorem j8:evG yz 3=evL 8 wY [0,1]:=funext ex7_evg
theorem ex7_k0:ui yz 0 yr=(ex7A,0):=by
 unfold ui;rw[Yf,Jv.2,qy.2.2,show((0:Int)).toNat=0 from rfl,Yg.1];decide +kernel
theorem ex7_k1:ui yz 1 yr=(yr,0):=by
 unfold ui;rw[Yf,Jv.2,qy.2.2,show((1:Int)).toNat=1 from rfl,Yg.2];decide +kernel
theorem ex7_ev:vf yz 3 yr=(ex7A,0):=by
 unfold vf;rw[ub.1,ex7_evg];decide +kernel
theorem ex7_ds:gc yz 3 yr=(yr,0):=by
 unfold gc;have h:xJ yz 3=ex6C:=by decide +kernel
 rw[ub.1,qy.2.2,h];decide +kernel
theorem wh{F:Nat->List Bool}{M m:Nat}(h1:F (M+1)=F M)(h2:∀k,k<M->F (k+1)≠F k)(g1:F (m+1)=F m)(g2:∀k,k<m->F (k+1)≠F k):M=m:=by
 by_cases h:M<m
 . exact absurd h1 (g2 M h)
 . by_cases h':m<M
   . exact absurd g1 (h2 m h')
   . omega
theorem Jy:zD 8 (evL 8 wY [0,1]) yr (2+1)=zD 8 (evL 8 wY [0,1]) yr 2/\(∀k,k<2->zD 8 (evL 8 wY [0,1]) yr (k+1)≠zD 8 (evL 8 wY [0,1]) yr k)/\zD 8 (evL 8 wY [0,1]) yr 2=ex7N:=by decide +kernel
theorem Jz:zS 8 (evL 8 wY [0,1]) yr (2+1)=zS 8 (evL 8 wY [0,1]) yr 2/\(∀k,k<2->zS 8 (evL 8 wY [0,1]) yr (k+1)≠zS 8 (evL 8 wY [0,1]) yr k)/\xV 8 (evL 8 wY [0,1]) yr 2=ex7L:=by decide +kernel
theorem ex7_co{M:Nat}(h1:zD (ptn yz) (evG yz 3) yr (M+1)=zD (ptn yz) (evG yz 3) yr M)(h2:∀k,k<M->zD (ptn yz) (evG yz 3) yr (k+1)≠zD (ptn yz) (evG yz 3) yr k):M=2/\zD (ptn yz) (evG yz 3) yr M=ex7N:=by
 rw[j8,qy.2.2] at h1;simp only[j8,qy.2.2] at h2;have e:=wh (F:=zD 8 (evL 8 wY [0,1]) yr) h1 h2 Jy.1 Jy.2.1;subst e;rw[j8,qy.2.2];exact⟨rfl,Jy.2.2⟩
theorem ex7_le{M:Nat}(h1:zS (ptn yz) (evG yz 3) yr (M+1)=zS (ptn yz) (evG yz 3) yr M)(h2:∀k,k<M->zS (ptn yz) (evG yz 3) yr (k+1)≠zS (ptn yz) (evG yz 3) yr k):xV (ptn yz) (evG yz 3) yr M=ex7L:=by
 rw[j8,qy.2.2] at h1;simp only[j8,qy.2.2] at h2;have e:=wh (F:=zS 8 (evL 8 wY [0,1]) yr) h1 h2 Jz.1 Jz.2.1;subst e;rw[j8,qy.2.2];exact Jz.2.2
theorem ex7_eva:evaE yz [] 1 ex7F=(JA,0):=by
 unfold evaE;have h2:je yz.n 1 ex7F=0:=by rw[Jv.2];decide +kernel
 have h3:Xw 1 ex7F=false:=by decide +kernel
 have h4:gj yz [] ⟨6,0,0,1,0⟩=JA:=by decide +kernel
 have h5:Z2 yz [] 1 ex7F=JA:=by
  show Z1 yz ⟨13,0,0,0,3⟩ (gj yz [] ⟨6,0,0,1,0⟩) (Z2 yz [] 0 default)=JA;rw[h4];show zD (ptn yz) (evG yz 3) JA (ptn yz)=JA;rw[j8,qy.2.2];decide +kernel
 rw[Yf,h2,h3,h5]
 rfl
end
section
open Go.RowKit Go.Shelf
attribute [local go_sem] Oper.semAt_some
theorem jY(A B:Bb)(ca cb n:Nat)(hn:n<=100000)(a b:List Bool)(ha:a.length=n)(hb:b.length=n)(w:Ba)(hA:BAt w w.heap.size A a)(hB:BAt w w.heap.size B b) :
  Calls Tryz.prog 34 #[.slice A n ca,.slice B n cb] w (RetB (xC n a b) w):=by
 have HA:=zH hA;have HLa:=zH ha;have HB:=zH hB;have HLb:=zH hb;have hmk:=xz n hn;obtain⟨rs,hrs⟩:=Ki (xC n a b);have hrl:rs.length=n:=by rw[<-hrs];exact yi ..
 have HRL:=zH hrl
 have HAT:Hid (∀k (h:k<n),rs[k]'(by rw[HRL.out];exact h)=(a[k]'(by rw[HLa.out];exact h)&&b[k]'(by rw[HLb.out];exact h))):=fun k h=>by
  subst hrs;rw[gt h,zn (by omega),zn (by omega)]
 unfold RetB;rw[hrs,hrl];clear hA hB ha hb hrs;go_enter Tryz.func34,Tryz.ntmps34;go_upto_region 2 with fail
 obtain⟨w3,hw3,d3,hs3,hB3⟩:=zm w (xI (List.replicate n false)) 4;rw[hw3];have HA3:=zH (HA.out.keep hB3);have HB3:=zH (HB.out.keep hB3);have HW3:=zH hB3;have HZ0:Hid (BRow w3 w.heap.size (yD rs 0)):=by rw[kd,HRL.out];exact d3
 clear hw3 d3 hB3 hmk HA HB hrl;obtain⟨g,hg⟩:=Ki w.heap.size;rw[hg] at HA3 HB3 HW3 HZ0 hs3 ⊢;go_wp2_with fail
 go_loopw [6] (fun i wr=>∃k:Nat,k<=n/\i=.int .i64 (k:Int)/\Hid (BRow wr g (yD rs k))/\Hid (Below g w3 wr)) (fun i _=>n-(intOf i).toNat)
 case atStart=>exact⟨0,by omega,rfl,HZ0,Lm _ _⟩
 case round=>
  obtain⟨k,hk,rfl,hbr,hbw⟩:=hrel;clear HZ0;have hwk:IntKind.i64.wrap ((k:Int)+1)=((k+1:Nat):Int):=by rw[Ll];omega
  by_cases hlt:k<n
  . obtain⟨b1,o1,rfl,hb1,z0⟩:=(HA3.out.keep hbw.out).at_ k (by rw[HLa.out];exact hlt)
    obtain⟨b2,o2,rfl,hb2,z1⟩:=(HB3.out.keep hbw.out).at_ k (by rw[HLb.out];exact hlt);have hat:=HAT.out k hlt;obtain⟨x,hx⟩:=Ki (a[k]'(by rw[HLa.out];exact hlt));rw[hx] at z0 hat;obtain⟨y,hy⟩:=Ki (b[k]'(by rw[HLb.out];exact hlt));rw[hy] at z1 hat;have hkb:k<rs.length:=by rw[HRL.out];exact hlt
    have hml:=jg rs (N4 hkb);have y0:=zh hbr.out k (xH (yD rs k) k (by omega));have f0:=zi hbr.out k
    have HNEW:Hid (BRow (wr.setCell ⟨g,k,none⟩ (.bool (x&&y))) g (yD rs (k+1))):=by
     rw[<-hat,<-jf rs hkb];show _=_;rw[Ln wr _ k _ _ _ hbr.out,xT]
    have HBN:=zH (hbw.out.setCell (p:=⟨g,k,none⟩) (by show g<=g;omega) (.bool (x&&y)));obtain⟨u,hu⟩:=Ki ((yD rs k)[k]'(by omega));rw[hu] at y0;have hk0:(0:Int)<=(k:Int):=by omega
    have hk1:(k:Int)<(n:Int):=by omega
    have hl3:=zj hbr.out;clear hx hy hat hkb hml hbr hbw hu
    cases x with
    | false=>
     go_wp2_with fail
     go_roundw
     case rel=>exact⟨k+1,by omega,by go_num,HNEW,HBN⟩
     case measure=>simp[intOf];omega
    | true=>
     go_wp2_with fail
     go_roundw
     case rel=>exact⟨k+1,by omega,by go_num,HNEW,HBN⟩
     case measure=>simp[intOf];omega
  . obtain rfl:n=k:=by omega
    have hk1:¬(n:Int)<(n:Int):=by omega
    have HE:Hid (BRow wr g rs):=by have:=hbr.out;rwa[show yD rs n=rs by rw[<-HRL.out];exact jh rs] at this
    have HBE:=zH (HW3.out.trans hbw.out);clear hbr hbw HA3 HB3 HAT;subst hg;go_wp2_with fail;go_ret;exact⟨w.heap.size,rfl,Le _,HE.out,HBE.out⟩
theorem YG(A:Bb)(ca n:Nat)(hn:n<=100000)(a:List Bool)(ha:a.length=n)(w:Ba)(hA:BAt w w.heap.size A a) :
  Calls Tryz.prog 32 #[.slice A n ca] w (RetB (jH n a) w):=by
 have HA:=zH hA;have HLa:=zH ha;have hmk:=xz n hn;obtain⟨rs,hrs⟩:=Ki (jH n a);have hrl:rs.length=n:=by rw[<-hrs];exact qc ..
 have HRL:=zH hrl
 have HAT:Hid (∀k (h:k<n),rs[k]'(by rw[HRL.out];exact h)=!(a[k]'(by rw[HLa.out];exact h))):=fun k h=>by
  subst hrs;rw[<-zn (by rw[HRL.out];exact h) false,wH h,zn (by omega)]
 unfold RetB;rw[hrs,hrl];clear hA ha hrs;go_enter Tryz.func32,Tryz.ntmps32;go_upto_region 2 with fail
 obtain⟨w3,hw3,d3,hs3,hB3⟩:=zm w (xI (List.replicate n false)) 4;rw[hw3];have HA3:=zH (HA.out.keep hB3);have HW3:=zH hB3;have HZ0:Hid (BRow w3 w.heap.size (yD rs 0)):=by rw[kd,HRL.out];exact d3
 clear hw3 d3 hB3 hmk HA hrl;obtain⟨g,hg⟩:=Ki w.heap.size;rw[hg] at HA3 HW3 HZ0 hs3 ⊢;go_wp2_with fail
 go_loopw [4] (fun i wr=>∃k:Nat,k<=n/\i=.int .i64 (k:Int)/\Hid (BRow wr g (yD rs k))/\Hid (Below g w3 wr)) (fun i _=>n-(intOf i).toNat)
 case atStart=>exact⟨0,by omega,rfl,HZ0,Lm _ _⟩
 case round=>
  obtain⟨k,hk,rfl,hbr,hbw⟩:=hrel;clear HZ0;have hwk:IntKind.i64.wrap ((k:Int)+1)=((k+1:Nat):Int):=by rw[Ll];omega
  by_cases hlt:k<n
  . obtain⟨b1,o1,rfl,hb1,z0⟩:=(HA3.out.keep hbw.out).at_ k (by rw[HLa.out];exact hlt)
    have hat:=HAT.out k hlt;obtain⟨x,hx⟩:=Ki (a[k]'(by rw[HLa.out];exact hlt));rw[hx] at z0 hat;have hkb:k<rs.length:=by rw[HRL.out];exact hlt
    have hml:=jg rs (N4 hkb);have y0:=zh hbr.out k (xH (yD rs k) k (by omega));have f0:=zi hbr.out k
    have HNEW:Hid (BRow (wr.setCell ⟨g,k,none⟩ (.bool (!x))) g (yD rs (k+1))):=by
     rw[<-hat,<-jf rs hkb];show _=_;rw[Ln wr _ k _ _ _ hbr.out,xT]
    have HBN:=zH (hbw.out.setCell (p:=⟨g,k,none⟩) (by show g<=g;omega) (.bool (!x)));obtain⟨u,hu⟩:=Ki ((yD rs k)[k]'(by omega));rw[hu] at y0;have hk0:(0:Int)<=(k:Int):=by omega
    have hk1:(k:Int)<(n:Int):=by omega
    have hl3:=zj hbr.out;clear hx hat hkb hml hbr hbw hu
    cases x with
    | false=>
     go_wp2_with fail
     go_roundw
     case rel=>exact⟨k+1,by omega,by go_num,HNEW,HBN⟩
     case measure=>simp[intOf];omega
    | true=>
     go_wp2_with fail
     go_roundw
     case rel=>exact⟨k+1,by omega,by go_num,HNEW,HBN⟩
     case measure=>simp[intOf];omega
  . obtain rfl:n=k:=by omega
    have hk1:¬(n:Int)<(n:Int):=by omega
    have HE:Hid (BRow wr g rs):=by have:=hbr.out;rwa[show yD rs n=rs by rw[<-HRL.out];exact jh rs] at this
    have HBE:=zH (HW3.out.trans hbw.out);clear hbr hbw HA3 HAT;subst hg;go_wp2_with fail;go_ret;exact⟨w.heap.size,rfl,Le _,HE.out,HBE.out⟩
theorem ins_step{ls:List Int}{set:List Bool}{i j:Nat}:(∀m,m<j+1->ls.getD m 0=ls.getD i 0->set.getD m false=true)↔(∀m,m<j->ls.getD m 0=ls.getD i 0->set.getD m false=true)/\(ls.getD j 0=ls.getD i 0->set.getD j false=true):=by
 constructor
 . exact fun h=>⟨fun m hm=>h m (by omega),h j (by omega)⟩
 . rintro⟨h1,h2⟩ m hm
   by_cases e:m=j
   . subst e;exact h2
   . exact h1 m (by omega)
theorem YI(A B:Bb)(ca cb n:Nat)(hn:n<=100000)(ls:List Int)(set:List Bool)(ha:ls.length=n)(hb:set.length=n)(w:Ba)(hA:IAt w w.heap.size A ls)(hB:BAt w w.heap.size B set) :
  Calls Tryz.prog 47 #[.slice A n ca,.slice B n cb] w (RetB (yn n ls set) w):=by
 have HA:=zH hA;have HB:=zH hB;have HLa:=zH ha;have HLb:=zH hb;have hmk:=xz n hn;obtain⟨rs,hrs⟩:=Ki (yn n ls set);have hrl:rs.length=n:=by rw[<-hrs];exact zT ..
 have HRL:=zH hrl
 have HAT:Hid (∀i (h:i<n) (v:Bool),(v=true↔∀m,m<n->ls.getD m 0=ls.getD i 0->set.getD m false=true)->rs[i]'(by rw[HRL.out];exact h)=v):=fun i h v hv=>by
  subst hrs;rw[Yc h];exact Nl.2 (by rw[Ng];exact hv.symm)
 unfold RetB;rw[hrs,hrl];clear hA hB ha hb hrs;go_enter Tryz.func47,Tryz.ntmps47;go_upto_region 2 with fail
 obtain⟨w3,hw3,d3,hs3,hB3⟩:=zm w (xI (List.replicate n false)) 4;rw[hw3];have HA3:=zH (HA.out.keep hB3);have HB3:=zH (HB.out.keep hB3);have HW3:=zH hB3;have HZ0:Hid (BRow w3 w.heap.size (yD rs 0)):=by rw[kd,HRL.out];exact d3
 clear hw3 d3 hB3 hmk HA HB hrl;obtain⟨g,hg⟩:=Ki w.heap.size;rw[hg] at HA3 HB3 HW3 HZ0 hs3 ⊢;have HG:=zH hg;clear hg;go_wp2_with fail
 go_loopw [6] (fun i wr=>∃k:Nat,k<=n/\i=.int .i64 (k:Int)/\Hid (BRow wr g (yD rs k))/\Hid (Below g w3 wr)) (fun i _=>n-(intOf i).toNat)
 case atStart=>exact⟨0,by omega,rfl,HZ0,Lm _ _⟩
 case round=>
  obtain⟨k,hk,rfl,hbr,hbw⟩:=hrel;clear HZ0
  by_cases hlt:k<n
  . have hkb:k<rs.length:=by rw[HRL.out];exact hlt
    have hml:=jg rs (N4 hkb);have y0:=zh hbr.out k (xH (yD rs k) k (by omega));have f0:=zi hbr.out k
    have HNEW:Hid (BRow (wr.setCell ⟨g,k,none⟩ (.bool true)) g ((yD rs k).set k true)):=by
     show _=_;rw[Ln wr _ k _ _ _ hbr.out,xT]
    have HBN:=zH (hbw.out.setCell (p:=⟨g,k,none⟩) (by show g<=g;omega) (.bool true));obtain⟨u,hu⟩:=Ki ((yD rs k)[k]'(by omega));rw[hu] at y0;have hk0:(0:Int)<=(k:Int):=by omega
    have hk1:(k:Int)<(n:Int):=by omega
    have hl3:=zj hbr.out;have HML:=zH hml;clear hu hbr hbw hml hkb;go_wp2_with fail;obtain⟨w4,hw4⟩:=Ki (wr.setCell ⟨g,k,none⟩ (.bool true));rw[hw4] at HNEW HBN ⊢;clear hw4 y0 f0 hl3
    go_loopw [7] (fun j wr=>∃(m:Nat) (v:Bool),m<=n/\j=.int .i64 (m:Int)/\Hid (BRow wr g ((yD rs k).set k v))/\Hid (v=true↔∀q,q<m->ls.getD q 0=ls.getD k 0->set.getD q false=true)/\Hid (Below g w3 wr)) (fun j _=>n-(intOf j).toNat)
    case atStart=>exact⟨0,true,by omega,rfl,HNEW,⟨fun _ q h=>absurd h (by omega),fun _=>rfl⟩,HBN⟩
    case round=>
     obtain⟨m,v,hm,rfl,hbr,hv,hbw⟩:=hrel;clear HNEW HBN;have hwm:IntKind.i64.wrap ((m:Int)+1)=((m+1:Nat):Int):=by rw[Ll];omega
     by_cases hmt:m<n
     . obtain⟨b1,o1,rfl,hb1,z0⟩:=(HA3.out.keep hbw.out).at_ m (by rw[HLa.out];exact hmt)
       obtain⟨b1',o1',e1,_,z1⟩:=(HA3.out.keep hbw.out).at_ k (by rw[HLa.out];exact hlt)
       cases e1
       obtain⟨b2,o2,rfl,hb2,z2⟩:=(HB3.out.keep hbw.out).at_ m (by rw[HLb.out];exact hmt);have hx:ls.getD m 0=ls[m]'(by rw[HLa.out];exact hmt):=zn (by rw[HLa.out];exact hmt) 0;have hxk:ls.getD k 0=ls[k]'(by rw[HLa.out];exact hlt):=zn (by rw[HLa.out];exact hlt) 0;have hy:set.getD m false=set[m]'(by rw[HLb.out];exact hmt):=zn (by rw[HLb.out];exact hmt) false;rw[<-hx] at z0;rw[<-hxk] at z1;rw[<-hy] at z2;have HST:=zH (ins_step (ls:=ls) (set:=set) (i:=k) (j:=m));have hl3:=zj hbr.out;have hkf:k<((yD rs k).set k v).length:=by rw[Ri];have:=HML.out;rw[this];have:=HRL.out;omega
       have y0:=zh hbr.out k (xH ((yD rs k).set k v) k hkf);have f0:=zi hbr.out k
       have HNEW:Hid (BRow (wr.drewN 1 |>.setCell ⟨g,k,none⟩ (.bool false)) g ((yD rs k).set k false)):=by
        show _=_;rw[Ln (wr.drewN 1) _ k _ _ _ hbr.out,xT,List.set_set]
       obtain⟨u,hu⟩:=Ki (((yD rs k).set k v)[k]'hkf);rw[hu] at y0;obtain⟨x,hX⟩:=Ki (ls.getD m 0);obtain⟨xk,hXK⟩:=Ki (ls.getD k 0);obtain⟨y,hY⟩:=Ki (set.getD m false);rw[hX] at z0 HST;rw[hXK] at z1 HST hv;rw[hY] at z2 HST;have HXK:=zH hXK;have hm0:(0:Int)<=(m:Int):=by omega
       have hm1:(m:Int)<(n:Int):=by omega
       clear hx hxk hy hu hkf hX hY hXK
       by_cases hxe:x=xk
       . subst hxe
         have e1:decide (x=x)=true:=by simp
         cases y with
         | true=>
          have hv2:Hid (v=true↔∀q,q<m+1->ls.getD q 0=x->set.getD q false=true):=by
           rw[Hid,HST.out,hv.out];simp
          have hbr2:Hid (∀p,BRow (wr.drewN p) g ((yD rs k).set k v)):=fun p=>hbr.out
          have hbw2:Hid (∀p,Below g w3 (wr.drewN p)):=fun p=>zY hbw.out p
          clear hv HST hbr hbw HNEW y0 f0;go_wp2_with fail;go_quiet (fail);go_wp2_with fail
          go_roundw
          case rel=>exact⟨m+1,v,by omega,by go_num,hbr2.out _,by rw[HXK.out];exact hv2,hbw2.out _⟩
          case measure=>simp[intOf];omega
         | false=>
          have hv2:Hid (false=true↔∀q,q<m+1->ls.getD q 0=x->set.getD q false=true):=by
           rw[Hid,HST.out];simp
          have hbr2:Hid (∀p,BRow ((wr.drewN p).setCell ⟨g,k,none⟩ (.bool false)) g ((yD rs k).set k false)):=fun p=>by
           show _=_;rw[Ln (wr.drewN p) _ k _ _ _ hbr.out,xT,List.set_set]
          have hbw2:Hid (∀p,Below g w3 ((wr.drewN p).setCell ⟨g,k,none⟩ (.bool false))):=fun p=>(zY hbw.out p).setCell (p:=⟨g,k,none⟩) (by show g<=g;omega) (.bool false)
          have HF0:Hid (∀p,(wr.drewN p).heap[g]?=some (.cells (xI ((yD rs k).set k v)) 4 (0,0))):=fun p=>hbr.out
          clear hv HST hbr hbw HNEW y0 f0;go_wp2_with fail;go_quiet (fail);rename_i nq _;have y0:=zh (HF0.out nq) k (xH ((yD rs k).set k v) k (by rw[Ri];have:=HML.out;rw[this];have:=HRL.out;omega));have f0:=zi (HF0.out nq) k;go_wp2_with fail
          go_roundw
          case rel=>exact⟨m+1,false,by omega,by go_num,hbr2.out _,by rw[HXK.out];exact hv2,hbw2.out _⟩
          case measure=>simp[intOf];omega
       . have e1:decide (x=xk)=false:=Li hxe
         have hv2:Hid (v=true↔∀q,q<m+1->ls.getD q 0=xk->set.getD q false=true):=by
          rw[Hid,HST.out,hv.out];simp[hxe]
         have hbr2:Hid (∀p,BRow (wr.drewN p) g ((yD rs k).set k v)):=fun p=>hbr.out
         have hbw2:Hid (∀p,Below g w3 (wr.drewN p)):=fun p=>zY hbw.out p
         clear hv HST hbr hbw HNEW y0 f0;go_wp2_with fail;go_quiet (fail);go_wp2_with fail
         go_roundw
         case rel=>exact⟨m+1,v,by omega,by go_num,hbr2.out _,by rw[HXK.out];exact hv2,hbw2.out _⟩
         case measure=>simp[intOf];omega
     . obtain rfl:m=n:=by omega
       have hm1:¬(m:Int)<(m:Int):=by omega
       have hkb:k<rs.length:=by rw[HRL.out];exact hlt
       have hat:=HAT.out k hlt v hv.out
       have hbr2:Hid (BRow wr g (yD rs (k+1))):=by
        rw[<-jf rs hkb,hat];exact hbr
       have hwk:IntKind.i64.wrap ((k:Int)+1)=((k+1:Nat):Int):=by rw[Ll];omega
       clear hat hv hbr;go_wp2_with fail
       go_roundw
       case rel=>exact⟨k+1,by omega,by go_num,hbr2,hbw⟩
       case measure=>simp[intOf];omega
  . obtain rfl:n=k:=by omega
    have hk1:¬(n:Int)<(n:Int):=by omega
    have HE:Hid (BRow wr g rs):=by have:=hbr.out;rwa[show yD rs n=rs by rw[<-HRL.out];exact jh rs] at this
    have HBE:=zH (HW3.out.trans hbw.out);clear hbr hbw HA3 HB3 HAT;go_wp2_with fail;go_ret;exact⟨g,rfl,by rw[HG.out];exact Le _,HE.out,by rw[HG.out];exact HBE.out⟩
theorem not_none(n:Nat):jH n (List.replicate n false)=List.replicate n true:=by
 refine NP (by rw[qc];simp) fun i h1 h2=>?_
 have hi:i<n:=by rw[qc] at h1;exact h1
 rw[<-zn h1 false,wH hi];simp[List.getD_eq_getElem?_getD,hi]
theorem uI(n:Nat)(hn:n<=100000)(w:Ba):Calls Tryz.prog 33 #[.int .i64 (n:Int)] w (RetB (List.replicate n true) w):=by
 have hmk:=xz n hn;obtain⟨w3,hw3,d3,hs3,hB3⟩:=zm w (xI (List.replicate n false)) 4;have hr:BRow w3 w.heap.size (List.replicate n false):=d3;have HC:=zH (YG (some ⟨w.heap.size,0,none⟩) n n hn (List.replicate n false) (by simp) w3 (hr.at_ hr.lt));rw[not_none] at HC;unfold RetB at HC ⊢;rw[LH] at HC ⊢;have HW3:=zH hw3;have HB3:=zH hB3;clear hw3 d3 hB3 hr;go_enter Tryz.func33,Tryz.ntmps33;go_wp2_with fail;rw[HW3.out];go_wp2_with fail;refine HC.out.mono ?_;rintro e w4 ⟨g4,rfl,hg4,hr4,hb4⟩;have HR4:=zH hr4;have HB4:=zH (Lc HB3.out hb4);have hg5:w.heap.size<=g4:=by omega
 clear hr4 hb4 HC hmk;go_wp2_with fail;go_ret;exact⟨g4,rfl,hg5,HR4.out,HB4.out⟩
def Z0(n:Nat)(ls:List Int):List Bool:=ls.foldl (fun o i=>o.set i.toNat true) (List.replicate n false)
theorem YT(n:Nat)(ls:List Int):(Z0 n ls).length=n:=by
 unfold Z0;refine snocI (P:=fun ls=>(ls.foldl (fun (o:List Bool) (i:Int)=>o.set i.toNat true) (List.replicate n false)).length=n) (by simp) (fun l x h=>?_) ls;rw[Ph];show(List.set _ _ _).length=n;rw[Ri];exact h
theorem onlL_snoc(n:Nat)(ls:List Int){k:Nat}(hk:k<ls.length):Z0 n (ls.take (k+1))=(Z0 n (ls.take k)).set ls[k].toNat true:=by
 unfold Z0;rw[Lu hk,Ph]
 rfl
theorem brow_set{w:Ba}{g:Nat}{bs:List Bool}(h:BRow w g bs)(k:Nat)(x:Bool):BRow (w.setCell ⟨g,k,none⟩ (.bool x)) g (bs.set k x):=by
 unfold BRow at *;rw[World.setCell,Pt,Lh rfl,h];simp[xI,List.map_set]
theorem only37_any(n:Nat)(hn:n<=100000)(ls:List Int)(hl:ls.length<=1000)(hls:∀(k:Nat) (h:k<ls.length),∃j:Nat,ls[k]=(j:Int)/\j<n)(A:Bb)(c:Nat)(w:Ba)(hI:IAt w w.heap.size A ls) :
  Calls Tryz.prog 38 #[.int .i64 (n:Int),.slice A ls.length c] w (RetB (Z0 n ls) w):=by
 have hmk:=xz n hn;unfold RetB;rw[YT];have HI:=zH hI;have HLS:=zH hls;clear hI hls;go_enter Tryz.func38,Tryz.ntmps38;go_upto_region 2 with fail
 obtain⟨w3,hw3,d3,hs3,hB3⟩:=zm w (xI (List.replicate n false)) 4;rw[hw3];have HI3:=zH (HI.out.keep hB3);have HW3:=zH hB3;have HZ0:Hid (BRow w3 w.heap.size (Z0 n (ls.take 0))):=by rw[L4];exact d3
 clear hw3 d3 hB3 hmk HI;obtain⟨g,hg⟩:=Ki w.heap.size;rw[hg] at HI3 HW3 HZ0 hs3 ⊢;go_wp2_with fail
 go_loopw [12] (fun i wr=>∃k:Nat,k<=ls.length/\i=.int .i64 (k:Int)/\Hid (BRow wr g (Z0 n (ls.take k)))/\Hid (Below g w3 wr)) (fun i _=>ls.length-(intOf i).toNat)
 case atStart=>exact⟨0,by omega,rfl,HZ0,Lm _ _⟩
 case round=>
  obtain⟨k,hk,rfl,hbr,hbw⟩:=hrel;clear HZ0;have hwk:IntKind.i64.wrap ((k:Int)+1)=((k+1:Nat):Int):=by rw[Ll];omega
  by_cases hlt:k<ls.length
  . obtain⟨b1,o1,rfl,hb1,z0⟩:=(HI3.out.keep hbw.out).at_ k hlt
    obtain⟨j,hj,hjn⟩:=HLS.out k hlt;rw[hj] at z0;have hbl:=YT n (ls.take k);have y0:=zh hbr.out j (xH (Z0 n (ls.take k)) j (by omega));have f0:=zi hbr.out j;have hset:=brow_set hbr.out j true;have hsn:=onlL_snoc n ls hlt;rw[hj,Lo] at hsn;rw[<-hsn] at hset;have HNEW:=zH hset;have HBN:=zH (hbw.out.setCell (p:=⟨g,j,none⟩) (by show g<=g;omega) (.bool true));obtain⟨u,hu⟩:=Ki ((Z0 n (ls.take k))[j]'(by omega));rw[hu] at y0;have hl3:=zj hbr.out;have hj0:(0:Int)<=(j:Int):=by omega
    have hj1:(j:Int)<(n:Int):=by omega
    have hk0:(0:Int)<=(k:Int):=by omega
    have hk1:(k:Int)<(ls.length:Int):=by omega
    clear hset hsn hu hbr hbw hbl hj;go_wp2_with fail
    go_roundw
    case rel=>exact⟨k+1,by omega,by go_num,HNEW,HBN⟩
    case measure=>simp[intOf];omega
  . have hk1:¬(k:Int)<(ls.length:Int):=by omega
    have HE:Hid (BRow wr g (Z0 n ls)):=by have:=hbr.out;rwa[Nw (by omega)] at this
    have HBE:=zH (HW3.out.trans hbw.out);clear hbr hbw HI3;subst hg;go_wp2_with fail;go_ret;exact⟨w.heap.size,rfl,Le _,HE.out,HBE.out⟩
end
end Go.Proofs.YtjmckgoegfipeaaGreatDoor
