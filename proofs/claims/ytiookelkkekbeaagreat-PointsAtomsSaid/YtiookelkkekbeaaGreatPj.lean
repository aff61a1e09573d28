/- Parts RefC Asc KnoP WfB AtrP RefE Known AtrA FcnP RfmA RfmB RfmC RfmD AtrB. -/
import Derived.Test.YtiookelkkekbeaaGreatProg
import Derived.Test.YtiookelkkekbeaaGreatPb
import Derived.Test.YtiookelkkekbeaaGreatPc
import Derived.Deep.QuietTactic
import Derived.BigQuiet
import Derived.Deep.RegionHeld3
import Derived.StillTactics
import Derived.Laws.Pointers
import Derived.Test.YtiookelkkekbeaaGreatPg
import Derived.Deep.DeepCutAuto
import Derived.Test.YtiookelkkekbeaaGreatPh
import Derived.Test.YtiookelkkekbeaaGreatPa
import Derived.Deep.Cut
import Derived.Test.YtiookelkkekbeaaGreatPf

namespace Go.Proofs.YtiookelkkekbeaaGreat
set_option maxHeartbeats 4000000
section
open Go.RowKit
set_option maxRecDepth 100000 in
theorem J9 (n:Nat) (S:Value) (v:Vw) (w:World) (hn:n≤5) :
  Calls Tryz.prog 159 #[.agg #[.int .i64 n,S],.agg v.cells] w (vF ((yr v n).map (·.2)) w):=by
 have hch:=v.cells_h
 go_enter Tryz.func159,Tryz.ntmps159
 unfold Vw.cells
 go_wp2
 refine wp_two ?_
 intro W0 b0 b1 hsz hB0
 go_loopw [5,6] (fun o i wr=>∃k:Nat,k≤n∧i=.int .i64 k∧Own wr W0.heap.size o ((yr v k).map (·.2))∧Below W0.heap.size W0 wr) (fun _ i _=>n-(intOf i).toNat)
 case atStart => exact ⟨0, by omega, rfl, by have : yr v 0 = [] := by simp [yr]
                                             rw [this];exact Own.nil _ _,Below.refl _ _⟩
 case round=>
  obtain ⟨k,hk,rfl,hown,hbl⟩:=hrel
  have d0:=jj b0 hbl (by omega)
  have d1:=jj b1 hbl (by omega)
  have t0:=zh d0 0 rfl
  have t1:=zh d1 1 rfl
  have hle:(yr v k).length≤5:=by
   unfold yr;split
   · exact Nat.le_trans (List.length_filterMap_le _ _) (by simp;omega)
   · simp
  have HD:=zH d0
  have HD1:=zH d1
  have HO:=zH hown
  have HBL:=zH hbl
  have H0:=zH hB0
  have HS:=zH hsz
  clear d0 d1 b0 b1 hown hbl hB0 hsz
  by_cases hlt:k<n
  · by_cases hr:0<v.r
    · have hq:=zh HD1.out (3+k) (hch k (by omega))
      by_cases h0:0≤v.h k
      · have hy:=zH (Jn hr h0)
        go_wp2_with (at_builtin;go_must (refine jJ rfl _ _ rfl W0.heap.size u5 _ (v.h k) rfl HO.out rfl (by simp;omega) HBL.out.size ?_);intro v' w1 hown1 hg1 hb1)
        go_roundw
        case rel=>exact ⟨k+1,by omega,by go_num,by rw [hy.out,List.map_append];exact hown1,HBL.out.trans hb1⟩
        case measure=>simp [intOf];omega
      · have hn0:=zH (Yl (v:=v) (k:=k) (fun h=>h0 h.2))
        go_wp2
        go_roundw
        case rel=>exact ⟨k+1,by omega,by go_num,by rw [hn0.out];exact HO.out,HBL.out⟩
        case measure=>simp [intOf];omega
    · have he:Hid ((yr v n).map (·.2)=(yr v k).map (·.2)):=by show (yr v n).map (·.2)=(yr v k).map (·.2);simp [yr,hr]
      go_wp2
      go_ret
      exact ⟨_,rfl,by rw [he.out];exact HO.out.low (by have:=HS.out;omega),H0.out.trans (HBL.out.mono (by have:=HS.out;omega))⟩
  · obtain rfl:k=n:=by omega
    go_wp2
    go_ret
    exact ⟨_,rfl,HO.out.low (by have:=HS.out;omega),H0.out.trans (HBL.out.mono (by have:=HS.out;omega))⟩
def yw:Nat→List Int→List Int→List Int
 | 0,_,_=>[]
 | _+1,[],[]=>[]
 | f+1,x::us,[]=>x::yw f us []
 | f+1,[],y::bs=>y::yw f [] bs
 | f+1,x::us,y::bs=>if x<y then x::yw f us (y::bs) else if x=y then y::yw f us bs else y::yw f (x::us) bs
def ye (us bs:List Int):List Int:=yw (us.length+bs.length) us bs
theorem Qw:∀(f g:Nat) (us bs:List Int),us.length+bs.length≤f→us.length+bs.length≤g→yw f us bs=yw g us bs:=by
 intro f
 induction f with
 | zero=>
  intro g us bs hf hg
  have h1:us=[]:=List.eq_nil_of_length_eq_zero (by omega)
  have h2:bs=[]:=List.eq_nil_of_length_eq_zero (by omega)
  subst h1;subst h2
  cases g<;>rfl
 | succ f ih=>
  intro g us bs hf hg
  cases g with
  | zero=>
   have h1:us=[]:=List.eq_nil_of_length_eq_zero (by omega)
   have h2:bs=[]:=List.eq_nil_of_length_eq_zero (by omega)
   subst h1;subst h2;rfl
  | succ g=>
   cases us with
   | nil=>cases bs with
    | nil=>rfl
    | cons y bs=>simp only [yw];rw [ih g [] bs (by first | omega | (simp;done) | (simp;omega) | (simp at *;omega)) (by first | omega | (simp;done) | (simp;omega) | (simp at *;omega))]
   | cons x us=>cases bs with
    | nil=>simp only [yw];rw [ih g us [] (by first | omega | (simp;done) | (simp;omega) | (simp at *;omega)) (by first | omega | (simp;done) | (simp;omega) | (simp at *;omega))]
    | cons y bs=>
     simp only [yw]
     simp only [List.length_cons] at hf hg
     rw [ih g us (y::bs) (by simp;omega) (by simp;omega),ih g us bs (by omega) (by omega),ih g (x::us) bs (by simp;omega) (by simp;omega)]
theorem unionL_ax (x:Int) (us:List Int):ye (x::us) []=x::ye us []:=by simp [ye,yw]
theorem unionL_bx (y:Int) (bs:List Int):ye [] (y::bs)=y::ye [] bs:=by
 simp only [ye,List.length_nil,List.length_cons,Nat.zero_add];rfl
theorem unionL_lt {x y:Int} {us bs:List Int} (h:x<y):ye (x::us) (y::bs)=x::ye us (y::bs):=by
 unfold ye
 rw [show (x::us).length+(y::bs).length=(us.length+(y::bs).length)+1 from by simp;omega]
 simp only [yw,h,if_true]
theorem unionL_eq {y:Int} {us bs:List Int}:ye (y::us) (y::bs)=y::ye us bs:=by
 unfold ye
 rw [show (y::us).length+(y::bs).length=(us.length+bs.length+1)+1 from by simp;omega]
 simp only [yw,Int.lt_irrefl,if_false,if_true]
 rw [Qw _ (us.length+bs.length) us bs (by omega) (by omega)]
theorem unionL_gt {x y:Int} {us bs:List Int} (h:¬x<y) (h':x≠y):ye (x::us) (y::bs)=y::ye (x::us) bs:=by
 unfold ye
 rw [show (x::us).length+(y::bs).length=((x::us).length+bs.length)+1 from by simp;omega]
 simp only [yw,h,h',if_false]
set_option maxRecDepth 100000 in
theorem Y9 (A A':Option Addr) (cap cap':Nat) (xs ys:List Int) (w:World) (hA:IAt w w.heap.size A xs) (hA':IAt w w.heap.size A' ys) (hc:xs.length≤cap) (hc':ys.length≤cap') (hm:cap≤maxLen) (hm':cap'≤maxLen) (hl:xs.length+ys.length≤1000000) :
  Calls Tryz.prog 146 #[.slice A xs.length cap,.slice A' ys.length cap'] w (vF (ye xs ys) w):=by
 unfold maxLen at hm hm'
 go_enter Tryz.func146,Tryz.ntmps146
 go_wp2
 go_loopw [0,1,5] (fun a b o wr=>∃(us bs out:List Int) (P Q:Option Addr) (c d:Nat),a=.slice P us.length c∧b=.slice Q bs.length d∧us.length≤c∧bs.length≤d∧c≤9223372036854775807∧d≤9223372036854775807∧IAt wr w.heap.size P us∧IAt wr w.heap.size Q bs∧Own wr w.heap.size o out ∧
   Hid (out++ye us bs=ye xs ys)∧out.length+us.length+bs.length≤1000000∧Below w.heap.size w wr) (fun a b _ _=>(match a with | .slice _ n _=>n | _=>0)+(match b with | .slice _ n _=>n | _=>0))
 case atStart=>exact ⟨xs,ys,[],A,A',cap,cap',rfl,rfl,hc,hc',by omega,by omega,hA,hA',Own.nil _ _,rfl,by simp;omega,Below.refl _ _⟩
 case round=>
  obtain ⟨us,bs,out,P,Q,c,d,rfl,rfl,hac,hbd,hcm,hdm,hP,hQ,hown,hres,hlen,hbl⟩:=hrel
  cases us with
  | nil=>
   cases bs with
   | nil=>
    go_wp2
    go_ret
    exact ⟨_,rfl,by have:=hres.out;rw [←this];simpa [ye,yw] using hown,hbl⟩
   | cons y bs=>
    obtain ⟨Q',dcut,hQ'⟩:=Zu Q bs.length d (by simpa using hbd) (by unfold maxLen;omega)
    have hQn:=zH (hQ' wr w.heap.size y bs rfl hQ)
    have hQ0:=zH hQ
    obtain ⟨b',off',rfl,hb',hd0⟩:=hQ.at_ 0 (by simp)
    have hbw':b'<wr.heap.size:=Nat.lt_of_lt_of_le hb' hbl.size
    have e0:((bs.length:Int)+1==0)=false:=by simp;omega
    simp only [List.length_cons,List.getElem_cons_zero,Nat.add_zero] at *
    have HO:=zH hown
    have HBL:=zH hbl
    have HR:Hid (out++[y]++ye [] bs=ye xs ys):=by show _=_;have:=hres.out;rw [unionL_bx] at this;simpa using this
    clear hQ hQ' hown hbl hres hP
    go_wp2
    go_quiet (fail)
    go_wp2
    go_quiet (fail)
    go_wp2
    go_region_held3 (fun w'=>w'.cell? ⟨b',off',none⟩=some (.int .i64 y))
     (first | exact hd0 | (refine (World.cell?_alloc_lt _ _ _ ?_).trans hd0;exact hbw') | (rw [hb1.cell (p:=⟨b',off',none⟩) hb'];exact hd0))
     ((refine kg rfl _ _ rfl w.heap.size u5 _ y rfl (HO.out.drewN _) rfl (by omega) HBL.out.size ?_;intro v' w1 hown1 hg1 hb1))
    go_wp2
    go_roundw
    case rel=>exact ⟨[],bs,out++[y],_,_,_,_,rfl,rfl,by first | omega | (simp;done) | (simp;omega) | (simp at *;omega),by first | omega | (simp;done) | (simp;omega) | (simp at *;omega),by omega,by omega,IAt.nil _ _ _,hQn.out.keep (vf hb1),hown1,HR,by first | omega | (simp;done) | (simp;omega) | (simp at *;omega),HBL.out.trans (vf hb1)⟩
    case measure=>simp
  | cons x us=>
   cases bs with
   | nil=>
    obtain ⟨P',hcut,hP'⟩:=Zu P us.length c (by simpa using hac) (by unfold maxLen;omega)
    have hPn:=zH (hP' wr w.heap.size x us rfl hP)
    have hP0:=zH hP
    obtain ⟨b,off,rfl,hb,hc0⟩:=hP.at_ 0 (by simp)
    have hbw:b<wr.heap.size:=Nat.lt_of_lt_of_le hb hbl.size
    simp only [List.length_cons,List.getElem_cons_zero,Nat.add_zero] at *
    have HO:=zH hown
    have HBL:=zH hbl
    have HR:Hid (out++[x]++ye us []=ye xs ys):=by show _=_;have:=hres.out;rw [unionL_ax] at this;simpa using this
    clear hP hP' hown hbl hres hQ
    go_wp2
    go_quiet (fail)
    go_wp2
    go_region_held3 (fun w'=>w'.cell? ⟨b,off,none⟩=some (.int .i64 x))
     (first | exact hc0 | (refine (World.cell?_alloc_lt _ _ _ ?_).trans hc0;exact hbw) | (rw [hb1.cell (p:=⟨b,off,none⟩) hb];exact hc0))
     ((refine kg rfl _ _ rfl w.heap.size u5 _ x rfl (HO.out.drewN _) rfl (by omega) HBL.out.size ?_;intro v' w1 hown1 hg1 hb1))
    go_wp2
    go_roundw
    case rel=>exact ⟨us,[],out++[x],_,_,_,_,rfl,rfl,by first | omega | (simp;done) | (simp;omega) | (simp at *;omega),by first | omega | (simp;done) | (simp;omega) | (simp at *;omega),by omega,by omega,hPn.out.keep (vf hb1),IAt.nil _ _ _,hown1,HR,by first | omega | (simp;done) | (simp;omega) | (simp at *;omega),HBL.out.trans (vf hb1)⟩
    case measure=>simp
   | cons y bs=>
    obtain ⟨P',hcut,hP'⟩:=Zu P us.length c (by simpa using hac) (by unfold maxLen;omega)
    have hPn:=zH (hP' wr w.heap.size x us rfl hP)
    have hP0:=zH hP
    obtain ⟨b,off,rfl,hb,hc0⟩:=hP.at_ 0 (by simp)
    have hbw:b<wr.heap.size:=Nat.lt_of_lt_of_le hb hbl.size
    obtain ⟨Q',dcut,hQ'⟩:=Zu Q bs.length d (by simpa using hbd) (by unfold maxLen;omega)
    have hQn:=zH (hQ' wr w.heap.size y bs rfl hQ)
    have hQ0:=zH hQ
    obtain ⟨b',off',rfl,hb',hd0⟩:=hQ.at_ 0 (by simp)
    have hbw':b'<wr.heap.size:=Nat.lt_of_lt_of_le hb' hbl.size
    have e0:((bs.length:Int)+1==0)=false:=by simp;omega
    simp only [List.length_cons,List.getElem_cons_zero,Nat.add_zero] at *
    have HO:=zH hown
    have HBL:=zH hbl
    clear hP hP' hQ hQ' hown hbl
    by_cases hlt:x<y
    · have HR:Hid (out++[x]++ye us (y::bs)=ye xs ys):=by show _=_;have:=hres.out;rw [unionL_lt hlt] at this;simpa using this
      clear hres
      go_wp2
      go_quiet (fail)
      go_wp2
      go_region_held3 (fun w'=>w'.cell? ⟨b,off,none⟩=some (.int .i64 x))
       (first | exact hc0 | (refine (World.cell?_alloc_lt _ _ _ ?_).trans hc0;exact hbw) | (rw [hb1.cell (p:=⟨b,off,none⟩) hb];exact hc0))
       ((refine kg rfl _ _ rfl w.heap.size u5 _ x rfl (HO.out.drewN _) rfl (by omega) HBL.out.size ?_;intro v' w1 hown1 hg1 hb1))
      go_wp2
      go_roundw
      case rel=>exact ⟨us,y::bs,out++[x],_,_,_,_,rfl,rfl,by first | omega | (simp;done) | (simp;omega) | (simp at *;omega),by first | omega | (simp;done) | (simp;omega) | (simp at *;omega),by omega,by omega,hPn.out.keep (vf hb1),hQ0.out.keep (vf hb1),hown1,HR,by first | omega | (simp;done) | (simp;omega) | (simp at *;omega),HBL.out.trans (vf hb1)⟩
      case measure=>simp
    · by_cases heq:x=y
      · have e1:(x==y)=true:=by simp [heq]
        have HR:Hid (out++[y]++ye us bs=ye xs ys):=by show _=_;have:=hres.out;rw [heq,unionL_eq] at this;simpa using this
        have HE:=zH heq
        clear hres heq
        go_wp2
        go_quiet (fail)
        go_wp2
        go_quiet (fail)
        go_wp2
        go_region_held3 (fun w'=>w'.cell? ⟨b',off',none⟩=some (.int .i64 y))
         (first | exact hd0 | (refine (World.cell?_alloc_lt _ _ _ ?_).trans hd0;exact hbw') | (rw [hb1.cell (p:=⟨b',off',none⟩) hb'];exact hd0))
         ((refine kg rfl _ _ rfl w.heap.size u5 _ y rfl (HO.out.drewN _) rfl (by omega) HBL.out.size ?_;intro v' w1 hown1 hg1 hb1))
        go_wp2
        go_roundw
        case rel=>exact ⟨us,bs,out++[y],_,_,_,_,rfl,rfl,by first | omega | (simp;done) | (simp;omega) | (simp at *;omega),by first | omega | (simp;done) | (simp;omega) | (simp at *;omega),by omega,by omega,hPn.out.keep (vf hb1),hQn.out.keep (vf hb1),hown1,HR,by first | omega | (simp;done) | (simp;omega) | (simp at *;omega),HBL.out.trans (vf hb1)⟩
        case measure=>simp;omega
      · have e1:(x==y)=false:=by simp [heq]
        have HR:Hid (out++[y]++ye (x::us) bs=ye xs ys):=by show _=_;have:=hres.out;rw [unionL_gt hlt heq] at this;simpa using this
        clear hres heq
        go_wp2
        go_quiet (fail)
        go_wp2
        go_quiet (fail)
        go_wp2
        go_region_held3 (fun w'=>w'.cell? ⟨b',off',none⟩=some (.int .i64 y))
         (first | exact hd0 | (refine (World.cell?_alloc_lt _ _ _ ?_).trans hd0;exact hbw') | (rw [hb1.cell (p:=⟨b',off',none⟩) hb'];exact hd0))
         ((refine kg rfl _ _ rfl w.heap.size u5 _ y rfl (HO.out.drewN _) rfl (by omega) HBL.out.size ?_;intro v' w1 hown1 hg1 hb1))
        go_wp2
        go_roundw
        case rel=>exact ⟨x::us,bs,out++[y],_,_,_,_,rfl,rfl,by first | omega | (simp;done) | (simp;omega) | (simp at *;omega),by first | omega | (simp;done) | (simp;omega) | (simp at *;omega),by omega,by omega,hP0.out.keep (vf hb1),hQn.out.keep (vf hb1),hown1,HR,by first | omega | (simp;done) | (simp;omega) | (simp at *;omega),HBL.out.trans (vf hb1)⟩
        case measure=>simp
end
section
def ascN (n:Nat) (p:Nat→Bool):List Nat:=(List.range n).filter p
def yH (l:List Nat):List Int:=l.map fun k:Nat=>(k:Int)
def asc (n:Nat) (p:Nat→Bool):List Int:=yH (ascN n p)
theorem jE (n:Nat) (p:Nat→Bool):(asc n p).Pairwise (·<·):=by
 unfold asc yH ascN
 rw [List.pairwise_map]
 exact ((List.pairwise_lt_range (n:=n)).filter p).imp fun h=>by omega
theorem Zn {n:Nat} {p:Nat→Bool} {x:Int}:x∈asc n p↔∃k:Nat,x=k∧k<n∧p k=true:=by
 unfold asc yH ascN
 rw [List.mem_map]
 constructor
 · rintro ⟨k,hk,rfl⟩
   rw [List.mem_filter,List.mem_range] at hk
   exact ⟨k,rfl,hk.1,hk.2⟩
 · rintro ⟨k,rfl,h1,h2⟩
   exact ⟨k,by rw [List.mem_filter,List.mem_range];exact ⟨h1,h2⟩,rfl⟩
theorem YI (n:Nat) (p:Nat→Bool):(asc n p).length≤n:=by
 unfold asc yH ascN
 rw [List.length_map]
 exact Nat.le_trans (List.length_filter_le _ _) (by simp)
theorem xB (l:List Nat):(yH l).length=l.length:=by simp [yH]
theorem ua:∀ {us vs:List Int},us.Pairwise (·<·)→vs.Pairwise (·<·)→(∀x,x∈us↔x∈vs)→us=vs
 | [],[],_,_,_=>rfl
 | [],v::vs,_,_,h=>absurd ((h v).2 (by simp)) (by simp)
 | u::us,[],_,_,h=>absurd ((h u).1 (by simp)) (by simp)
 | u::us,v::vs,hu,hv,h=>by
  obtain ⟨hu1,hu2⟩:=List.pairwise_cons.1 hu
  obtain ⟨hv1,hv2⟩:=List.pairwise_cons.1 hv
  have e:u=v:=by
   have h1:=(h u).1 (by simp)
   have h2:=(h v).2 (by simp)
   rcases List.mem_cons.1 h1 with h1 | h1
   · exact h1
   · rcases List.mem_cons.1 h2 with h2 | h2
     · exact h2.symm
     · have:=hv1 u h1
       have:=hu1 v h2
       omega
  subst e
  congr 1
  refine ua hu2 hv2 fun x=>?_
  have:=h x
  simp only [List.mem_cons] at this
  constructor
  · intro hx
    rcases this.1 (.inr hx) with e | e
    · subst e;exact absurd (hu1 x hx) (by omega)
    · exact e
  · intro hx
    rcases this.2 (.inr hx) with e | e
    · subst e;exact absurd (hv1 x hx) (by omega)
    · exact e
theorem qy:∀(f:Nat) (us vs:List Int),us.length+vs.length≤f→∀x,x∈yw f us vs↔x∈us∨x∈vs:=by
 intro f
 induction f with
 | zero=>
  intro us vs h x
  have h1:us=[]:=List.eq_nil_of_length_eq_zero (by omega)
  have h2:vs=[]:=List.eq_nil_of_length_eq_zero (by omega)
  subst h1;subst h2;simp [yw]
 | succ f ih=>
  intro us vs h x
  cases us with
  | nil=>cases vs with
   | nil=>simp [yw]
   | cons v vs=>simp only [yw,List.mem_cons,ih [] vs (by simp at *;omega) x];simp
  | cons u us=>cases vs with
   | nil=>simp only [yw,List.mem_cons,ih us [] (by simp at *;omega) x];simp
   | cons v vs=>
    simp only [List.length_cons] at h
    simp only [yw]
    split
    · simp only [List.mem_cons,ih us (v::vs) (by simp;omega) x]
      constructor
      · rintro (hx | hx | (hx | hx))<;>simp [hx]
      · rintro ((hx | hx) | (hx | hx))<;>simp [hx]
    · split
      · rename_i e;subst e
        simp only [List.mem_cons,ih us vs (by omega) x]
        constructor
        · rintro (hx | hx | hx)<;>simp [hx]
        · rintro ((hx | hx) | (hx | hx))<;>simp [hx]
      · simp only [List.mem_cons,ih (u::us) vs (by simp;omega) x]
        constructor
        · rintro (hx | (hx | hx) | hx)<;>simp [hx]
        · rintro ((hx | hx) | (hx | hx))<;>simp [hx]
theorem YO:∀(f:Nat) (us vs:List Int),us.length+vs.length≤f→us.Pairwise (·<·)→vs.Pairwise (·<·)→(yw f us vs).Pairwise (·<·):=by
 intro f
 induction f with
 | zero=>intro us vs _ _ _;simp [yw]
 | succ f ih=>
  intro us vs h hu hv
  cases us with
  | nil=>cases vs with
   | nil=>simp [yw]
   | cons v vs=>
    obtain ⟨hv1,hv2⟩:=List.pairwise_cons.1 hv
    simp only [yw]
    refine List.pairwise_cons.2 ⟨fun x hx=>?_,ih [] vs (by simp at *;omega) hu hv2⟩
    rw [qy f [] vs (by simp at *;omega)] at hx
    exact hv1 x (by simpa using hx)
  | cons u us=>cases vs with
   | nil=>
    obtain ⟨hu1,hu2⟩:=List.pairwise_cons.1 hu
    simp only [yw]
    refine List.pairwise_cons.2 ⟨fun x hx=>?_,ih us [] (by simp at *;omega) hu2 hv⟩
    rw [qy f us [] (by simp at *;omega)] at hx
    exact hu1 x (by simpa using hx)
   | cons v vs=>
    obtain ⟨hu1,hu2⟩:=List.pairwise_cons.1 hu
    obtain ⟨hv1,hv2⟩:=List.pairwise_cons.1 hv
    simp only [List.length_cons] at h
    simp only [yw]
    split
    · rename_i hlt
      refine List.pairwise_cons.2 ⟨fun x hx=>?_,ih us (v::vs) (by simp;omega) hu2 hv⟩
      rw [qy f us (v::vs) (by simp;omega)] at hx
      rcases hx with hx | hx
      · exact hu1 x hx
      · rcases List.mem_cons.1 hx with hx | hx
        · omega
        · have:=hv1 x hx;omega
    · split
      · rename_i hne e;subst e
        refine List.pairwise_cons.2 ⟨fun x hx=>?_,ih us vs (by omega) hu2 hv2⟩
        rw [qy f us vs (by omega)] at hx
        rcases hx with hx | hx
        · exact hu1 x hx
        · exact hv1 x hx
      · rename_i h1 h2
        refine List.pairwise_cons.2 ⟨fun x hx=>?_,ih (u::us) vs (by simp;omega) hu hv2⟩
        rw [qy f (u::us) vs (by simp;omega)] at hx
        rcases hx with hx | hx
        · rcases List.mem_cons.1 hx with hx | hx
          · omega
          · have:=hu1 x hx;omega
        · exact hv1 x hx
theorem Y8 (n:Nat) (p q:Nat→Bool):ye (asc n p) (asc n q)=asc n fun x=>p x||q x:=by
 refine ua (YO _ _ _ (Nat.le_refl _) (jE n p) (jE n q)) (jE n _) fun x=>?_
 unfold ye
 rw [qy _ _ _ (Nat.le_refl _),Zn,Zn,Zn]
 constructor
 · rintro (⟨k,rfl,h1,h2⟩ | ⟨k,rfl,h1,h2⟩)
   · exact ⟨k,rfl,h1,by simp [h2]⟩
   · exact ⟨k,rfl,h1,by simp [h2]⟩
 · rintro ⟨k,rfl,h1,h2⟩
   simp only [Bool.or_eq_true] at h2
   rcases h2 with h2 | h2
   · exact .inl ⟨k,rfl,h1,h2⟩
   · exact .inr ⟨k,rfl,h1,h2⟩
theorem asc_one {n i:Nat} (h:i<n):asc n (fun x=>x==i)=[(i:Int)]:=by
 refine ua (jE n _) (by simp) fun x=>?_
 rw [Zn]
 simp only [beq_iff_eq,List.mem_singleton]
 constructor
 · rintro ⟨k,rfl,_,rfl⟩;rfl
 · rintro rfl;exact ⟨i,rfl,h,rfl⟩
theorem qh (vs:List Vw) (l:List Nat):yH (yj vs l)=asc vs.length fun x=>l.any fun c=>reach vs c x:=rfl
theorem past_self {vs:List Vw} (ha:Y5 vs) {i:Nat} (hi:i<vs.length) :
  ye (yH (yj vs (xt (zY vs i)))) [(i:Int)]=yH (yj vs [i]):=by
 rw [←asc_one hi,qh,qh,Y8]
 congr 1
 funext x
 rw [Bool.eq_iff_iff]
 simp only [Bool.or_eq_true,List.any_eq_true,beq_iff_eq,List.any_cons,List.any_nil,Bool.or_false,xO ha hi]
 constructor
 · rintro (h | h)
   · exact .inr h
   · exact .inl h
 · rintro (h | h)
   · exact .inr h
   · exact .inl h
theorem past_snoc (vs:List Vw) (l:List Nat) (c:Nat):ye (yH (yj vs l)) (yH (yj vs [c]))=yH (yj vs (l++[c])):=by
 rw [qh,qh,qh,Y8]
 congr 1
 funext x
 simp
theorem Z3 (vs:List Vw) (l:List Nat):(yH (yj vs l)).length≤vs.length:=YI _ _
end
section
open Go.RowKit
theorem twoboxes (w:World) (c1 c2:Array Value) (t1 t2:TypeId):∃W0,(w.alloc (.cells c1 t1)).alloc (.cells c2 t2)=W0∧W0.heap[w.heap.size]?=some (.cells c1 t1 (0,0))∧W0.heap[w.heap.size+1]?=some (.cells c2 t2 (0,0))∧W0.heap.size=w.heap.size+2∧Below w.heap.size w W0:=
 ⟨_,rfl,yB (zu _ _) _,by have:=zu (w.alloc (.cells c1 t1)) (.cells c2 t2);rwa [World.size_alloc] at this,by simp,qS w _ _⟩
theorem Wf.row_ok {n:Int} {vs:List Vw} (h:Wf n vs) {i:Nat} (hi:i<vs.length):kD n (vs.take i) (zY vs i)=0:=(XK (h.2.2 i hi)).1
theorem Wf.kid {n:Int} {vs:List Vw} (h:Wf n vs) {i c:Nat} (hi:i<vs.length) (hc:c∈xt (zY vs i)):c<i∧(zY vs c).r=(zY vs i).r-1:=by
 have h1:=h.acyc i hi c hc
 have h2:=kid_ok (h.row_ok hi) hc
 rw [je h1] at h2
 exact ⟨h1,h2.2⟩
theorem Wf.begv {n:Int} {vs:List Vw} (h:Wf n vs) {i:Nat} (hi:i<vs.length):JH n (zY vs i)=0:=(vC (h.row_ok hi)).1
def yS (vs:List Vw) (l:List Nat) (out:List Int):List Int:=l.foldl (fun out x=>if (zY vs x).r=0 then out.set (zY vs x).p.toNat (zY vs x).i else out) out
theorem qU (vs:List Vw):∀(l:List Nat) (out:List Int),(yS vs l out).length=out.length
 | [],_=>rfl
 | x::l,out=>by
  have:=qU vs l (if (zY vs x).r=0 then out.set (zY vs x).p.toNat (zY vs x).i else out)
  unfold yS at *
  rw [List.foldl_cons,this]
  split<;>simp
theorem knowL_step (vs:List Vw) (l:List Nat) (k:Nat) (hk:k<l.length) (out:List Int):yS vs (l.take (k+1)) out=if (zY vs l[k]).r=0 then (yS vs (l.take k) out).set (zY vs l[k]).p.toNat (zY vs l[k]).i else yS vs (l.take k) out:=by
 unfold yS
 rw [List.take_add_one,List.getElem?_eq_getElem hk,List.foldl_append]
 rfl
theorem qe {vs:List Vw} {i x:Nat}:x∈yj vs [i]↔x<vs.length∧reach vs i x=true:=by simp [qY]
theorem jP {vs:List Vw} (ha:Y5 vs) {m:Nat}:∀(f i x:Nat),i<m→i<vs.length→qn (vs.take m) f i x=qn vs f i x
 | 0,_,_,_,_=>rfl
 | f+1,i,x,hm,hi=>by
  simp only [qn]
  rw [je hm]
  congr 1
  rw [Bool.eq_iff_iff,List.any_eq_true,List.any_eq_true]
  constructor
  · rintro ⟨c,hc,h⟩
    have:=ha i hi c hc
    exact ⟨c,hc,by rw [←jP (m:=m) ha f c x (by omega) (by omega)];exact h⟩
  · rintro ⟨c,hc,h⟩
    have:=ha i hi c hc
    exact ⟨c,hc,by rw [jP (m:=m) ha f c x (by omega) (by omega)];exact h⟩
theorem reach_take {vs:List Vw} (ha:Y5 vs) {m i x:Nat} (hm:i<m) (hi:i<vs.length):reach (vs.take m) i x=reach vs i x:=by
 unfold reach
 rw [jP ha _ i x hm hi]
 have hl:(vs.take m).length=min m vs.length:=by simp
 exact gJ ha i _ _ x hi (by rw [hl];omega) (by omega)
theorem past_cons {n:Int} {vs:List Vw} (h:Wf n vs) {i a b:Nat} (hi:i<vs.length) (ha:a∈yj vs [i]) (hb:b∈yj vs [i]) (hp:(zY vs a).p=(zY vs b).p) (hr:(zY vs a).r=(zY vs b).r):a=b:=by
 have rnd:∀x,x∈yj vs [i]→x≠i→(zY vs x).r<(zY vs i).r:=by
  intro x hx hne
  obtain ⟨_,h1⟩:=qe.1 hx
  have key:∀i,i<vs.length→reach vs i x=true→(zY vs x).r≤(zY vs i).r:=by
   intro i
   induction i using Nat.strongRecOn with
   | _ i ih=>
    intro hi h1
    rcases (xO h.acyc hi).1 h1 with rfl | ⟨c,hc,h2⟩
    · omega
    · have k:=h.kid hi hc
      have:=ih c k.1 (by omega) h2
      omega
  rcases (xO h.acyc hi).1 h1 with rfl | ⟨c,hc,h2⟩
  · exact absurd rfl hne
  · have k:=h.kid hi hc
    have:=key c (by omega) h2
    omega
 by_cases ea:a=i
 · by_cases eb:b=i
   · rw [ea,eb]
   · have:=rnd b hb eb;rw [←hr,ea] at this;omega
 · by_cases eb:b=i
   · have:=rnd a ha ea;rw [hr,eb] at this;omega
   · -- both in the past of what i heard
     obtain ⟨la,ra⟩:=qe.1 ha
     obtain ⟨lb,rb⟩:=qe.1 hb
     have hri:(zY vs i).r≠0:=by
      intro e
      have:=rnd a ha ea
      have hbg:=jC (h.begv (show a<vs.length from la))
      omega
     have hc:=((vC (h.row_ok hi)).2 hri).2.2
     have mem:∀x,x∈yj vs [i]→x≠i→x∈yj (vs.take i) (xt (zY vs i)):=by
      intro x hx hne
      obtain ⟨_,h1⟩:=qe.1 hx
      rcases (xO h.acyc hi).1 h1 with rfl | ⟨c,hc,h2⟩
      · exact absurd rfl hne
      · have k:=h.kid hi hc
        have:=reach_lt h.acyc (show c<vs.length by omega) h2
        exact qY.2 ⟨by simp;omega,c,hc,by rw [reach_take h.acyc k.1 (by omega)];exact h2⟩
     have ma:=mem a ha ea
     have mb:=mem b hb eb
     have pw:∀l:List Nat,Yy (vs.take i) l=true→l.Pairwise (fun a b=>vX (vs.take i) a b=false):=by
      intro l
      induction l with
      | nil=>intro _;exact List.Pairwise.nil
      | cons x l ih=>
       intro hx
       simp only [Yy,Bool.and_eq_true,List.all_eq_true] at hx
       exact List.Pairwise.cons (fun y hy=>by have:=hx.1 y hy;simpa using this) (ih hx.2)
     have hpw:=pw _ hc
     rcases Decidable.em (a=b) with e | e
     · exact e
     · exfalso
       have sym:∀ {a b},vX (vs.take i) a b=false→vX (vs.take i) b a=false:=by
        intro a b h
        unfold vX at *
        simp only [decide_eq_false_iff_not,not_and] at *
        exact fun e1 e2=>h e1.symm e2.symm
       have all:∀l:List Nat,l.Pairwise (fun a b=>vX (vs.take i) a b=false)→∀a,a∈l→∀b,b∈l→a≠b→vX (vs.take i) a b=false:=by
        intro l hl
        induction hl with
        | nil=>intro a ha;cases ha
        | cons h1 _ ih=>
         intro a ha b hb hne
         rcases List.mem_cons.1 ha with rfl | ha
         · rcases List.mem_cons.1 hb with rfl | hb
           · exact absurd rfl hne
           · exact h1 b hb
         · rcases List.mem_cons.1 hb with e | hb
           · rw [e];exact sym (h1 a ha)
           · exact ih a ha b hb hne
       have hcl:=all _ hpw a ma b mb e
       have la':a<i:=by have:=(qY.1 ma).1;simp at this;omega
       have lb':b<i:=by have:=(qY.1 mb).1;simp at this;omega
       unfold vX at hcl
       rw [je la',je lb'] at hcl
       simp [hp,hr] at hcl
theorem Yg {vs:List Vw} {p:Nat}:∀(l:List Nat) (out:List Int),(∀x,x∈l→(zY vs x).r=0→(zY vs x).p.toNat≠p)→(yS vs l out)[p]?=out[p]?
 | [],_,_=>rfl
 | x::l,out,h=>by
  unfold yS at *
  rw [List.foldl_cons]
  have:=Yg (vs:=vs) (p:=p) l (if (zY vs x).r=0 then out.set (zY vs x).p.toNat (zY vs x).i else out) fun y hy=>h y (by simp [hy])
  unfold yS at this
  rw [this]
  split
  · rename_i hr
    rw [List.getElem?_set_ne (h x (by simp) hr)]
  · rfl
theorem Xl {vs:List Vw} {c:Nat}:∀(l:List Nat) (out:List Int),c∈l→(zY vs c).r=0→(zY vs c).p.toNat<out.length →
  (∀x,x∈l→(zY vs x).r=0→(zY vs x).p.toNat=(zY vs c).p.toNat→x=c)→(yS vs l out)[(zY vs c).p.toNat]?=some (zY vs c).i
 | [],_,h,_,_,_=>by cases h
 | x::l,out,hc,hr,hlt,hu=>by
  by_cases hl:c∈l
  · have:=Xl (vs:=vs) l (if (zY vs x).r=0 then out.set (zY vs x).p.toNat (zY vs x).i else out) hl hr (by split<;>simp [hlt]) fun y hy=>hu y (by simp [hy])
    unfold yS at *
    rw [List.foldl_cons];exact this
  · have e : x = c := by
     rcases List.mem_cons.1 hc with h | h
     · exact h.symm
     · exact absurd h hl
    subst e
    have:=Yg (vs:=vs) (p:=(zY vs x).p.toNat) l (if (zY vs x).r=0 then out.set (zY vs x).p.toNat (zY vs x).i else out) (fun y hy hr' e=>hl (by rw [←hu y (by simp [hy]) hr' e];exact hy))
    unfold yS at *
    rw [List.foldl_cons,this,if_pos hr,List.getElem?_set_self hlt]
theorem Yh {vs:List Vw} {p:Nat} {u:Int}:∀(l:List Nat) (out:List Int),(yS vs l out)[p]?=some u→out[p]?=some u∨∃x,x∈l∧(zY vs x).r=0∧(zY vs x).p.toNat=p∧(zY vs x).i=u
 | [],_,h=>Or.inl h
 | x::l,out,h=>by
  unfold yS at h
  rw [List.foldl_cons] at h
  rcases Yh l _ h with h1 | ⟨y,hy,h2⟩
  · split at h1
    · rename_i hr
      rw [List.getElem?_set] at h1
      split at h1
      · rename_i e
        split at h1
        · exact Or.inr ⟨x,by simp,hr,e,by simpa using h1⟩
        · cases h1
      · exact Or.inl h1
    · exact Or.inl h1
  · exact Or.inr ⟨y,by simp [hy],h2⟩
def Jg (N:Nat) (vs:List Vw) (i:Nat):List Int:=yS vs (yj vs [i]) (List.replicate N (-1))
theorem uR (N:Nat) (vs:List Vw) (i:Nat):(Jg N vs i).length=N:=by unfold Jg;rw [qU];simp
theorem knows_hit {N:Nat} {vs:List Vw} (h:Wf N vs) {i c:Nat} (hi:i<vs.length) (hc:c∈yj vs [i]) (hr:(zY vs c).r=0):(Jg N vs i)[(zY vs c).p.toNat]?=some (zY vs c).i:=by
 have hb:=jC (h.begv (qe.1 hc).1)
 refine Xl _ _ hc hr (by simp;omega) fun x hx hr' e=>?_
 have hb':=jC (h.begv (qe.1 hx).1)
 exact past_cons h hi hx hc (by omega) (by rw [hr,hr'])
theorem knows_from {N:Nat} {vs:List Vw} {i p:Nat} {u:Int} (hu:u≠-1) (h:(Jg N vs i)[p]?=some u):∃x,x∈yj vs [i]∧(zY vs x).r=0∧(zY vs x).p.toNat=p∧(zY vs x).i=u:=by
 rcases Yh _ _ h with h1 | h1
 · rw [List.getElem?_replicate] at h1
   split at h1
   · cases h1;exact absurd rfl hu
   · cases h1
 · exact h1
end
section
def Good (vs:List Vw) (v:Vw):Prop:=v.r=0∨∀q:Nat,q<5→v.h q=-1∨∃u,At vs (v.h q) u∧u.p=(q:Int)∧u.r=v.r-1
theorem Good.mono {vs us:List Vw} {v:Vw} (h:Good vs v):Good (vs++us) v:=by
 rcases h with h | h
 · exact .inl h
 · refine .inr fun q hq=>?_
   rcases h q hq with h | ⟨u,h1,h2⟩
   · exact .inl h
   · exact .inr ⟨u,h1.mono,h2⟩
def InvT (vs:List Vw):Prop:=∀i (h:i<vs.length),Good (vs.take i) vs[i]
theorem InvT.put {vs:List Vw} {v:Vw} (h:InvT vs) (hv:Good vs v):InvT (xV vs v).1:=by
 unfold xV
 split
 · exact h
 · intro i hi
   have hi2:i<vs.length+1:=by simpa using hi
   by_cases e:i<vs.length
   · have h1:=h i e
     show Good ((vs++[v]).take i) (vs++[v])[i]
     rw [List.take_append_of_le_length (by omega),List.getElem_append_left e]
     exact h1
   · obtain rfl:i=vs.length:=by omega
     show Good ((vs++[v]).take vs.length) (vs++[v])[vs.length]
     rw [List.take_append_of_le_length (Nat.le_refl _),List.take_length,List.getElem_append_right (Nat.le_refl _)]
     simpa using hv
theorem InvT.row {vs:List Vw} {f:Nat→Vw} (h:InvT vs):∀m,(∀p,p<m→Good vs (f p))→InvT (yp f vs m).1
 | 0,_=>h
 | m+1,hf=>by
  rw [yp]
  dsimp only
  refine (h.row m fun p hp=>hf p (by omega)).put ?_
  obtain ⟨us,e⟩:=jO f vs m
  rw [e]
  exact (hf m (by omega)).mono
theorem Yv (vs:List Vw) (n:Nat) (inp:List Int) (word:List Rd) (k q:Nat):(fV vs n inp word k q).p=(q:Int)∧(fV vs n inp word k q).r=(k:Int):=by
 cases k with
 | zero=>exact ⟨rfl,rfl⟩
 | succ k=>exact ⟨rfl,rfl⟩
theorem fV_h (vs:List Vw) (n:Nat) (inp:List Int) (word:List Rd) (k q j:Nat) (hj:j<5):(fV vs n inp word (k+1) q).h j=-1∨(j<n∧(fV vs n inp word (k+1) q).h j=(vG vs n inp word k).getD j 0):=by
 show (qa (word.getD k default) (k+1) q (vG vs n inp word k)).h j=-1∨_
 have e:(fV vs n inp word (k+1) q).h j=yb (word.getD k default) q (vG vs n inp word k) j:=js _ _ _ _ j hj
 rw [js _ _ _ _ j hj,e]
 unfold yb
 split
 · rename_i h
   rw [kX] at h
   exact .inr ⟨h.1,rfl⟩
 · exact .inl rfl
theorem InvT.play {vs:List Vw} (n:Nat) (inp:List Int) (word:List Rd) (h:InvT vs):∀j,InvT (zI vs n inp word j).1
 | 0=>by rw [zI];exact h.row n fun p _=>.inl rfl
 | j+1=>by
  have ih:=h.play n inp word j
  rw [zI]
  refine ih.row n fun p hp=>.inr fun q hq=>?_
  have hh:=fV_h vs n inp word j p q hq
  have e:fV vs n inp word (j+1) p=qa (word.getD j default) (j+1) p ((zI vs n inp word j).2.getD j []):=rfl
  rw [e] at hh
  rcases hh with hh | ⟨h1,h2⟩
  · exact .inl hh
  · refine .inr ⟨fV vs n inp word j q,?_,(Yv ..).1,?_⟩
    · rw [h2];exact vx vs n inp word j j q (Nat.le_refl _) h1
    · rw [(Yv ..).2];show (j:Int)=((j+1:Nat):Int)-1;omega
theorem InvT.run (p:Pb) (l:List (Nat×List Rd)):InvT (zK p l).1:=by
 have key:∀n,n≤l.length→InvT (zK p (l.take n)).1:=by
  intro n
  induction n with
  | zero=>intro _ i hi;simp [kV] at hi
  | succ n ih=>
   intro hn
   rw [List.take_succ_eq_append_getElem (by omega),qb]
   exact (ih (by omega)).play _ _ _ _
 have h:=key l.length (Nat.le_refl _)
 rwa [List.take_length] at h
theorem wg {t:Tk}:∀ {q:Option Cs} {l:List Cs},qN t q l=0→∀c∈l,zP c.inp t.n t.ins=0
 | _,[],_,c,hc=>by cases hc
 | q,d::l,h,c,hc=>by
  rw [qN] at h
  split at h
  · rename_i h1;exact absurd h h1
  · rename_i h1
    rcases List.mem_cons.1 hc with rfl | hc
    · have h2:qu t q c=0:=by simpa using h1
      unfold qu at h2
      split at h2
      · rename_i h3;exact absurd h2 h3
      · rename_i h3;simpa using h3
    · exact wg h c hc
theorem task_vec {t:Tk} (h:xr t=0):∀c∈t.cases,(c.inp.length:Int)=t.n∧∀i∈c.inp,0≤i∧i<8:=by
 unfold xr at h
 split at h
 · cases h
 · rename_i hb
   split at h
   · cases h
   · intro c hc
     have h4:=wg (by unfold xG at h;rwa [List.drop_zero] at h) c hc
     unfold zP at h4
     split at h4
     · cases h4
     · rename_i h5
       split at h4
       · cases h4
       · rename_i h6
         refine ⟨by simpa using h5,fun i hi=>?_⟩
         have h7:¬km t.ins i=true:=fun e=>h6 (List.any_eq_true.2 ⟨i,hi,e⟩)
         unfold km at h7
         have h8:¬(i<0∨t.ins≤i):=by simpa using h7
         omega
theorem Jy {vs:List Vw}:∀ {l:List Nat},(l.Pairwise fun a b=>vX vs a b=false)→Yy vs l=true
 | [],_=>rfl
 | a::l,h=>by
  obtain ⟨h1,h2⟩:=List.pairwise_cons.1 h
  unfold Yy
  rw [Jy h2,Bool.and_true,List.all_eq_true]
  exact fun b hb=>by rw [h1 b hb];rfl
theorem wk {vs:List Vw} {i:Int} {v:Vw} (h:At vs i v):zY vs i.toNat=v:=by
 unfold zY
 rw [List.getD_eq_getElem?_getD,h.2];rfl
theorem pastL_lt (vs:List Vw) (l:List Nat):(yj vs l).Pairwise (·<·):=(List.pairwise_lt_range (n:=vs.length)).filter _
theorem built_wf {p:Pb} {K N:Nat} (h0:zV p=0) (hF:Fine (zx p) K N):Wf (zx p).n (zx p).vs:=by
 obtain ⟨hpt,hpa,hpn,hk0,hk6⟩:=zX h0
 have hvec:=task_vec hpt
 obtain ⟨f1,f2,f3⟩:=ZK p (zy p)
 have hinv:InvT (zx p).vs:=InvT.run p (zy p)
 have hN:(zx p).n=(N:Int):=hF.n
 have hNN:p.t.n.toNat=N:=by have:p.t.n=(N:Int):=hF.pn;omega
 have h1N:=hF.n1
 have h5N:=hF.n5
 refine ⟨by omega,by omega,fun i hi=>?_⟩
 have hg:zY (zx p).vs i=(zx p).vs[i]:=jw hi
 obtain ⟨v,hv⟩:∃v,(zx p).vs[i]=v:=⟨_,rfl⟩
 have hgood:=hinv i hi
 rw [hv] at hg hgood
 have hmem:v∈(zx p).vs:=by rw [←hv];exact List.getElem_mem hi
 obtain ⟨⟨pv,hp1,hp2⟩,⟨rv,hr1,hr2⟩,hown⟩:=hF.vs v hmem
 obtain ⟨y,hy,vs0,k,q,hk,hq,e,us,hus⟩:=f2 v hmem
 have hyc:∃c∈p.t.cases,yf p y.1=c.inp:=by
  unfold zy at hy
  obtain ⟨d,hd,hy⟩:=List.mem_flatMap.1 hy
  obtain ⟨w',hw',rfl⟩:=List.mem_map.1 hy
  have hd2:d<p.t.cases.length:=by simpa using hd
  refine ⟨p.t.cases[d],List.getElem_mem hd2,?_⟩
  show (p.t.cases.getD d default).inp=_
  rw [List.getD_eq_getElem?_getD,List.getElem?_eq_getElem hd2];rfl
 obtain ⟨c,hc,hcin⟩:=hyc
 obtain ⟨hcl,hci⟩:=hvec c hc
 have hat:∀k' q',k'≤y.2.length→q'<N→At (zx p).vs ((vG vs0 p.t.n.toNat (yf p y.1) y.2 k').getD q' 0) (fV vs0 p.t.n.toNat (yf p y.1) y.2 k' q'):=fun k' q' a b=>by
  show At (zK p (zy p)).1 _ _
  rw [hus]
  exact (vx vs0 p.t.n.toNat (yf p y.1) y.2 y.2.length k' q' a (by omega)).mono
 have hbeg:JH (zx p).n v=0:=by
  have hpr:=Yv vs0 p.t.n.toNat (yf p y.1) y.2 k q
  rw [←e] at hpr
  unfold JH
  rw [if_neg,if_neg,if_neg]
  · intro hh
    rw [List.any_eq_true] at hh
    obtain ⟨j,hj,hb⟩:=hh
    have hj5:j<5:=by simpa using hj
    unfold begBad at hb
    have hb2:v.h j≠-1∧(v.r=0∨(zx p).n≤(j:Int)):=by simpa using hb
    cases k with
    | zero=>
     have:v.h j=-1:=by
      rw [e]
      match j,hj5 with
      | 0,_=>rfl
      | 1,_=>rfl
      | 2,_=>rfl
      | 3,_=>rfl
      | 4,_=>rfl
     exact hb2.1 this
    | succ k=>
     have hh:=fV_h vs0 p.t.n.toNat (yf p y.1) y.2 k q j hj5
     rw [←e] at hh
     rcases hh with hh | ⟨hh,_⟩
     · exact hb2.1 hh
     · rcases hb2.2 with h | h
       · have:=hpr.2;omega
       · omega
  · rintro ⟨h1,h2⟩
    apply h2
    rw [e]
    cases k with
    | zero=>have:=hpr.2;omega
    | succ k=>rfl
  · unfold begOut
    have h3:v.r=0→0≤v.i∧v.i<8:=fun hr=>by
     have hk0:k=0:=by have:=hpr.2;omega
     subst hk0
     rw [e]
     have hql:q<c.inp.length:=by omega
     have h9:(yf p y.1).getD q 0=c.inp[q]:=by rw [hcin,List.getD_eq_getElem?_getD,List.getElem?_eq_getElem hql];rfl
     have h10:=hci _ (List.getElem_mem hql)
     rw [←h9] at h10
     exact h10
    have h6:=hF.k6
    simp only [decide_eq_true_eq]
    omega
 have hchk:kD (zx p).n ((zx p).vs.take i) v=0:=by
  by_cases hr0:v.r=0
  · unfold kD;rw [if_pos (.inr hr0)];exact hbeg
  have hlink:∀q,q<5→Yd ((zx p).vs.take i) v q=0:=fun j hj=>by
   unfold Yd
   rcases hgood with h | h
   · exact absurd h hr0
   · rcases h j hj with h | ⟨u,h1,h2,h3⟩
     · rw [if_pos h]
     · have hlt:=h1.lt
       rw [if_neg (by omega),if_neg (by omega),wk h1,if_neg (by omega)]
  unfold kD
  rw [if_neg (by intro h;rcases h with h | h;exact h hbeg;exact hr0 h),if_neg (by rw [wV.2 hlink];simp)]
  obtain ⟨u,hu,_,_⟩:=hown (by omega)
  rw [if_neg (by have:=hu.1;omega),if_pos]
  -- what is reached lies in one execution
  have htk:∀a,a<i→zY ((zx p).vs.take i) a=zY (zx p).vs a:=fun a ha=>je ha
  let S:Nat→Prop:=fun a=>∃k' q':Nat,k'≤y.2.length∧q'<N∧((a:Nat):Int)=(vG vs0 p.t.n.toNat (yf p y.1) y.2 k').getD q' 0
  have hac:Y5 ((zx p).vs.take i):=fun a ha b hb=>by
   have ha2:a<i∧a<(zx p).vs.length:=by rw [List.length_take] at ha;omega
   rw [htk a ha2.1,jw ha2.2] at hb
   obtain ⟨g1,j,hj,g2,rfl⟩:=jb.1 hb
   rcases hinv a ha2.2 with h | h
   · omega
   · rcases h j hj with h | ⟨u,h1,_⟩
     · omega
     · have:=h1.lt;rw [List.length_take] at this;omega
  have hkid:∀w k' q',k'≤y.2.length→q'<N→w=fV vs0 p.t.n.toNat (yf p y.1) y.2 k' q'→∀b,b∈xt w→S b:=fun w k' q' hk' hq' ew b hb=>by
   obtain ⟨g1,j,hj,g2,rfl⟩:=jb.1 hb
   cases k' with
   | zero=>rw [ew] at g1;exact absurd g1 (by show ¬(0:Int)<0;omega)
   | succ k'=>
    have hh:=fV_h vs0 p.t.n.toNat (yf p y.1) y.2 k' q' j hj
    rw [←ew] at hh
    rcases hh with hh | ⟨h1,h2⟩
    · omega
    · exact ⟨k',j,by omega,by omega,by omega⟩
  have hS:∀a,a<((zx p).vs.take i).length→S a→∀b,b∈xt (zY ((zx p).vs.take i) a)→S b:=fun a ha hSa b hb=>by
   have ha2:a<i:=by rw [List.length_take] at ha;omega
   obtain ⟨k',q',h1,h2,h3⟩:=hSa
   rw [htk a ha2] at hb
   refine hkid _ k' q' h1 h2 ?_ b hb
   have h4:=wk (hat k' q' h1 h2)
   rw [←h3,Int.toNat_natCast] at h4
   exact h4
  have hin:∀x,x∈yj ((zx p).vs.take i) (xt v)→S x∧x<i:=fun x hx=>by
   obtain ⟨g1,c',hc',hre⟩:=qY.1 hx
   have hSc:=hkid v k q hk (by omega) e c' hc'
   have hcl':c'<((zx p).vs.take i).length:=by
    obtain ⟨g1,j,hj,g2,rfl⟩:=jb.1 hc'
    rcases hgood with h | h
    · exact absurd h hr0
    · rcases h j hj with h | ⟨u,h1,_⟩
      · omega
      · have:=h1.lt;omega
   exact ⟨XO hac hS hcl' hSc hre,by rw [List.length_take] at g1;omega⟩
  refine Jy ?_
  refine List.Pairwise.imp_of_mem (fun {a b} ha hb hab=>?_) (pastL_lt _ _)
  obtain ⟨⟨k1,q1,a1,a2,a3⟩,a4⟩:=hin a ha
  obtain ⟨⟨k2,q2,b1,b2,b3⟩,b4⟩:=hin b hb
  unfold vX
  rw [decide_eq_false_iff_not]
  rintro ⟨e1,e2⟩
  rw [htk a a4,htk b b4] at e1 e2
  have h4:=wk (hat k1 q1 a1 a2)
  rw [←a3,Int.toNat_natCast] at h4
  have h5:=wk (hat k2 q2 b1 b2)
  rw [←b3,Int.toNat_natCast] at h5
  rw [h4,h5,(Yv ..).1,(Yv ..).1] at e1
  rw [h4,h5,(Yv ..).2,(Yv ..).2] at e2
  obtain rfl:q1=q2:=by omega
  obtain rfl:k1=k2:=by omega
  rw [←b3] at a3
  omega
 unfold rowE
 rw [hg,if_neg (by rw [hchk];simp),if_neg]
 intro hm
 obtain ⟨a,ha,ea⟩:=List.getElem_of_mem hm
 rw [List.getElem_take] at ea
 have ha2:a<i:=by rw [List.length_take] at ha;omega
 have hi':i<(zK p (zy p)).1.length:=hi
 have:=nodup_idx f3 (show a<(zK p (zy p)).1.length by omega) hi' (ea.trans hv.symm)
 omega
end
section
open Go.RowKit
theorem hrd_reach {s:Sy} {K N:Nat} (hF:Fine s K N) (hw:Wf s.n s.vs) (hl:LowV s.vs):∀i,i<s.vs.length→∃S:Nat,(qj s.vs s.vs.length).getD i 0=(S:Int)∧S<32∧∀o,o<5→(S.testBit o=true↔∃j,j<s.vs.length∧reach s.vs i j=true∧(zY s.vs j).r=0∧(zY s.vs j).p=(o:Int)):=by
 have hn5:=hF.n5
 have hsm:=Xm hl (fun v hv=>by obtain ⟨⟨p,h1,h2⟩,_⟩:=hF.vs v hv;exact ⟨p,h1,by omega⟩)
 intro i
 induction i using Nat.strongRecOn with
 | ind i ih=>
  intro hi
  obtain ⟨⟨p,hp,hpN⟩,⟨r,hr,_⟩,hown⟩:=hF.vs _ (List.getElem_mem hi)
  obtain ⟨S,e,hS,hb⟩:=jV hl hi hp (by omega) (fun j hj=>hsm j (by omega))
  have hg:=jw hi
  refine ⟨S,e,hS,fun o ho=>(hb o ho).trans ?_⟩
  have kid:∀q,q<5→0<s.vs[i].r→0≤s.vs[i].h q→(s.vs[i].h q).toNat∈xt (zY s.vs i)∧(s.vs[i].h q).toNat<i:=fun q hq h0 h1=>by
   refine ⟨by rw [hg];exact jb.2 ⟨h0,q,hq,h1,rfl⟩,?_⟩
   have:=hl i hi q hq
   omega
  constructor
  · rintro (rfl | ⟨h0,q,hq,h1,T,eT,hT⟩)
    · by_cases h0:0<s.vs[i].r
      · obtain ⟨u,hu,hup,_⟩:=hown h0
        have hlt:=hu.lt
        have ep:s.vs[i].p.toNat=o:=by rw [hp];rfl
        rw [ep] at hu hlt
        obtain ⟨k1,k2⟩:=kid o ho h0 hlt.1
        obtain ⟨T,eT,_,hT⟩:=ih _ k2 (by omega)
        have hgu:=wk hu
        obtain ⟨S',e',_,hb'⟩:=jV hl (i:=(s.vs[i].h o).toNat) (by omega) (p:=o) (by rw [←jw (by omega),hgu,hup,hp]) ho (fun j hj=>hsm j (by omega))
        have hbit:T.testBit o=true:=by
         have:S'=T:=by rw [e'] at eT;omega
         rw [←this]
         exact (hb' o ho).2 (.inl rfl)
        obtain ⟨j,j1,j2,j3,j4⟩:=(hT o ho).1 hbit
        exact ⟨j,j1,(xO hw.acyc hi).2 (.inr ⟨_,k1,j2⟩),j3,j4⟩
      · exact ⟨i,hi,reach_self _ _,by rw [hg];omega,by rw [hg];exact hp⟩
    · obtain ⟨k1,k2⟩:=kid q hq h0 h1
      obtain ⟨T',eT',_,hT'⟩:=ih _ k2 (by omega)
      have:T=T':=by rw [eT'] at eT;omega
      subst this
      obtain ⟨j,j1,j2,j3,j4⟩:=(hT' o ho).1 hT
      exact ⟨j,j1,(xO hw.acyc hi).2 (.inr ⟨_,k1,j2⟩),j3,j4⟩
  · rintro ⟨j,j1,j2,j3,j4⟩
    rcases (xO hw.acyc hi).1 j2 with rfl | ⟨c,hc,hcj⟩
    · rw [hg] at j4
      exact .inl (by omega)
    · rw [hg] at hc
      obtain ⟨h0,q,hq,h1,rfl⟩:=jb.1 hc
      obtain ⟨_,k2⟩:=kid q hq h0 h1
      obtain ⟨T,eT,_,hT⟩:=ih _ k2 (by omega)
      exact .inr ⟨h0,q,hq,h1,T,eT,(hT o ho).2 ⟨j,j1,hcj,j3,j4⟩⟩
theorem hrd_known {s:Sy} {K N:Nat} (hF:Fine s K N) (hw:Wf s.n s.vs) (hl:LowV s.vs) {i o:Nat} (hi:i<s.vs.length) (ho:o<N) :
  decide (0≤(yS s.vs (yj s.vs [i]) (List.replicate N (-1))).getD o 0)=((qj s.vs s.vs.length).getD i 0).toNat.testBit o:=by
 have hn:=hF.n
 have hn5:=hF.n5
 rw [hn] at hw
 obtain ⟨S,e,_,hb⟩:=hrd_reach hF (by rw [hn];exact hw) hl i hi
 rw [e,Int.toNat_natCast]
 have hlen:(yS s.vs (yj s.vs [i]) (List.replicate N (-1))).length=N:=uR N s.vs i
 have hk:∀u,(yS s.vs (yj s.vs [i]) (List.replicate N (-1)))[o]?=some u→(0≤u↔S.testBit o=true):=fun u hu=>by
  constructor
  · intro h0
    obtain ⟨x,x1,x2,x3,_⟩:=knows_from (N:=N) (vs:=s.vs) (i:=i) (p:=o) (u:=u) (by omega) hu
    obtain ⟨y1,y2⟩:=qe.1 x1
    have hb':=jC (hw.begv y1)
    exact (hb o (by omega)).2 ⟨x,y1,y2,x2,by omega⟩
  · intro h0
    obtain ⟨j,j1,j2,j3,j4⟩:=(hb o (by omega)).1 h0
    have h1:=knows_hit hw hi (qe.2 ⟨j1,j2⟩) j3
    have hb':=jC (hw.begv j1)
    have e2:(zY s.vs j).p.toNat=o:=by omega
    rw [e2] at h1
    have h2:(Jg N s.vs i)[o]?=some u:=hu
    rw [h1] at h2
    have:=hb'.2.2.2.2.1 j3
    cases h2
    exact this.1
 have h1:o<(yS s.vs (yj s.vs [i]) (List.replicate N (-1))).length:=by omega
 have h2:=hk _ (List.getElem?_eq_getElem h1)
 rw [List.getD_eq_getElem?_getD,List.getElem?_eq_getElem h1]
 simp only [Option.getD_some]
 by_cases hc:S.testBit o=true
 · rw [hc,decide_eq_true (h2.2 hc)]
 · have:S.testBit o=false:=by simpa using hc
   rw [this,decide_eq_false (fun h=>hc (h2.1 h))]
end
section
open Go.RowKit
theorem keep10 {W0 X:World} {B g b o0 o1 o2 o3 o4 o5 o6 o7:Nat} {u0 u1 u2 u3 u4 u5 u6 u7 u8 u9:Value} (hb:Below B W0 X) (hg:g<B) (hbb:b<B)
  (h:W0.cell? ⟨g,0,none⟩=some u0∧W0.cell? ⟨g,1,none⟩=some u1∧W0.cell? ⟨b,o0,none⟩=some u2∧W0.cell? ⟨b,o1,none⟩=some u3∧W0.cell? ⟨b,o2,none⟩=some u4 ∧
   W0.cell? ⟨b,o3,none⟩=some u5∧W0.cell? ⟨b,o4,none⟩=some u6∧W0.cell? ⟨b,o5,none⟩=some u7∧W0.cell? ⟨b,o6,none⟩=some u8∧W0.cell? ⟨b,o7,none⟩=some u9) :
  X.cell? ⟨g,0,none⟩=some u0∧X.cell? ⟨g,1,none⟩=some u1∧X.cell? ⟨b,o0,none⟩=some u2∧X.cell? ⟨b,o1,none⟩=some u3∧X.cell? ⟨b,o2,none⟩=some u4 ∧
   X.cell? ⟨b,o3,none⟩=some u5∧X.cell? ⟨b,o4,none⟩=some u6∧X.cell? ⟨b,o5,none⟩=some u7∧X.cell? ⟨b,o6,none⟩=some u8∧X.cell? ⟨b,o7,none⟩=some u9:=by
 obtain ⟨h0,h1,h2,h3,h4,h5,h6,h7,h8,h9⟩:=h
 exact ⟨(hb.cell hg).trans h0,(hb.cell hg).trans h1,(hb.cell hbb).trans h2,(hb.cell hbb).trans h3,(hb.cell hbb).trans h4,(hb.cell hbb).trans h5,(hb.cell hbb).trans h6,(hb.cell hbb).trans h7,(hb.cell hbb).trans h8,(hb.cell hbb).trans h9⟩
theorem keep3 {W0 X:World} {B g b o0:Nat} {u0 u1 u2:Value} (hb:Below B W0 X) (hg:g<B) (hbb:b<B)
  (h:W0.cell? ⟨g,0,none⟩=some u0∧W0.cell? ⟨g,1,none⟩=some u1∧W0.cell? ⟨b,o0,none⟩=some u2) :
  X.cell? ⟨g,0,none⟩=some u0∧X.cell? ⟨g,1,none⟩=some u1∧X.cell? ⟨b,o0,none⟩=some u2:=by
 obtain ⟨h0,h1,h2⟩:=h
 exact ⟨(hb.cell hg).trans h0,(hb.cell hg).trans h1,(hb.cell hbb).trans h2⟩
def kQ (n:Nat) (vs:List Vw) (i:Nat):Prop:=∀(A:Option Addr) (cap:Nat) (w:World),TAg w A vs →
 Calls Tryz.prog 127 #[.agg #[.int .i64 n,.slice A vs.length cap],.int .i64 i] w (vF (yH (yj vs [i])) w)
def YM (n:Nat) (vs:List Vw) (v:Vw):Prop:=∀(A:Option Addr) (cap:Nat) (w:World),TAg w A vs →
 Calls Tryz.prog 147 #[.agg #[.int .i64 n,.slice A vs.length cap],.agg v.cells] w (vF (yH (yj vs (xt v))) w)
theorem castL_kids (v:Vw):yH (xt v)=(ul v).map (·.2):=by
 unfold yH xt
 rw [List.map_map]
 refine List.map_congr_left fun x hx=>?_
 obtain ⟨_,q,_,rfl,h0⟩:=ui.1 hx
 simp
 omega
set_option maxRecDepth 100000 in
theorem Qi (n:Nat) (vs:List Vw) (i:Nat) (hi:i<vs.length) (ha:Y5 vs) (hb:YM n vs (zY vs i)):kQ n vs i:=by
 intro A cap w hT
 have HP:=zH (past_self ha hi)
 rw [jw hi] at HP hb
 have HBS:=zH hb
 have HT:=zH hT
 have hfew:=hT.few
 clear hb hT
 go_enter Tryz.func127,Tryz.ntmps127
 go_upto_region 1 with fail
 go_cut [4] (fun s4 wx=>Own wx w.heap.size s4 (yH (yj vs [i]))∧Below w.heap.size w wx)
 case first=>
  refine wp_one ?_
  intro W0 b0 hsz hB0
  have hT0:=HT.out.keep hB0
  have t0:=zh b0 0 rfl
  have t1:=zh b0 1 rfl
  have hi0:(0:Int)≤(i:Int):=by omega
  have hi1:(i:Int)<(vs.length:Int):=by omega
  obtain ⟨b,off,rfl,hb1,c0,c1,c2,c3,c4,c5,c6,c7⟩:=hT0.rows.row i hi
  have hTX:∀X:World,Below W0.heap.size W0 X→TAg X (some ⟨b,off,none⟩) vs:=fun X hX=>hT0.keep hX
  have HTX:=zH hTX
  clear hTX hT0
  have hbw:w.heap.size<W0.heap.size:=by omega
  clear hsz
  go_region_held3 (fun w'=>w'.cell? ⟨w.heap.size,0,none⟩=some (.int .i64 n)∧w'.cell? ⟨w.heap.size,1,none⟩=some (.slice (some ⟨b,off,none⟩) vs.length cap) ∧
    w'.cell? ⟨b,off+i*8,none⟩=some (.int .i64 vs[i].p)∧w'.cell? ⟨b,off+i*8+1,none⟩=some (.int .i64 vs[i].r)∧w'.cell? ⟨b,off+i*8+2,none⟩=some (.int .i64 vs[i].i) ∧
    w'.cell? ⟨b,off+i*8+3,none⟩=some (.int .i64 vs[i].h0)∧w'.cell? ⟨b,off+i*8+4,none⟩=some (.int .i64 vs[i].h1)∧w'.cell? ⟨b,off+i*8+5,none⟩=some (.int .i64 vs[i].h2) ∧
    w'.cell? ⟨b,off+i*8+6,none⟩=some (.int .i64 vs[i].h3)∧w'.cell? ⟨b,off+i*8+7,none⟩=some (.int .i64 vs[i].h4))
   (first
    | exact ⟨t0,t1,c0,c1,c2,c3,c4,c5,c6,c7⟩
    | (refine keep10 (W0 := W0) (B := W0.heap.size) ?_ hbw hb1 ⟨t0, t1, c0, c1, c2, c3, c4, c5, c6, c7⟩
       first
        | exact (zW W0 _).drew
        | exact qO hb1'
        | exact (qO hb1').alloc (qO hb1').size _
        | exact ((qO hb1').alloc (qO hb1').size _).trans (hb2.mono (by have:=(qO hb1').size;simp;omega))
        | exact (zW W0 _).trans ((qO hb1').mono (by simp))
        | exact ((zW W0 _).trans ((qO hb1').mono (by simp))).trans (hb2.mono (by have:=(qO hb1').size;simp at this;omega))))
   (first
    | (go_at_call 147;refine (HBS.out _ _ _ (HTX.out _ (by repeat (first | exact Below.refl _ _ | refine Below.drew ?_ | refine zR ?_ _ | refine Below.alloc ?_ (by simp) _)))).mono ?_;rintro e w1 ⟨v1,rfl,ho1,hb1'⟩;obtain ⟨A1,c1',rfl,hle1,hm1,hi1'⟩:=ho1.form)
    | (go_at_call 146;refine (Y9 _ _ _ _ (yH (yj vs (xt vs[i]))) [(i:Int)] _ (by first | exact hi1'.up (zW _ _) | exact hi1') (by first | exact IAt.box _ _ _ | exact (IAt.box W0 _ _).up (qO hb1')) hle1 (Nat.le_refl 1) hm1 (by unfold maxLen;omega) (by rw [qh];have:=YI vs.length (fun x=>(xt vs[i]).any fun c=>reach vs c x);simp;omega)).mono ?_;rintro e w2 ⟨v2,rfl,ho2,hb2⟩))
  all_goals
   go_wp2_with fail
   go_meet
  · have hp:=Z5 ho2 hb2 ((hB0.trans ((qO hb1').mono (Nat.le_of_lt hbw))).alloc (by have:=(qO hb1').size;omega) _)
    rw [HP.out] at hp
    exact hp
  · have hp:=Z5 ho2 hb2 (hB0.trans (((zW W0 _).trans ((qO hb1').mono (by simp))).mono (Nat.le_of_lt hbw)))
    rw [HP.out] at hp
    exact hp
 case rest=>
  obtain ⟨h1,h2⟩:=hcut
  go_wp2
  go_ret
  exact ⟨_,rfl,h1,h2⟩
set_option maxRecDepth 100000 in
theorem before_of (n:Nat) (hn:n≤5) (vs:List Vw) (v:Vw) (_hk:∀c,c∈xt v→c<vs.length) (hh:yr v n=ul v) (hc:∀c,c∈xt v→kQ n vs c):YM n vs v:=by
 intro A cap w hT
 have HC:=zH hc
 have HT:=zH hT
 have hfew:=hT.few
 have HH:=zH hh
 have hk5:(xt v).length≤5:=by
  unfold xt ul yr
  rw [List.length_map]
  split
  · exact Nat.le_trans (List.length_filterMap_le _ _) (by simp)
  · simp
 clear hc hT hh
 unfold Vw.cells
 go_enter Tryz.func147,Tryz.ntmps147
 go_wp2_with fail
 refine (J9 n (.slice A vs.length cap) v _ hn).mono ?_
 rintro e w1 ⟨v1,rfl,ho1,hb1⟩
 rw [HH.out,←castL_kids] at ho1
 obtain ⟨A1,c1,rfl,hle1,hm1,hi1⟩:=ho1.form
 rw [xB]
 go_wp2_with fail
 obtain ⟨b0,b1,hsz,hB1⟩:=two_kept hb1
 have hO1:=zH ho1
 have hI1:=zH hi1
 clear ho1 hi1 hb1
 have hT1:=zH (HT.out.keep hB1)
 go_loopw [5,7] (fun o i wr=>∃k:Nat,k≤(xt v).length∧i=.int .i64 k∧Own wr w1.heap.size o (yH (yj vs ((xt v).take k)))∧Below w1.heap.size w1 wr) (fun _ i _=>(xt v).length-(intOf i).toNat)
 case atStart=>exact ⟨0,by omega,rfl,by rw [List.take_zero,show yH (yj vs [])=[] from by simp [yj,yH]];exact Own.nil _ _,Below.refl _ _⟩
 case round=>
  obtain ⟨k,hk,rfl,hown,hbl⟩:=hrel
  have hO:=zH hown
  have hBL:=zH hbl
  by_cases hlt:k<(xt v).length
  · have d0:=jj b0 hbl (by omega)
    have t0:=zh d0 0 rfl
    have t1:=zh d0 1 rfl
    obtain ⟨b,off,rfl,hb1,c0⟩:=(hI1.out.up hbl).at_ k (by rw [xB];exact hlt)
    obtain ⟨c,hce⟩:∃c,c=(xt v)[k]:=⟨_,rfl⟩
    have hcv:(yH (xt v))[k]'(by rw [xB];exact hlt)=(c:Int):=by simp [yH,hce]
    rw [hcv] at c0
    have hcm:c∈xt v:=by rw [hce];exact List.getElem_mem hlt
    have hkid:=HC.out c hcm
    have HK:=zH hkid
    have hTr:=hT1.out.keep hbl
    have HTX:Hid (∀X:World,Below wr.heap.size wr X→TAg X A vs):=fun X hX=>hTr.keep hX
    have hsnoc:Hid (yH (yj vs ((xt v).take (k+1)))=ye (yH (yj vs ((xt v).take k))) (yH (yj vs [c]))):=by
     show _=_
     rw [List.take_succ_eq_append_getElem hlt,←hce,past_snoc]
    have hk0:(0:Int)≤(k:Int):=by omega
    have hk1:(k:Int)<((xt v).length:Int):=by omega
    have hgw:w.heap.size<wr.heap.size:=by have:=hbl.size;omega
    obtain ⟨A5,c5,rfl,hle5,hm5,hi5⟩:=hown.form
    have HI5:=zH hi5
    have HO5:=zH hown
    clear hce hcv hkid hTr hown hbl hi5 hk hcm
    go_wp2_with fail
    go_region_held3 (fun w'=>w'.cell? ⟨w.heap.size,0,none⟩=some (.int .i64 n)∧w'.cell? ⟨w.heap.size,1,none⟩=some (.slice A vs.length cap)∧w'.cell? ⟨b,off+k,none⟩=some (.int .i64 c))
     (first
      | exact ⟨t0,t1,c0⟩
      | (refine keep3 (W0:=wr) (B:=wr.heap.size) ?_ hgw hb1 ⟨t0,t1,c0⟩;first | exact qO hb1' | exact (qO hb1').trans (hb2.mono (qO hb1').size)))
     (first
      | (go_at_call 127;refine (HK.out _ _ _ (HTX.out _ (by repeat (first | exact Below.refl _ _ | refine Below.drew ?_ | refine zR ?_ _ | refine Below.alloc ?_ (by simp) _)))).mono ?_;rintro e w2 ⟨v2,rfl,ho2,hb1'⟩;obtain ⟨A2,c2,rfl,hle2,hm2,hi2⟩:=ho2.form)
      | (go_at_call 146;refine (Y9 _ _ _ _ (yH (yj vs ((xt v).take k))) (yH (yj vs [c])) _ (HI5.out.up (qO hb1')) hi2 hle5 hle2 hm5 hm2 (by have:=Z3 vs ((xt v).take k);have:=Z3 vs [c];omega)).mono ?_;rintro e w3 ⟨v3,rfl,ho3,hb2⟩))
    go_wp2_with fail
    have hp:=Z5 ho3 hb2 (hBL.out.trans ((qO hb1').mono hBL.out.size))
    rw [←hsnoc.out] at hp
    go_roundw
    case rel=>exact ⟨k+1,by omega,by go_num,hp.1,hp.2⟩
    case measure=>simp [intOf];omega
  · obtain rfl:k=(xt v).length:=by omega
    rw [List.take_length] at hO
    go_wp2_with fail
    go_ret
    exact ⟨_,rfl,hO.out.low (by omega),hB1.trans (hBL.out.mono (by omega))⟩
theorem kids_lt {n:Nat} {vs:List Vw} {v:Vw} (h:kD (n:Int) vs v=0) (hn:n≤5):(∀c,c∈xt v→c<vs.length)∧yr v n=ul v:=by
 refine ⟨fun c hc=>(kid_ok h hc).1,?_⟩
 have hb:=jC (vC h).1
 have key:∀m,n≤m→m≤5→yr v m=yr v n:=by
  intro m
  induction m with
  | zero => intro h1 _; obtain rfl : n = 0 := by omega
            rfl
  | succ m ih=>
   intro h1 h2
   by_cases e:n=m+1
   · subst e;rfl
   · rw [Yl,ih (by omega) (by omega)]
     rintro ⟨_,h4⟩
     have:=(hb.2.2.2.2.2.2 m (by omega) (by omega)).2
     omega
 exact (key 5 hn (Nat.le_refl 5)).symm
theorem YZ {n:Nat} {vs:List Vw} (h:Wf (n:Int) vs):∀i,i<vs.length→kQ n vs i:=by
 intro i
 induction i using Nat.strongRecOn with
 | _ i ih=>
  intro hi
  have hr:=(XK (h.2.2 i hi)).1
  have hk:=kids_lt hr (by have:=h.2.1;omega)
  refine Qi n vs i hi h.acyc (before_of n (by have:=h.2.1;omega) vs _ (fun c hc=>?_) hk.2 (fun c hc=>?_))
  · have:=hk.1 c hc;simp at this;omega
  · have:=h.acyc i hi c hc
    exact ih c this (by omega)
end
section
open Go.RowKit
theorem make_row (n:Nat) (h1:1≤n) (h5:n≤5) (W:World):(Instr.makeSlice 36 (.int .i64 n) (.int .i64 n)).run Tryz.prog W=.ok (.slice (some ⟨W.heap.size,0,none⟩) n n) (W.alloc (.cells ((List.replicate n 0).map (Value.int .i64)).toArray 3)):=by
 obtain rfl | rfl | rfl | rfl | rfl:n=1∨n=2∨n=3∨n=4∨n=5:=by omega
 all_goals kernel_rfl
theorem all_minus {xs:List Int} {n:Nat} (hl:xs.length=n) (h:∀j,j<n→xs[j]?=some (-1)):xs=List.replicate n (-1):=by
 refine List.ext_getElem? fun j=>?_
 by_cases hj:j<n
 · rw [h j hj];simp [hj]
 · rw [List.getElem?_eq_none (by omega),List.getElem?_eq_none (by simp;omega)]
set_option maxRecDepth 100000 in
theorem known_any (n:Nat) (A:Option Addr) (cap:Nat) (vs:List Vw) (hw:Wf (n:Int) vs) (i:Nat) (hi:i<vs.length) (w:World) (hT:TAg w A vs) :
  Calls Tryz.prog 99 #[.agg #[.int .i64 n,.slice A vs.length cap],.int .i64 i] w (vF (yS vs (yj vs [i]) (List.replicate n (-1))) w):=by
 have HT:=zH hT
 have HW:=zH hw
 have hfew:=hT.few
 have hn1:1≤n:=by have:=hw.1;omega
 have hn5:n≤5:=by have:=hw.2.1;omega
 clear hT hw
 go_enter Tryz.func99,Tryz.ntmps99
 have hmk:=make_row n hn1 hn5
 obtain ⟨ar,har⟩:∃ar,((List.replicate n 0).map (Value.int .i64)).toArray=ar:=⟨_,rfl⟩
 rw [har] at hmk
 have HAR:=zH har
 clear har
 go_wp2_with fail
 obtain ⟨W0,hW0,b0,b1,hsz,hB0⟩:=twoboxes w #[.int .i64 n,.slice A vs.length cap] ar 32 3
 rw [hW0]
 clear hW0 hmk
 obtain ⟨g5,hg5⟩:∃g5,g5=w.heap.size+1:=⟨_,rfl⟩
 rw [←hg5] at b1 ⊢
 have b2:RowAt W0 g5 (List.replicate n 0):=by unfold RowAt;rw [HAR.out];exact b1
 have hgw:w.heap.size<g5:=by omega
 have HG5:=zH hg5
 clear hg5
 go_loopw [6] (fun l wr=>∃(k:Nat) (xs:List Int),k≤n∧l=.int .i64 k∧xs.length=n∧RowAt wr g5 xs∧Hid (∀j,j<k→xs[j]?=some (-1))∧wr.heap[w.heap.size]?=some (.cells #[.int .i64 n,.slice A vs.length cap] 32 (0,0))∧Below w.heap.size w wr) (fun l _=>n-(intOf l).toNat)
 case atStart=>exact ⟨0,List.replicate n 0,by omega,rfl,by simp,b2,fun j hj=>absurd hj (by omega),b0,hB0⟩
 case round=>
  obtain ⟨k,xs,hk,rfl,hxl,hrow,hmin,htab,hbl⟩:=hrel
  have t0:=zh htab 0 rfl
  have RW:=zH hrow
  have TB:=zH htab
  have BL:=zH hbl
  have XL:=zH hxl
  by_cases hlt:k<n
  · obtain ⟨u0,r0⟩:∃u:Int,wr.cell? ⟨g5,k,none⟩=some (.int .i64 u):=⟨_,hrow.cell k (by omega)⟩
    have f0:=hrow.froz k
    have l0:=hrow.lt
    clear hrow htab hbl hxl
    go_wp2_with fail
    go_roundw
    case rel=>exact ⟨k+1,xs.set k (-1),by omega,by go_num,by simp [XL.out],RW.out.set k (-1),fun j hj=>by
      rw [List.getElem?_set]
      split
      · rename_i e;subst e;simp [XL.out,hlt]
      · exact hmin.out j (by omega),(Below.heap_setCell _ _ _ _ (by simp;omega)).trans TB.out,BL.out.grown (zQ wr g5 k _) (by have:=BL.out.size;omega) (fun r e=>by cases e;omega)⟩
    case measure=>simp [intOf];omega
  · obtain rfl:k=n:=by omega
    have hxs:=all_minus XL.out hmin.out
    rw [hxs] at RW
    clear hrow htab hxl t0
    have t0:=zh TB.out 0 rfl
    have t1:=zh TB.out 1 rfl
    go_wp2_with fail
    refine (YZ HW.out i hi A cap wr (HT.out.keep hbl)).mono ?_
    rintro e W3 ⟨v3,rfl,ho3,hb3⟩
    obtain ⟨P3,c3,rfl,hc31,hc32,hI3⟩:=ho3.form
    rw [xB] at hc31 ho3
    have hlg:g5<wr.heap.size:=RW.out.lt
    have R3:RowAt W3 g5 (List.replicate k (-1)):=(hb3.block _ hlg).trans RW.out
    have T3:=zH ((hb3.block _ (by omega)).trans TB.out)
    have B3:=zH (BL.out.trans (hb3.mono BL.out.size))
    have O3:=zH ho3
    have I3:=zH hI3
    have sz3:=hb3.size
    have hll:(yj vs [i]).length≤vs.length:=by have:=Z3 vs [i];rwa [xB] at this
    have hmem:=zH (fun x (hx:x∈yj vs [i])=>(qY.1 hx).1)
    obtain ⟨ls,hls⟩:∃ls,yj vs [i]=ls:=⟨_,rfl⟩
    rw [xB,hls]
    rw [hls] at hc31 I3 O3 hll hmem
    have HLS:=zH hls
    clear hls ho3 hI3 t0 t1 hbl hb3
    go_wp2_with fail
    go_loopw [8] (fun l wr'=>∃k':Nat,k'≤ls.length∧l=.int .i64 k'∧RowAt wr' g5 (yS vs (ls.take k') (List.replicate k (-1)))∧W3.grownBy wr' (some g5)) (fun l _=>ls.length-(intOf l).toNat)
    case atStart=>exact ⟨0,by omega,rfl,by simpa [yS] using R3,World.grownBy.refl _ _⟩
    case round=>
     obtain ⟨k',hk',rfl,hrow',hgr⟩:=hrel
     have RW':=zH hrow'
     have BW:Hid (Below w.heap.size w wr):=B3.out.grown hgr (by have:=B3.out.size;omega) (fun r e=>by cases e;omega)
     by_cases hlt':k'<ls.length
     · have hx:=hmem.out ls[k'] (List.getElem_mem hlt')
       have hks:=zH (knowL_step vs ls k' hlt' (List.replicate k (-1)))
       obtain ⟨x,hxk⟩:∃x,ls[k']=x:=⟨_,rfl⟩
       rw [hxk] at hx hks
       have hlen:(yH ls).length=ls.length:=xB ls
       obtain ⟨b3,off3,rfl,hb3,hc3⟩:=I3.out.at_ k' (by omega)
       have hge:g5+1≤b3:=by have:=(O3.out.lt b3 rfl).1;omega
       have hcx:(yH ls)[k']'(by omega)=(x:Int):=by simp [yH,hxk]
       rw [hcx] at hc3
       have r3:=(World.cell?_of_block (hgr.block b3 hb3 (by simp;omega))).trans hc3
       obtain ⟨b,off,rfl,hbb,c0,c1,c2,c4,c5,c6,c7,c8⟩:=(HT.out.rows.keep BW.out).row x hx
       have t1:wr.cell? ⟨w.heap.size,1,none⟩=some (.slice (some ⟨b,off,none⟩) vs.length cap):=zh ((hgr.block w.heap.size (zj T3.out) (by simp;omega)).trans T3.out) 1 rfl
       have hbx:b<wr.heap.size:=by have:=BW.out.size;omega
       have hbt:w.heap.size<wr.heap.size:=by have:=hgr.size;omega
       have hb3w:b3<wr.heap.size:=by have:=hgr.size;omega
       have hs0:(0:Int)≤(x:Int):=by omega
       have hs1:(x:Int)<(vs.length:Int):=by omega
       have hk0:(0:Int)≤(k':Int):=by omega
       have hk1:(k':Int)<(ls.length:Int):=by omega
       have HGR:=zH hgr
       have HXK:=zH hxk
       have HV:=zH (jw hx)
       clear hgr hxk hlen hcx hc3 hrow'
       go_upto_region 10 with fail
       go_region_held3 (fun w'=>w'.cell? ⟨w.heap.size,1,none⟩=some (.slice (some ⟨b,off,none⟩) vs.length cap)∧w'.cell? ⟨b3,off3+k',none⟩=some (.int .i64 (x:Int)) ∧
         w'.cell? ⟨b,off+x*8,none⟩=some (.int .i64 vs[x].p)∧w'.cell? ⟨b,off+x*8+1,none⟩=some (.int .i64 vs[x].r)∧w'.cell? ⟨b,off+x*8+2,none⟩=some (.int .i64 vs[x].i) ∧
         w'.cell? ⟨b,off+x*8+3,none⟩=some (.int .i64 vs[x].h0)∧w'.cell? ⟨b,off+x*8+4,none⟩=some (.int .i64 vs[x].h1)∧w'.cell? ⟨b,off+x*8+5,none⟩=some (.int .i64 vs[x].h2) ∧
         w'.cell? ⟨b,off+x*8+6,none⟩=some (.int .i64 vs[x].h3)∧w'.cell? ⟨b,off+x*8+7,none⟩=some (.int .i64 vs[x].h4))
        (first
         | exact ⟨t1,r3,c0,c1,c2,c4,c5,c6,c7,c8⟩
         | exact ⟨(World.cell?_alloc_lt _ _ _ hbt).trans t1,(World.cell?_alloc_lt _ _ _ hb3w).trans r3,(World.cell?_alloc_lt _ _ _ hbx).trans c0,(World.cell?_alloc_lt _ _ _ hbx).trans c1,(World.cell?_alloc_lt _ _ _ hbx).trans c2,(World.cell?_alloc_lt _ _ _ hbx).trans c4,(World.cell?_alloc_lt _ _ _ hbx).trans c5,(World.cell?_alloc_lt _ _ _ hbx).trans c6,(World.cell?_alloc_lt _ _ _ hbx).trans c7,(World.cell?_alloc_lt _ _ _ hbx).trans c8⟩)
        (fail)
       have hbg:=jC (by have:=HW.out.begv hx;rwa [jw hx] at this)
       obtain ⟨q,hq⟩:=Int.eq_ofNat_of_zero_le hbg.1
       have hqk:q<k:=by have:=hbg.2.1;omega
       have hqt:vs[x].p.toNat=q:=by omega
       obtain ⟨W1,hW1⟩:∃W1,(wr.alloc (.cells vs[x].cells 126)).drew=W1:=⟨_,rfl⟩
       have z1:W1.heap[wr.heap.size]?=some (.cells vs[x].cells 126 (0,0)):=by rw [←hW1];exact zu wr _
       have zB:Below wr.heap.size wr W1:=by rw [←hW1];exact (zW wr _).drew
       have zs:wr.heap.size<W1.heap.size:=zj z1
       have zr:RowAt W1 g5 (yS vs (ls.take k') (List.replicate k (-1))):=(zB.block g5 RW'.out.lt).trans RW'.out
       have zG:Hid (W3.grownBy W1 (some g5)):=HGR.out.trans ⟨zB.os,zB.tape,zB.output,zB.size,fun j hj _=>zB.block j hj⟩
       have y0:W1.cell? ⟨wr.heap.size,0,none⟩=some (.int .i64 (q:Int)):=by rw [←hq];exact zh z1 0 rfl
       have y1:W1.cell? ⟨wr.heap.size,1,none⟩=some (.int .i64 vs[x].r):=zh z1 1 rfl
       have y2:W1.cell? ⟨wr.heap.size,2,none⟩=some (.int .i64 vs[x].i):=zh z1 2 rfl
       have hkl:(yS vs (ls.take k') (List.replicate k (-1))).length=k:=by rw [qU];simp
       obtain ⟨u0,r0⟩:∃u:Int,W1.cell? ⟨g5,q,none⟩=some (.int .i64 u):=⟨_,zr.cell q (by omega)⟩
       have f0:=zr.froz q
       have l0:=zr.lt
       have ZR:=zH zr
       unfold Vw.cells at hW1
       rw [hW1]
       have HQT:=zH hqt
       clear hW1 z1 zB hbg hq hqt zr t1 r3 c0 c1 c2 c4 c5 c6 c7 c8 hkl
       by_cases hr:vs[x].r=0
       · have e1:(vs[x].r==0)=true:=by simp [hr]
         have hst:Hid (yS vs (ls.take (k'+1)) (List.replicate k (-1))=(yS vs (ls.take k') (List.replicate k (-1))).set q vs[x].i):=by
          show _=_;rw [hks.out,HV.out,if_pos hr,HQT.out]
         clear hr
         go_wp2_with fail
         go_roundw
         case rel=>exact ⟨k'+1,by omega,by go_num,by rw [hst.out];exact ZR.out.set q _,zG.out.trans (zQ _ g5 q _)⟩
         case measure=>simp [intOf];omega
       · have e1:(vs[x].r==0)=false:=by simp [hr]
         have hst:Hid (yS vs (ls.take (k'+1)) (List.replicate k (-1))=yS vs (ls.take k') (List.replicate k (-1))):=by
          show _=_;rw [hks.out,HV.out,if_neg hr]
         clear hr
         go_wp2_with fail
         go_roundw
         case rel=>exact ⟨k'+1,by omega,by go_num,by rw [hst.out];exact ZR.out,zG.out⟩
         case measure=>simp [intOf];omega
     · obtain rfl:k'=ls.length:=by omega
       go_wp2_with fail
       go_ret
       have hkl:(yS vs ls (List.replicate k (-1))).length=k:=by rw [qU];simp
       have hro:=RW'.out
       rw [List.take_length] at hro
       have hown:=hro.own (base:=w.heap.size) (by omega) (by rw [hkl];unfold maxLen;omega)
       rw [hkl] at hown
       refine ⟨_,rfl,?_,BW.out⟩
       rw [HLS.out]
       exact hown
end
section
open Go.RowKit Go.Shelf
attribute [local go_sem] Oper.semAt_some
structure AtrW (s:Sy) (K N:Nat) (out:List Int) (h:Fh):Prop where
 fine:Fine s K N
 sees:Sees s K N
 wf:Wf s.n s.vs
 low:LowV s.vs
 inp:∀c∈s.p.t.cases,c.inp.length=N
 out:0<out.length→out.length=s.vs.length
 ok:AtmOk N h
set_option maxRecDepth 100000 in
theorem rtrue_any (s:Sy) (K N:Nat) (out:List Int) (f:Fm) (hW:AtrW s K N out f.h) (i:Nat) (hi:i<ptn s) (A SV AV AX AR AF:Option Addr) (kc ks kv kx cr cf:Nat) (w:World) (hS:SyAt w w.heap.size A SV AV AX s) (hO:IAt w w.heap.size AR out) :
  Calls Tryz.prog 71 #[.agg (s.vs_ A kc SV ks AV kv AX kx),.agg #[.slice AR out.length cr],.agg (f.vs AF cf),.int .i64 (i:Int)] w fun e w'=>e=.returned (.bool (xv s out f.h (i / (K+1),i % (K+1))))∧Below w.heap.size w w':=by
 obtain ⟨wa,hwa,da,hsa,hBa⟩:=zm w (s.vs_ A kc SV ks AV kv AX kx) 35
 obtain ⟨wb,hwb,db,hsb,hBb⟩:=zm wa #[.slice AR out.length cr] 38
 obtain ⟨w1,hw1,dc,hsc,hBc⟩:=zm wb (f.vs AF cf) 41
 have hB:Below w.heap.size w w1:=(hBa.trans (hBb.mono (by omega))).trans (hBc.mono (by omega))
 have da:w1.heap[w.heap.size]?=some (.cells (s.vs_ A kc SV ks AV kv AX kx) 35 (0,0)):=(hBc.block _ (by omega)).trans ((hBb.block _ (by omega)).trans da)
 have db:w1.heap[w.heap.size+1]?=some (.cells #[.slice AR out.length cr] 38 (0,0)):=by rw [←hsa];exact (hBc.block _ (by omega)).trans db
 have dc:w1.heap[w.heap.size+1+1]?=some (.cells (f.vs AF cf) 41 (0,0)):=by rw [←hsa,←hsb];exact dc
 have hz1:w1.heap.size=w.heap.size+3:=by omega
 have hF:=hW.fine
 have hSe:=hW.sees
 have hk:=hF.k
 have hn5:=hF.n5
 have hn:ptn s=s.xs.length*(K+1):=by unfold ptn;rw [hk];rfl
 have hq:i / (K+1)<s.xs.length:=by rw [hn,Nat.mul_comm] at hi;exact Nat.div_lt_of_lt_mul hi
 have hr:i % (K+1)≤K:=by have:=Nat.mod_lt i (show 0<K+1 by omega);omega
 have hS1:=hS.up hB
 have HP:=zH (gE s K N hF i hi A SV AV AX kc ks kv kx w1 hS1.fx)
 have HVW:=zH (fun (q:Nat) (hqN:q<N) (X:World) (hX:Below w1.heap.size w1 X)=>rview_any s K N hF i q hi hqN A SV AV AX kc ks kv kx X (hS1.up hX).fx)
 have hkey:∀q,(qB s q).getD i 0=xw (s.xs.getD (i / (K+1)) default) (i % (K+1)) q:=fun q=>by
  have hil:i<(qB s q).length:=by rw [vu];exact hi
  rw [xn hil,keyL_at,hk,Int.toNat_natCast]
 have HKN:=zH (fun (u:Nat) (hu:u<s.vs.length) (X:World) (hX:Below w1.heap.size w1 X)=>known_any N AV kv s.vs (by rw [←hF.n];exact hW.wf) u hu X ⟨(hS1.up hX).fv,by have:=hF.lv;omega⟩)
 have HHB:=zH (fun (u o:Nat) (hu:u<s.vs.length) (ho:o<N)=>hrd_known hF hW.wf hW.low hu ho)
 obtain ⟨c,hc,hcl,_⟩:=hSe.cs _ (List.getElem_mem hq)
 obtain ⟨bc,oc,A3,c3,A4,c4,A5,c5,eC,hbc,y0,_,_,hI,_,_⟩:=hS1.fc.row c hcl
 subst eC
 have hin:yf s.p c=s.p.t.cases[c].inp:=by unfold yf;rw [List.getD_eq_getElem?_getD,List.getElem?_eq_getElem hcl];rfl
 have hil:(yf s.p c).length=N:=by rw [hin];exact hW.inp _ (List.getElem_mem hcl)
 rw [←hin,hil] at y0
 rw [←hin] at hI
 have hvs:∀q,q<N→∃u:Nat,xw s.xs[i / (K+1)] (i % (K+1)) q=(u:Int)∧u<s.vs.length:=fun q hqN=>by
  obtain ⟨v,hv,_⟩:=hSe.pr (List.getElem_mem hq) hr hqN
  have hlt:=hv.lt
  obtain ⟨u,hu⟩:=Int.eq_ofNat_of_zero_le hlt.1
  exact ⟨u,hu,by omega⟩
 have hwl:=(hF.word _ (List.getElem_mem hq)).1
 have hfl:∀r∈s.xs[i / (K+1)].word,∃F:Nat,r.f=(F:Int)∧F<32:=fun r hrm=>by
  obtain ⟨hr1,hr2⟩:=(hF.word _ (List.getElem_mem hq)).2 r hrm
  exact Xv hr1 hr2 hn5
 have hcI:(s.xs.getD (i / (K+1)) default).c.toNat=c:=by rw [zD hq,hc];rfl
 obtain ⟨E,hE⟩:∃E,xv s out f.h (i / (K+1),i % (K+1))=E:=⟨_,rfl⟩
 have HE:=zH hE.symm
 rw [hE]
 unfold xv at HE
 dsimp only at HE
 rw [hcI] at HE
 rw [zD hq] at HP HE
 obtain ⟨e,he⟩:∃e,i / (K+1)=e:=⟨_,rfl⟩
 obtain ⟨k,hke⟩:∃k,i % (K+1)=k:=⟨_,rfl⟩
 simp only [he,hke] at HP HE hq hr hkey hvs hwl hfl hc hcI
 have hkey2:∀q,(qB s q).getD i 0=xw s.xs[e] k q:=fun q=>by rw [hkey,zD hq]
 simp only [hkey2] at HVW
 obtain ⟨x,hx⟩:∃x,s.xs[e]=x:=⟨_,rfl⟩
 rw [hx] at HP HE hwl hfl hc
 simp only [hx] at HVW hvs
 rw [hc] at HP
 have hok:=hW.ok
 obtain ⟨⟨op,hp,ho,hv,hg⟩,l⟩:=f
 have hop0:=hok.op0
 have hop6:=hok.op6
 have HOK:=zH hok
 have HO:=zH hW.out
 have HI:=zH hI
 have HF:=zH hF
 obtain ⟨L,hL⟩:∃L,yf s.p c=L:=⟨_,rfl⟩
 rw [hL] at HE HI hil
 have HIL:=zH hil
 simp only [Fm.vs,Fm.args,Fm.h] at hw1 dc HE hop0 hop6 HOK ⊢
 have hTn:=hF.n
 unfold Sy.vs_ at hwa da HP HVW ⊢
 rw [hTn] at hwa da HP HVW ⊢
 have HW1:Hid (((w.alloc (.cells #[.int .i64 s.p.t.n,.int .i64 s.p.t.ins,.int .i64 s.p.t.outs,.slice (some ⟨bc,oc,none⟩) s.p.t.cases.length kc,.int .i64 s.p.a.n,.slice SV s.p.a.sts.length ks,.int .i64 s.p.k,.int .i64 (N:Int),.slice AV s.vs.length kv,.slice AX s.xs.length kx] 35)).alloc (.cells #[.slice AR out.length cr] 38)).alloc (.cells #[.int .i64 op,.int .i64 hp,.int .i64 ho,.int .i64 hv,.int .i64 hg,.slice AF l.length cf] 41)=w1):=by rw [Hid,hwa,hwb,hw1]
 have HB:=zH hB
 have HBX:Hid (∀X,Below w1.heap.size w1 X→X.heap[w.heap.size]?=some (.cells #[.int .i64 s.p.t.n,.int .i64 s.p.t.ins,.int .i64 s.p.t.outs,.slice (some ⟨bc,oc,none⟩) s.p.t.cases.length kc,.int .i64 s.p.a.n,.slice SV s.p.a.sts.length ks,.int .i64 s.p.k,.int .i64 (N:Int),.slice AV s.vs.length kv,.slice AX s.xs.length kx] 35 (0,0))∧X.heap[w.heap.size+1]?=some (.cells #[.slice AR out.length cr] 38 (0,0))∧X.heap[w.heap.size+1+1]?=some (.cells #[.int .i64 op,.int .i64 hp,.int .i64 ho,.int .i64 hv,.int .i64 hg,.slice AF l.length cf] 41 (0,0))):=
  fun X hX=>⟨(hX.block _ (by omega)).trans da,(hX.block _ (by omega)).trans db,(hX.block _ (by omega)).trans dc⟩
 have HY0:Hid (∀X,Below w1.heap.size w1 X→X.cell? ⟨bc,oc+c*3,none⟩=some (.slice A3 N c3)∧IAt X X.heap.size A3 L∧IAt X X.heap.size AR out):=fun X hX=>⟨(hX.cell (p:=⟨bc,oc+c*3,none⟩) hbc).trans y0,(HI.out.keep hX).more hX.size,(((hO.keep hB).more hB.size).keep hX).more hX.size⟩
 have HVS:=zH hvs
 have HFL:=zH hfl
 have HWL:=zH hwl
 have hc0:(0:Int)≤(c:Int):=by omega
 have hc1:(c:Int)<(s.p.t.cases.length:Int):=by omega
 have hkK:Hid (k≤K∧K≤6):=⟨hr,hF.k6⟩
 have hHN5:=zH hn5
 have HZ1:=zH hz1
 obtain ⟨p0,p1,p2,p3,p4,p5,p6,p7,p8,p9⟩:=zA ((HBX.out w1 (Below.refl _ _)).1)
 have r0:=zh (HBX.out w1 (Below.refl _ _)).2.1 0 rfl
 have f0:=zh ((HBX.out w1 (Below.refl _ _)).2.2) 0 rfl
 have f1:=zh ((HBX.out w1 (Below.refl _ _)).2.2) 1 rfl
 have f2:=zh ((HBX.out w1 (Below.refl _ _)).2.2) 2 rfl
 have f3:=zh ((HBX.out w1 (Below.refl _ _)).2.2) 3 rfl
 have f4:=zh ((HBX.out w1 (Below.refl _ _)).2.2) 4 rfl
 have f5:=zh ((HBX.out w1 (Below.refl _ _)).2.2) 5 rfl
 clear hwa hwb hw1 da db dc hsa hsb hsc hBa hBb hBc hB hF hSe hk hn hq hr hS1 hS hO hkey hkey2 hin hil hcI hI hL hx hc hE hW hvs hfl hwl he hke hi hTn hok y0 HI HF hn5
 go_enter Tryz.func71,Tryz.ntmps71
 go_wp2_with fail
 rw [HW1.out]
 go_wp2_with fail
 refine HP.out.mono ?_
 rintro e' w2 ⟨A1,c1,A2,c2,rfl,hL2,hR2,hb2⟩
 have G2:=zH hb2
 have HR2:=zH hR2
 have hs2:=hb2.size
 clear HP HW1 hL2 hR2 hb2 p0 p1 p2 p3 p4 p5 p6 p7 p8 p9 r0 f0 f1 f2 f3 f4 f5
 go_upto_region 2 with fail
 obtain ⟨W3,hW3,d3,hs3,hb3⟩:=zm w2 #[.int .i64 (c:Int),.slice A1 x.word.length c1,.slice A2 x.views.length c2] 59
 rw [hW3]
 have G3:=zH (G2.out.trans (hb3.mono hs2))
 have HR3:=zH (HR2.out.keep (hb3.mono hs2))
 have HD3:Hid (∀X,Below W3.heap.size W3 X→X.heap[w2.heap.size]?=some (.cells #[.int .i64 (c:Int),.slice A1 x.word.length c1,.slice A2 x.views.length c2] 59 (0,0))):=fun X hX=>(hX.block _ (by omega)).trans d3
 have hs23:w1.heap.size≤W3.heap.size:=G3.out.size
 obtain ⟨y0,hI3,hO3⟩:=HY0.out W3 G3.out
 have HI3:=zH hI3
 have HO3:=zH hO3
 obtain ⟨p0,p1,p2,p3,p4,p5,p6,p7,p8,p9⟩:=zA ((HBX.out W3 G3.out).1)
 have r0:=zh (HBX.out W3 G3.out).2.1 0 rfl
 have f0:=zh ((HBX.out W3 G3.out).2.2) 0 rfl
 have f1:=zh ((HBX.out W3 G3.out).2.2) 1 rfl
 have f2:=zh ((HBX.out W3 G3.out).2.2) 2 rfl
 have f3:=zh ((HBX.out W3 G3.out).2.2) 3 rfl
 have f4:=zh ((HBX.out W3 G3.out).2.2) 4 rfl
 have f5:=zh ((HBX.out W3 G3.out).2.2) 5 rfl
 have x0:=zh (d3) 0 rfl
 have x1:=zh (d3) 1 rfl
 have x2:=zh (d3) 2 rfl
 have G4:=zH (HB.out.trans (G3.out.mono HB.out.size))
 clear hW3 d3 hb3 hI3 hO3 G2 HR2 hs2 HY0
 rcases (by omega:op=0∨op=1∨op=2∨op=3∨op=4∨op=5∨op=6) with rfl | rfl | rfl | rfl | rfl | rfl | rfl
 · have hEE:Hid (E=true):=by refine HE.out.trans ?_;refine (if_pos rfl).trans ?_;rfl
   clear HVW HKN HHB HVS HFL HWL HOK HO HE
   go_wp2_with fail
   go_ret
   rw [hEE.out]
   exact ⟨rfl,G4.out⟩
 · obtain ⟨hp0,hpN⟩:=HOK.out.p (.inl rfl)
   dsimp only at hp0 hpN
   obtain ⟨q,rfl⟩:=Int.eq_ofNat_of_zero_le hp0
   have hqL:q<L.length:=by rw [HIL.out];omega
   obtain ⟨b4,o4,rfl,hb4,z4⟩:=HI3.out.at_ q hqL
   obtain ⟨y,hy⟩:∃y,L[q]'hqL=y:=⟨_,rfl⟩
   rw [hy] at z4
   have hEE:Hid (E=decide (y=hv)):=by refine HE.out.trans ?_;refine (if_neg (by decide)).trans ?_;refine (if_pos rfl).trans ?_;exact decide_eq_decide.2 (by rw [Int.toNat_natCast,zD hqL,hy])
   clear HVW HKN HHB HVS HFL HWL HOK HO HE HI3 HO3 hy hqL
   go_wp2_with fail
   go_quiet (fail)
   go_wp2_with fail
   go_ret
   rw [hEE.out]
   exact ⟨by first | rfl | simp [go_sem],by first | exact G4.out | exact zR G4.out _⟩
 · have hEE:Hid (E=decide (hv∈L)):=by refine HE.out.trans ?_;refine (if_neg (by decide)).trans ?_;refine (if_neg (by decide)).trans ?_;refine (if_pos rfl).trans ?_;rfl
   clear HVW HKN HHB HVS HFL HWL HOK HO HE
   have HD:=zH (fun (X:World) (hX:Below W3.heap.size W3 X)=>zh ((HBX.out X (G3.out.trans (hX.mono hs23))).2.2) 3 rfl)
   go_wp2_with fail
   go_loopw [12] (fun j wr=>∃m:Nat,m≤N∧j=.int .i64 (m:Int)∧Hid (∀j (h:j<L.length),j<m→¬L[j]=hv)∧Hid (Below W3.heap.size W3 wr)) (fun j _=>N-(intOf j).toNat)
   case atStart=>exact ⟨0,by omega,rfl,fun j _ h=>absurd h (by omega),Below.refl _ _⟩
   case round=>
    obtain ⟨m,hm,rfl,hno,hbr⟩:=hrel
    clear p0 p1 p2 p3 p4 p5 p6 p7 p8 p9 r0 f0 f1 f2 f3 f4 f5 x0 x1 x2 y0
    by_cases hlt:m<N
    · have hml:m<L.length:=by rw [HIL.out];exact hlt
      obtain ⟨b4,o4,rfl,hb4,z4⟩:=((HI3.out.keep hbr.out).more hbr.out.size).at_ m hml
      obtain ⟨y,hy⟩:∃y,L[m]'hml=y:=⟨_,rfl⟩
      rw [hy] at z4
      have HYY:=zH hy
      have f3:=HD.out wr hbr.out
      have lf3:=zj (HBX.out wr (G3.out.trans (hbr.out.mono hs23))).2.2
      have hm0:(0:Int)≤(m:Int):=by omega
      have hm1:(m:Int)<(N:Int):=by omega
      have hm2:IntKind.i64.wrap ((m:Int)+1)=((m+1:Nat):Int):=by rw [IntKind.wrap_i64];have:=hHN5.out;omega
      clear hy
      by_cases hyv:y=hv
      · have hyb:decide (y=hv)=true:=decide_eq_true hyv
        have hin:Hid (decide (hv∈L)=true):=decide_eq_true (by rw [←hyv,←HYY.out];exact List.getElem_mem hml)
        have hBF:=zH (G4.out.trans (hbr.out.mono G4.out.size))
        clear hno HYY
        go_wp2_with fail
        go_quiet (fail)
        go_wp2_with fail
        go_ret
        rw [hEE.out,hin.out]
        exact ⟨rfl,by first | exact hBF.out | exact zR hBF.out _⟩
      · have hyb:decide (y=hv)=false:=decide_eq_false hyv
        have hno2:Hid (∀j (h:j<L.length),j<m+1→¬L[j]=hv):=fun j h h2=>by
         by_cases e:j=m
         · subst e;rw [HYY.out];exact hyv
         · exact hno.out j h (by omega)
        clear hno HYY
        go_wp2_with fail
        go_quiet (fail)
        go_wp2_with fail
        go_roundw
        case rel=>exact ⟨m+1,by omega,by go_num,hno2,zR hbr.out _⟩
        case measure=>simp [intOf];omega
    · obtain rfl:m=N:=by omega
      have hm1:¬(m:Int)<(m:Int):=by omega
      have hin:Hid (decide (hv∈L)=false):=decide_eq_false fun h=>by
       obtain ⟨j,hj,e⟩:=List.getElem_of_mem h
       exact hno.out j hj (by rw [←HIL.out];exact hj) e
      have hBF:=zH (G4.out.trans (hbr.out.mono G4.out.size))
      clear hno
      go_wp2_with fail
      go_ret
      rw [hEE.out,hin.out]
      exact ⟨rfl,hBF.out⟩
 · obtain ⟨hp0,hpN⟩:=HOK.out.p (.inr (.inl rfl))
   obtain ⟨ho0,hoN⟩:=HOK.out.o rfl
   dsimp only at hp0 hpN ho0 hoN
   obtain ⟨q,rfl⟩:=Int.eq_ofNat_of_zero_le hp0
   obtain ⟨o',rfl⟩:=Int.eq_ofNat_of_zero_le ho0
   obtain ⟨u,hu,hul⟩:=HVS.out q (by omega)
   have HC1:=zH (HVW.out q (by omega) W3.drew G3.out.drew)
   rw [hu] at HC1
   have HC2:=zH (HKN.out u hul)
   have hEE:Hid (E=((qj s.vs s.vs.length).getD u 0).toNat.testBit o'):=by refine HE.out.trans ?_;refine (if_neg (by decide)).trans ?_;refine (if_neg (by decide)).trans ?_;refine (if_neg (by decide)).trans ?_;refine (if_pos rfl).trans ?_;rw [Int.toNat_natCast,hu,Int.toNat_natCast,Int.toNat_natCast]
   have HBB:=zH (HHB.out u o' hul (by omega))
   unfold vF at HC2
   obtain ⟨kl,hkl⟩:∃kl,yS s.vs (yj s.vs [u]) (List.replicate N (-1))=kl:=⟨_,rfl⟩
   have hklN:kl.length=N:=by rw [←hkl];exact uR N s.vs u
   rw [hkl] at HC2 HBB
   rw [←hEE.out] at HBB
   have HKL:=zH hklN
   have hoN0:(o':Int)<(N:Int):=hoN
   clear HVW HKN HHB HVS HFL HWL HO HE HI3 HO3 hEE hu hkl hklN hpN hp0 hoN
   have hKP0:=zH (HBX.out W3.drew G3.out.drew)
   go_upto_region 16 with fail
   refine zz [(0,true),(1,true),(2,true),(3,true),(4,true),(5,true),(8,true),(9,true),(6,false),(7,false),(10,false),(11,false),(12,false),(13,false)] (fun X=>X.heap[w.heap.size]?=some (.cells #[.int .i64 s.p.t.n,.int .i64 s.p.t.ins,.int .i64 s.p.t.outs,.slice (some ⟨bc,oc,none⟩) s.p.t.cases.length kc,.int .i64 s.p.a.n,.slice SV s.p.a.sts.length ks,.int .i64 s.p.k,.int .i64 (N:Int),.slice AV s.vs.length kv,.slice AX s.xs.length kx] 35 (0,0))∧X.heap[w.heap.size+1]?=some (.cells #[.slice AR out.length cr] 38 (0,0))∧X.heap[w.heap.size+1+1]?=some (.cells #[.int .i64 (3:Int),.int .i64 (q:Int),.int .i64 (o':Int),.int .i64 hv,.int .i64 hg,.slice AF l.length cf] 41 (0,0))) (by kernel_rfl) (by kernel_rfl) hKP0.out ?_
   repeat
    apply zM rfl
    · rintro K' hK' X ⟨u1,u2,u3⟩
      obtain ⟨p0,p1,p2,p3,p4,p5,p6,p7,p8,p9⟩:=zA (u1)
      have r0:=zh u2 0 rfl
      have f0:=zh (u3) 0 rfl
      have f1:=zh (u3) 1 rfl
      have f2:=zh (u3) 2 rfl
      have f3:=zh (u3) 3 rfl
      have f4:=zh (u3) 4 rfl
      have f5:=zh (u3) 5 rfl
      clear u1 u2 u3
      go_simp
      exact hK'
   refine zC rfl ?_
   intro K' hK'
   go_simp
   refine HC1.out.mono ?_
   rintro e' w5 ⟨rfl,hb5⟩
   have G5:=zH (G3.out.drew.trans (hb5.mono (show w1.heap.size≤W3.drew.heap.size from G3.out.size)))
   have hs5:w1.heap.size≤w5.heap.size:=G5.out.size
   refine hK' _ _ (HBX.out w5 G5.out) ?_
   clear hK' K' hb5 HC1
   refine zC rfl ?_
   intro K' hK'
   go_simp
   refine (HC2.out w5 G5.out).mono ?_
   rintro e' w6 ⟨v6,rfl,ho6,hb6⟩
   have G6:=zH (G5.out.trans (hb6.mono hs5))
   obtain ⟨A6,c6,rfl,_,_,h6⟩:=ho6.form
   have hoL:o'<kl.length:=by rw [HKL.out];omega
   obtain ⟨g6,og6,rfl,hl6,z0⟩:=h6.at_ o' hoL
   obtain ⟨y,hy⟩:∃y,kl[o']'hoL=y:=⟨_,rfl⟩
   rw [hy] at z0
   have hyE:Hid (decide (y≥0)=E):=by
    rw [Hid,←HBB.out,zD hoL,hy]
   have HK6:=zH (HBX.out w6 G6.out)
   have hlen:((yH []).length)=0:=rfl
   refine hK' _ _ HK6.out ?_
   clear hK' K' hb6 HC2 ho6 h6 hy hoL hlen
   rw [HKL.out]
   refine zC rfl ?_
   intro K' hK'
   go_simp
   refine hK' _ _ HK6.out ?_
   clear hK' K'
   refine zC rfl ?_
   intro K' hK'
   go_simp
   refine hK' _ _ HK6.out ?_
   clear hK' K'
   refine zC rfl ?_
   intro K' hK'
   go_simp
   refine hK' _ _ HK6.out ?_
   clear hK' K'
   refine zC rfl ?_
   intro K' hK'
   go_simp
   refine hK' _ _ HK6.out ?_
   clear hK' K'
   refine zT ?_
   have hBF:=zH (HB.out.trans (G6.out.mono HB.out.size))
   clear HK6 z0
   go_wp2_with fail
   go_ret
   rw [←hyE.out]
   exact ⟨rfl,hBF.out⟩
 · obtain ⟨hp0,hpN⟩:=HOK.out.p (.inr (.inr (.inl rfl)))
   dsimp only at hp0 hpN
   obtain ⟨q,rfl⟩:=Int.eq_ofNat_of_zero_le hp0
   have hq5:q<5:=by have:=hHN5.out;omega
   have hEE:Hid (E=(decide (0<k)&&((x.word.getD (k-1) default).f).toNat.testBit q)):=by refine HE.out.trans ?_;refine (if_neg (by decide)).trans ?_;refine (if_neg (by decide)).trans ?_;refine (if_neg (by decide)).trans ?_;refine (if_neg (by decide)).trans ?_;refine (if_pos rfl).trans ?_;rw [Int.toNat_natCast]
   by_cases hkz:0<k
   case neg=>
    have hE2:Hid (E=false):=by rw [Hid,hEE.out,decide_eq_false hkz];rfl
    have hk1:decide ((k:Int)>0)=false:=decide_eq_false (by omega)
    have hk2:¬(0:Int)<(k:Int):=by omega
    clear HVW HKN HHB HVS HFL HWL HOK HO HE HI3 HO3 hEE
    go_wp2_with fail
    go_quiet (fail)
    go_wp2_with fail
    go_ret
    rw [hE2.out]
    exact ⟨rfl,by first | exact G4.out | exact zR G4.out _⟩
   obtain ⟨k,rfl⟩:∃j,k=j+1:=⟨k-1,by omega⟩
   have hkl:k<x.word.length:=by rw [HWL.out];have:=hkK.out;omega
   obtain ⟨bw,ow,eW,hbw,v0,v1,v2,v3,v4,v5,v6⟩:=HR3.out.row k hkl
   subst eW
   obtain ⟨F,hFf,hF32⟩:=HFL.out _ (List.getElem_mem hkl)
   rw [hFf] at v6
   have hE2:Hid (E=F.testBit q):=by rw [Hid,hEE.out,decide_eq_true (by omega),Bool.true_and,Nat.add_sub_cancel,zD hkl,hFf,Int.toNat_natCast]
   have hk1:decide (((k+1:Nat):Int)>0)=true:=decide_eq_true (by omega)
   have hk2:(0:Int)<((k+1:Nat):Int):=by omega
   have hk3:IntKind.i64.wrap (((k+1:Nat):Int)-1)=(k:Int):=by rw [IntKind.wrap_i64];have:=hkK.out;omega
   have hk4:(0:Int)≤(k:Int):=by omega
   have hk5:(k:Int)<(x.word.length:Int):=by omega
   have hbw2:bw<W3.heap.size:=by omega
   obtain ⟨kk,hkk⟩:∃kk:Nat,k+1=kk:=⟨_,rfl⟩
   have hkN:0<kk:=by omega
   rw [hkk] at hk1 hk2 hk3
   clear HVW HKN HHB HVS HFL HWL HOK HO HE HI3 HO3 hEE HR3 hFf
   simp only [hkk]
   go_upto_region 18 with fail
   refine zz [(0,true),(1,true),(2,true),(3,true),(4,true),(5,true),(6,true),(7,true),(8,true),(9,true),(10,true),(11,true),(12,false),(13,true),(14,true)] (fun X=>X=W3.drew) (by kernel_rfl) (by kernel_rfl) rfl ?_
   repeat
    apply zM rfl
    · rintro K' hK' X rfl
      go_simp
      exact hK'
   refine zC rfl ?_
   intro K' hK'
   go_simp
   refine (vA F q hF32 hq5 _).mono ?_
   rintro e' w5 ⟨rfl,rfl⟩
   refine hK' _ _ rfl ?_
   clear hK' K'
   repeat
    apply zM rfl
    · rintro K' hK' X rfl
      go_simp
      exact hK'
   refine zT ?_
   go_wp2_with fail
   go_ret
   rw [hE2.out]
   exact ⟨rfl,G4.out.drew⟩
 · obtain ⟨hp0,hpN⟩:=HOK.out.p (.inr (.inr (.inr rfl)))
   dsimp only at hp0 hpN
   obtain ⟨q,rfl⟩:=Int.eq_ofNat_of_zero_le hp0
   obtain ⟨u,hu,hul⟩:=HVS.out q (by omega)
   have hEE:Hid (E=(decide (0<out.length)&&decide (out.getD u 0=hv))):=by refine HE.out.trans ?_;refine (if_neg (by decide)).trans ?_;refine (if_neg (by decide)).trans ?_;refine (if_neg (by decide)).trans ?_;refine (if_neg (by decide)).trans ?_;refine (if_neg (by decide)).trans ?_;refine (if_pos rfl).trans ?_;exact congrArg (decide (0<out.length)&&·) (decide_eq_decide.2 (by rw [Int.toNat_natCast,hu,Int.toNat_natCast]))
   by_cases hoz:0<out.length
   case neg=>
    have hE2:Hid (E=false):=by rw [Hid,hEE.out,decide_eq_false hoz];rfl
    have hk1:decide ((out.length:Int)>0)=false:=decide_eq_false (by omega)
    have hk2:¬(0:Int)<(out.length:Int):=by omega
    have hk3:¬0<out.length:=hoz
    clear HVW HKN HHB HVS HFL HWL HOK HO HE HI3 HO3 hEE
    go_wp2_with fail
    go_quiet (fail)
    go_wp2_with fail
    go_ret
    rw [hE2.out]
    exact ⟨rfl,by first | exact G4.out | exact zR G4.out _⟩
   have hol:=HO.out hoz
   have huo:u<out.length:=by omega
   have hE2:Hid (E=decide (out[u]'huo=hv)):=by rw [Hid,hEE.out,decide_eq_true hoz,Bool.true_and,zD huo]
   have HC1:=zH (HVW.out q (by omega) W3.drew G3.out.drew)
   rw [hu] at HC1
   obtain ⟨bo,oo,rfl,hbo,zo⟩:=HO3.out.at_ u huo
   obtain ⟨y,hy⟩:∃y,out[u]'huo=y:=⟨_,rfl⟩
   rw [hy] at zo hE2
   have HZO:Hid (∀X,Below W3.heap.size W3 X→X.cell? ⟨bo,oo+u,none⟩=some (.int .i64 y)):=fun X hX=>(hX.cell (p:=⟨bo,oo+u,none⟩) hbo).trans zo
   obtain ⟨no,hno⟩:∃no,out.length=no:=⟨_,rfl⟩
   rw [hno] at HBX hoz huo ⊢
   have hk1:decide ((no:Int)>0)=true:=decide_eq_true (by omega)
   have hk2:(0:Int)<(no:Int):=by omega
   have hu0:(0:Int)≤(u:Int):=by omega
   have hu1:(u:Int)<(no:Int):=by omega
   have hKP0:=zH (HBX.out W3.drew G3.out.drew)
   clear HVW HKN HHB HVS HFL HWL HO HE HI3 HO3 hEE hu hy zo hol hpN hp0
   go_upto_region 20 with fail
   refine zz [(0,true),(1,true),(2,true),(3,true),(4,true),(5,true),(6,true),(7,true),(8,true),(9,true),(10,true),(14,true),(15,true),(11,false),(12,false),(13,false),(16,false),(17,false),(18,false)] (fun X=>X.heap[w.heap.size]?=some (.cells #[.int .i64 s.p.t.n,.int .i64 s.p.t.ins,.int .i64 s.p.t.outs,.slice (some ⟨bc,oc,none⟩) s.p.t.cases.length kc,.int .i64 s.p.a.n,.slice SV s.p.a.sts.length ks,.int .i64 s.p.k,.int .i64 (N:Int),.slice AV s.vs.length kv,.slice AX s.xs.length kx] 35 (0,0))∧X.heap[w.heap.size+1]?=some (.cells #[.slice (some ⟨bo,oo,none⟩) no cr] 38 (0,0))∧X.heap[w.heap.size+1+1]?=some (.cells #[.int .i64 (5:Int),.int .i64 (q:Int),.int .i64 ho,.int .i64 hv,.int .i64 hg,.slice AF l.length cf] 41 (0,0))) (by kernel_rfl) (by kernel_rfl) hKP0.out ?_
   repeat
    apply zM rfl
    · rintro K' hK' X ⟨u1,u2,u3⟩
      obtain ⟨p0,p1,p2,p3,p4,p5,p6,p7,p8,p9⟩:=zA (u1)
      have r0:=zh u2 0 rfl
      have f0:=zh (u3) 0 rfl
      have f1:=zh (u3) 1 rfl
      have f2:=zh (u3) 2 rfl
      have f3:=zh (u3) 3 rfl
      have f4:=zh (u3) 4 rfl
      have f5:=zh (u3) 5 rfl
      clear u1 u2 u3
      go_simp
      exact hK'
   refine zC rfl ?_
   intro K' hK'
   go_simp
   refine HC1.out.mono ?_
   rintro e' w5 ⟨rfl,hb5⟩
   have G5:=zH (G3.out.drew.trans (hb5.mono (show w1.heap.size≤W3.drew.heap.size from G3.out.size)))
   have F5:Below W3.heap.size W3 w5:=(Below.refl _ W3).drew.trans hb5
   have HK5:=zH (HBX.out w5 G5.out)
   have z0:=HZO.out w5 F5
   refine hK' _ _ HK5.out ?_
   clear hK' K' hb5 HC1 F5
   refine zC rfl ?_
   intro K' hK'
   go_simp
   refine hK' _ _ HK5.out ?_
   clear hK' K'
   refine zC rfl ?_
   intro K' hK'
   go_simp
   refine hK' _ _ HK5.out ?_
   clear hK' K'
   refine zC rfl ?_
   intro K' hK'
   go_simp
   refine hK' _ _ HK5.out ?_
   clear hK' K'
   refine zC rfl ?_
   intro K' hK'
   go_simp
   refine hK' _ _ HK5.out ?_
   clear hK' K'
   refine zC rfl ?_
   intro K' hK'
   go_simp
   refine hK' _ _ HK5.out ?_
   clear hK' K'
   refine zT ?_
   have hBF:=zH (HB.out.trans (G5.out.mono HB.out.size))
   clear HK5 z0 HZO
   go_wp2_with fail
   go_ret
   rw [hE2.out]
   exact ⟨by first | rfl | simp [go_sem],hBF.out⟩
 · have hEE:Hid (E=decide ((k:Int)=hv)):=by refine HE.out.trans ?_;refine (if_neg (by decide)).trans ?_;refine (if_neg (by decide)).trans ?_;refine (if_neg (by decide)).trans ?_;refine (if_neg (by decide)).trans ?_;refine (if_neg (by decide)).trans ?_;refine (if_neg (by decide)).trans ?_;skip;rfl
   clear HVW HKN HHB HVS HFL HWL HOK HO HE
   go_wp2_with fail
   go_ret
   rw [hEE.out]
   exact ⟨by first | rfl | simp [go_sem],G4.out⟩
end
section
open Go.RowKit
def fcK (R:Fm→Nat×Nat) (L:Nat) (l:List Fm) (k:Nat):Nat:=min (yi R (l.take k)).1 L
theorem fcK_zero (R:Fm→Nat×Nat) {L:Nat} (h:1≤L) (l:List Fm):fcK R L l 0=1:=by
 unfold fcK
 rw [List.take_zero]
 show min 1 L=1
 omega
theorem fcK_step (R:Fm→Nat×Nat) (_hR:∀x,1≤(R x).1) {L k:Nat} {l:List Fm} (hk:k<l.length) (h:fcK R L l k<L):fcK R L l (k+1)=fcK R L l k+min (R l[k]).1 (L-fcK R L l k):=by
 unfold fcK at *
 rw [List.take_succ_eq_append_getElem hk,vm]
 dsimp only
 omega
theorem fcK_end (R:Fm→Nat×Nat) {L k:Nat} {l:List Fm} (h:l.length≤k∨L≤fcK R L l k):fcK R L l k=min (yi R l).1 L:=by
 unfold fcK at *
 rcases h with h | h
 · rw [List.take_of_length_le h]
 · have:=(vj R l k).1
   omega
end
section
open Go.RowKit Go.Shelf
attribute [local go_sem] Oper.semAt_some
theorem zE (a b c:Int) (w:World):Calls Tryz.prog 94 #[.int .i64 a,.int .i64 b,.int .i64 c] w fun e w'=>e=.returned (.bool (decide (b≤a∧a≤c)))∧w'=w:=by
 go_enter Tryz.func94,Tryz.ntmps94
 by_cases h1:b≤a
 · by_cases h2:a≤c
   · have e:decide (b≤a∧a≤c)=true:=by simp [h1,h2]
     rw [e]
     clear e
     go_wp2_with fail
     go_ret
     exact ⟨rfl,rfl⟩
   · have e:decide (b≤a∧a≤c)=false:=by simp [h2]
     rw [e]
     clear e
     go_wp2_with fail
     go_ret
     exact ⟨rfl,rfl⟩
 · have e:decide (b≤a∧a≤c)=false:=by simp [h1]
   rw [e]
   clear e
   go_wp2_with fail
   go_ret
   exact ⟨rfl,rfl⟩
theorem rbig_any (n d:Nat) (w:World):Calls Tryz.prog 96 #[.int .i64 (n:Int),.int .i64 (d:Int)] w fun e w'=>e=.returned (.int .i64 (jl (n,d)))∧w'=w:=by
 by_cases h1:128<n
 · have e:jl (n,d)=5:=if_pos h1
   have e1:(128:Int)<(n:Int):=by omega
   rw [e]
   go_enter Tryz.func96,Tryz.ntmps96
   go_wp2_with fail
   go_ret
   exact ⟨rfl,rfl⟩
 by_cases h2:24<d
 · have e:jl (n,d)=12:=by unfold jl;rw [if_neg h1,if_pos h2]
   have e1:¬(128:Int)<(n:Int):=by omega
   have e2:(24:Int)<(d:Int):=by omega
   rw [e]
   go_enter Tryz.func96,Tryz.ntmps96
   go_wp2_with fail
   go_ret
   exact ⟨rfl,rfl⟩
 · have e:jl (n,d)=0:=by unfold jl;rw [if_neg h1,if_neg h2]
   have e1:¬(128:Int)<(n:Int):=by omega
   have e2:¬(24:Int)<(d:Int):=by omega
   rw [e]
   go_enter Tryz.func96,Tryz.ntmps96
   go_wp2_with fail
   go_ret
   exact ⟨rfl,rfl⟩
theorem zL (op:Int) (h0:0≤op) (h17:op≤17) (w:World):Calls Tryz.prog 143 #[.int .i64 op] w fun e w'=>e=.returned (.int .i64 (arN op))∧w'=w:=by
 go_enter Tryz.func143,Tryz.ntmps143
 obtain rfl | rfl | rfl | rfl | rfl | rfl | rfl | rfl | rfl | rfl | rfl | rfl | rfl | rfl | rfl | rfl | rfl | rfl:op=0∨op=1∨op=2∨op=3∨op=4∨op=5∨op=6∨op=7∨op=8∨op=9∨op=10∨op=11∨op=12∨op=13∨op=14∨op=15∨op=16∨op=17:=by omega
 all_goals
  go_wp2_with fail
  go_ret
  exact ⟨rfl,rfl⟩
theorem zw (op:Int) (h0:0≤op) (h17:op≤17) (w:World):Calls Tryz.prog 145 #[.int .i64 op] w fun e w'=>e=.returned (.int .i64 (mxV op))∧w'=w:=by
 go_enter Tryz.func145,Tryz.ntmps145
 obtain rfl | rfl | rfl | rfl | rfl | rfl | rfl | rfl | rfl | rfl | rfl | rfl | rfl | rfl | rfl | rfl | rfl | rfl:op=0∨op=1∨op=2∨op=3∨op=4∨op=5∨op=6∨op=7∨op=8∨op=9∨op=10∨op=11∨op=12∨op=13∨op=14∨op=15∨op=16∨op=17:=by omega
 all_goals
  go_wp2_with fail
  go_ret
  exact ⟨rfl,rfl⟩
theorem QF (op:Int) (h0:0≤op) (h17:op≤17) (w:World):Calls Tryz.prog 144 #[.int .i64 op] w fun e w'=>e=.returned (.agg #[.bool (usP op),.bool (usO op),.bool (usV op),.bool (usG op)])∧Below w.heap.size w w':=by
 go_enter Tryz.func144,Tryz.ntmps144
 obtain rfl | rfl | rfl | rfl | rfl | rfl | rfl | rfl | rfl | rfl | rfl | rfl | rfl | rfl | rfl | rfl | rfl | rfl:op=0∨op=1∨op=2∨op=3∨op=4∨op=5∨op=6∨op=7∨op=8∨op=9∨op=10∨op=11∨op=12∨op=13∨op=14∨op=15∨op=16∨op=17:=by omega
 · go_wp2_with fail
   obtain ⟨W,hW,d0,_,hb⟩:=zm w #[.bool false,.bool false,.bool false,.bool false] 202
   rw [hW]
   have z0:=zh d0 0 rfl
   have z1:=zh d0 1 rfl
   have z2:=zh d0 2 rfl
   have z3:=zh d0 3 rfl
   exact bodyPost_ret (v:=.agg #[.bool false,.bool false,.bool false,.bool false]) (by simp [results,Tryz.results144,go_sem,z0,z1,z2,z3]) rfl ⟨rfl,hb⟩
 · go_wp2_with fail
   obtain ⟨W,hW,d0,_,hb⟩:=zm w #[.bool true,.bool false,.bool true,.bool false] 202
   rw [hW]
   have z0:=zh d0 0 rfl
   have z1:=zh d0 1 rfl
   have z2:=zh d0 2 rfl
   have z3:=zh d0 3 rfl
   exact bodyPost_ret (v:=.agg #[.bool true,.bool false,.bool true,.bool false]) (by simp [results,Tryz.results144,go_sem,z0,z1,z2,z3]) rfl ⟨rfl,hb⟩
 · go_wp2_with fail
   obtain ⟨W,hW,d0,_,hb⟩:=zm w #[.bool false,.bool false,.bool true,.bool false] 202
   rw [hW]
   have z0:=zh d0 0 rfl
   have z1:=zh d0 1 rfl
   have z2:=zh d0 2 rfl
   have z3:=zh d0 3 rfl
   exact bodyPost_ret (v:=.agg #[.bool false,.bool false,.bool true,.bool false]) (by simp [results,Tryz.results144,go_sem,z0,z1,z2,z3]) rfl ⟨rfl,hb⟩
 · go_wp2_with fail
   obtain ⟨W,hW,d0,_,hb⟩:=zm w #[.bool true,.bool true,.bool false,.bool false] 202
   rw [hW]
   have z0:=zh d0 0 rfl
   have z1:=zh d0 1 rfl
   have z2:=zh d0 2 rfl
   have z3:=zh d0 3 rfl
   exact bodyPost_ret (v:=.agg #[.bool true,.bool true,.bool false,.bool false]) (by simp [results,Tryz.results144,go_sem,z0,z1,z2,z3]) rfl ⟨rfl,hb⟩
 · go_wp2_with fail
   obtain ⟨W,hW,d0,_,hb⟩:=zm w #[.bool true,.bool false,.bool false,.bool false] 202
   rw [hW]
   have z0:=zh d0 0 rfl
   have z1:=zh d0 1 rfl
   have z2:=zh d0 2 rfl
   have z3:=zh d0 3 rfl
   exact bodyPost_ret (v:=.agg #[.bool true,.bool false,.bool false,.bool false]) (by simp [results,Tryz.results144,go_sem,z0,z1,z2,z3]) rfl ⟨rfl,hb⟩
 · go_wp2_with fail
   obtain ⟨W,hW,d0,_,hb⟩:=zm w #[.bool true,.bool false,.bool true,.bool false] 202
   rw [hW]
   have z0:=zh d0 0 rfl
   have z1:=zh d0 1 rfl
   have z2:=zh d0 2 rfl
   have z3:=zh d0 3 rfl
   exact bodyPost_ret (v:=.agg #[.bool true,.bool false,.bool true,.bool false]) (by simp [results,Tryz.results144,go_sem,z0,z1,z2,z3]) rfl ⟨rfl,hb⟩
 · go_wp2_with fail
   obtain ⟨W,hW,d0,_,hb⟩:=zm w #[.bool false,.bool false,.bool true,.bool false] 202
   rw [hW]
   have z0:=zh d0 0 rfl
   have z1:=zh d0 1 rfl
   have z2:=zh d0 2 rfl
   have z3:=zh d0 3 rfl
   exact bodyPost_ret (v:=.agg #[.bool false,.bool false,.bool true,.bool false]) (by simp [results,Tryz.results144,go_sem,z0,z1,z2,z3]) rfl ⟨rfl,hb⟩
 · go_wp2_with fail
   obtain ⟨W,hW,d0,_,hb⟩:=zm w #[.bool false,.bool false,.bool false,.bool false] 202
   rw [hW]
   have z0:=zh d0 0 rfl
   have z1:=zh d0 1 rfl
   have z2:=zh d0 2 rfl
   have z3:=zh d0 3 rfl
   exact bodyPost_ret (v:=.agg #[.bool false,.bool false,.bool false,.bool false]) (by simp [results,Tryz.results144,go_sem,z0,z1,z2,z3]) rfl ⟨rfl,hb⟩
 · go_wp2_with fail
   obtain ⟨W,hW,d0,_,hb⟩:=zm w #[.bool false,.bool false,.bool false,.bool false] 202
   rw [hW]
   have z0:=zh d0 0 rfl
   have z1:=zh d0 1 rfl
   have z2:=zh d0 2 rfl
   have z3:=zh d0 3 rfl
   exact bodyPost_ret (v:=.agg #[.bool false,.bool false,.bool false,.bool false]) (by simp [results,Tryz.results144,go_sem,z0,z1,z2,z3]) rfl ⟨rfl,hb⟩
 · go_wp2_with fail
   obtain ⟨W,hW,d0,_,hb⟩:=zm w #[.bool false,.bool false,.bool false,.bool false] 202
   rw [hW]
   have z0:=zh d0 0 rfl
   have z1:=zh d0 1 rfl
   have z2:=zh d0 2 rfl
   have z3:=zh d0 3 rfl
   exact bodyPost_ret (v:=.agg #[.bool false,.bool false,.bool false,.bool false]) (by simp [results,Tryz.results144,go_sem,z0,z1,z2,z3]) rfl ⟨rfl,hb⟩
 · go_wp2_with fail
   obtain ⟨W,hW,d0,_,hb⟩:=zm w #[.bool true,.bool false,.bool false,.bool false] 202
   rw [hW]
   have z0:=zh d0 0 rfl
   have z1:=zh d0 1 rfl
   have z2:=zh d0 2 rfl
   have z3:=zh d0 3 rfl
   exact bodyPost_ret (v:=.agg #[.bool true,.bool false,.bool false,.bool false]) (by simp [results,Tryz.results144,go_sem,z0,z1,z2,z3]) rfl ⟨rfl,hb⟩
 · go_wp2_with fail
   obtain ⟨W,hW,d0,_,hb⟩:=zm w #[.bool false,.bool false,.bool false,.bool true] 202
   rw [hW]
   have z0:=zh d0 0 rfl
   have z1:=zh d0 1 rfl
   have z2:=zh d0 2 rfl
   have z3:=zh d0 3 rfl
   exact bodyPost_ret (v:=.agg #[.bool false,.bool false,.bool false,.bool true]) (by simp [results,Tryz.results144,go_sem,z0,z1,z2,z3]) rfl ⟨rfl,hb⟩
 · go_wp2_with fail
   obtain ⟨W,hW,d0,_,hb⟩:=zm w #[.bool false,.bool false,.bool false,.bool true] 202
   rw [hW]
   have z0:=zh d0 0 rfl
   have z1:=zh d0 1 rfl
   have z2:=zh d0 2 rfl
   have z3:=zh d0 3 rfl
   exact bodyPost_ret (v:=.agg #[.bool false,.bool false,.bool false,.bool true]) (by simp [results,Tryz.results144,go_sem,z0,z1,z2,z3]) rfl ⟨rfl,hb⟩
 · go_wp2_with fail
   obtain ⟨W,hW,d0,_,hb⟩:=zm w #[.bool false,.bool false,.bool false,.bool true] 202
   rw [hW]
   have z0:=zh d0 0 rfl
   have z1:=zh d0 1 rfl
   have z2:=zh d0 2 rfl
   have z3:=zh d0 3 rfl
   exact bodyPost_ret (v:=.agg #[.bool false,.bool false,.bool false,.bool true]) (by simp [results,Tryz.results144,go_sem,z0,z1,z2,z3]) rfl ⟨rfl,hb⟩
 · go_wp2_with fail
   obtain ⟨W,hW,d0,_,hb⟩:=zm w #[.bool false,.bool false,.bool false,.bool false] 202
   rw [hW]
   have z0:=zh d0 0 rfl
   have z1:=zh d0 1 rfl
   have z2:=zh d0 2 rfl
   have z3:=zh d0 3 rfl
   exact bodyPost_ret (v:=.agg #[.bool false,.bool false,.bool false,.bool false]) (by simp [results,Tryz.results144,go_sem,z0,z1,z2,z3]) rfl ⟨rfl,hb⟩
 · go_wp2_with fail
   obtain ⟨W,hW,d0,_,hb⟩:=zm w #[.bool false,.bool false,.bool false,.bool false] 202
   rw [hW]
   have z0:=zh d0 0 rfl
   have z1:=zh d0 1 rfl
   have z2:=zh d0 2 rfl
   have z3:=zh d0 3 rfl
   exact bodyPost_ret (v:=.agg #[.bool false,.bool false,.bool false,.bool false]) (by simp [results,Tryz.results144,go_sem,z0,z1,z2,z3]) rfl ⟨rfl,hb⟩
 · go_wp2_with fail
   obtain ⟨W,hW,d0,_,hb⟩:=zm w #[.bool false,.bool false,.bool false,.bool false] 202
   rw [hW]
   have z0:=zh d0 0 rfl
   have z1:=zh d0 1 rfl
   have z2:=zh d0 2 rfl
   have z3:=zh d0 3 rfl
   exact bodyPost_ret (v:=.agg #[.bool false,.bool false,.bool false,.bool false]) (by simp [results,Tryz.results144,go_sem,z0,z1,z2,z3]) rfl ⟨rfl,hb⟩
 · go_wp2_with fail
   obtain ⟨W,hW,d0,_,hb⟩:=zm w #[.bool false,.bool false,.bool false,.bool false] 202
   rw [hW]
   have z0:=zh d0 0 rfl
   have z1:=zh d0 1 rfl
   have z2:=zh d0 2 rfl
   have z3:=zh d0 3 rfl
   exact bodyPost_ret (v:=.agg #[.bool false,.bool false,.bool false,.bool false]) (by simp [results,Tryz.results144,go_sem,z0,z1,z2,z3]) rfl ⟨rfl,hb⟩
end
section
open Go.RowKit Go.Shelf
attribute [local go_sem] Oper.semAt_some
theorem us_class (op:Int) (h0:0≤op) (h17:op≤17):(usP op=true∧usO op=false∧usV op=true∧usG op=false)∨(usP op=false∧usO op=false∧usV op=true∧usG op=false)∨(usP op=true∧usO op=true∧usV op=false∧usG op=false)∨(usP op=true∧usO op=false∧usV op=false∧usG op=false)∨(usP op=false∧usO op=false∧usV op=false∧usG op=true)∨(usP op=false∧usO op=false∧usV op=false∧usG op=false):=by
 obtain rfl | rfl | rfl | rfl | rfl | rfl | rfl | rfl | rfl | rfl | rfl | rfl | rfl | rfl | rfl | rfl | rfl | rfl:op=0∨op=1∨op=2∨op=3∨op=4∨op=5∨op=6∨op=7∨op=8∨op=9∨op=10∨op=11∨op=12∨op=13∨op=14∨op=15∨op=16∨op=17:=by omega
 all_goals decide
set_option maxRecDepth 100000 in
theorem QJ (n:Nat) (hn1:1≤n) (hn:n≤5) (op hp ho hv hg:Int) (A:Option Addr) (m c:Nat) (w:World) :
  Calls Tryz.prog 126 #[.agg #[.int .i64 op,.int .i64 hp,.int .i64 ho,.int .i64 hv,.int .i64 hg,.slice A m c],.int .i64 (n:Int)] w fun e w'=>e=.returned (.int .i64 (kZ n ⟨op,hp,ho,hv,hg⟩ m))∧Below w.heap.size w w':=by
 obtain ⟨w1,hw1,d0,hs1,hB⟩:=zm w #[.int .i64 op,.int .i64 hp,.int .i64 ho,.int .i64 hv,.int .i64 hg,.slice A m c] 41
 obtain ⟨E,hE⟩:∃E,kZ n ⟨op,hp,ho,hv,hg⟩ m=E:=⟨_,rfl⟩
 have HE:=zH hE.symm
 rw [hE]
 clear hE
 unfold kZ at HE
 dsimp only at HE
 have HW1:=zH hw1
 have HB:=zH hB
 have HD0:=zH d0
 have p0:=zh (d0) 0 rfl
 have p1:=zh (d0) 1 rfl
 have p2:=zh (d0) 2 rfl
 have p3:=zh (d0) 3 rfl
 have p4:=zh (d0) 4 rfl
 have p5:=zh (d0) 5 rfl
 clear hw1 d0 hB
 go_enter Tryz.func126,Tryz.ntmps126
 go_wp2_with fail
 rw [HW1.out]
 go_wp2_with fail
 refine (zE _ _ _ _).mono ?_
 rintro e w2 ⟨rfl,hw2⟩
 obtain rfl:=hw2
 by_cases hop:0≤op∧op≤17
 case neg=>
  have e0:decide (0≤op∧op≤17)=false:=decide_eq_false hop
  have hEE:Hid (E=1):=by rw [Hid,HE.out,if_pos (by omega)]
  clear HE
  go_wp2_with fail
  go_ret
  rw [hEE.out]
  exact ⟨rfl,HB.out⟩
 have e0:decide (0≤op∧op≤17)=true:=decide_eq_true hop
 obtain ⟨hop0,hop17⟩:=hop
 have HE:Hid (E=_):=HE.out.trans (if_neg (by omega))
 have hl3:=zj HD0.out
 by_cases hml:(m:Int)=arN op
 case neg=>
  have hEE:Hid (E=15):=by rw [Hid,HE.out,if_pos hml]
  have e1:((m:Int) != arN op)=true:=by simpa using hml
  clear HE
  go_wp2_with fail
  go_quiet (first | (go_at_call 94;exact Calls.quiet_of_same (zE _ _ _ _)) | (go_at_call 145;exact Calls.quiet_of_same (zw _ hop0 hop17 _)) | (go_at_call 143;exact Calls.quiet_of_same (zL _ hop0 hop17 _)))
  go_wp2_with fail
  go_ret
  rw [hEE.out]
  exact ⟨rfl,by first | exact HB.out | exact zR HB.out _⟩
 have e1:((m:Int) != arN op)=false:=by simpa using hml
 have HE:Hid (E=_):=HE.out.trans (if_neg (by simpa using hml))
 go_wp2_with fail
 go_quiet (first | (go_at_call 94;exact Calls.quiet_of_same (zE _ _ _ _)) | (go_at_call 145;exact Calls.quiet_of_same (zw _ hop0 hop17 _)) | (go_at_call 143;exact Calls.quiet_of_same (zL _ hop0 hop17 _)))
 go_wp2_with fail
 refine (QF op hop0 hop17 _).mono ?_
 rintro e w3 ⟨rfl,hb3⟩
 have B3:=zH (zR HB.out nq |>.trans (hb3.mono (by show w.heap.size≤w2.heap.size;omega)))
 have hs3:w2.heap.size≤w3.heap.size:=hb3.size
 have HD3:Hid (w3.heap[w.heap.size]?=_):=(hb3.block _ (by show w.heap.size<w2.heap.size;omega)).trans HD0.out
 clear hb3 HB HD0 HW1 p0 p1 p2 p3 p4 p5 e0 e1
 go_upto_region 6 with fail
 obtain ⟨W5,hW5,d5,hs5,hb5⟩:=zm w3 #[.bool (usP op),.bool (usO op),.bool (usV op),.bool (usG op)] 202
 rw [hW5]
 have d6:=(hb5.block _ (zj HD3.out)).trans HD3.out
 have B5:=zH (B3.out.trans (hb5.mono (by omega)))
 have p0:=zh (d6) 0 rfl
 have p1:=zh (d6) 1 rfl
 have p2:=zh (d6) 2 rfl
 have p3:=zh (d6) 3 rfl
 have p4:=zh (d6) 4 rfl
 have p5:=zh (d6) 5 rfl
 have q0:=zh (d5) 0 rfl
 have q1:=zh (d5) 1 rfl
 have q2:=zh (d5) 2 rfl
 have q3:=zh (d5) 3 rfl
 have l5:=zj d5
 have l6:=zj d6
 clear hW5 d5 d6 hb5 B3 HD3 hs1 hml hl3
 have hwn:IntKind.i64.wrap ((n:Int)-1)=(n:Int)-1:=by rw [IntKind.wrap_i64];omega
 have h2b:(1:Int)≤(2:Int)^n∧(2:Int)^n≤32:=by
  obtain rfl | rfl | rfl | rfl | rfl:n=1∨n=2∨n=3∨n=4∨n=5:=by omega
  all_goals decide
 have h2w:IntKind.i64.wrap ((2:Int)^n)=(2:Int)^n:=by rw [IntKind.wrap_i64];omega
 have h2v:IntKind.i64.wrap ((2:Int)^n-1)=(2:Int)^n-1:=by rw [IntKind.wrap_i64];omega
 have hmn:min n 64=n:=by omega
 clear h2b
 obtain ⟨g1,hg1⟩:∃x,usP op=x:=⟨_,rfl⟩
 obtain ⟨g2,hg2⟩:∃x,usO op=x:=⟨_,rfl⟩
 obtain ⟨g3,hg3⟩:∃x,usV op=x:=⟨_,rfl⟩
 obtain ⟨g4,hg4⟩:∃x,usG op=x:=⟨_,rfl⟩
 have hcl:=us_class op hop0 hop17
 rw [hg1,hg2,hg3,hg4] at hcl HE
 rw [hg1] at q0
 rw [hg2] at q1
 rw [hg3] at q2
 rw [hg4] at q3
 clear hg1 hg2 hg3 hg4
 rcases hcl with ⟨rfl,rfl,rfl,rfl⟩ | ⟨rfl,rfl,rfl,rfl⟩ | ⟨rfl,rfl,rfl,rfl⟩ | ⟨rfl,rfl,rfl,rfl⟩ | ⟨rfl,rfl,rfl,rfl⟩ | ⟨rfl,rfl,rfl,rfl⟩
 ·
  by_cases r0:0≤hp∧hp≤(n:Int)-1
  case neg=>
   have f0:decide (0≤hp∧hp≤(n:Int)-1)=false:=decide_eq_false r0
   have hEE:Hid (E=2):=by rw [Hid,HE.out];exact if_pos (by first | exact .inl ⟨rfl,r0⟩ | exact .inr (.inl ⟨rfl,r0⟩) | exact .inr (.inr (.inl ⟨rfl,r0⟩)) | exact .inr (.inr (.inr ⟨rfl,r0⟩)))
   clear HE
   go_wp2_with fail
   go_quiet (first | (go_at_call 94;exact Calls.quiet_of_same (zE _ _ _ _)) | (go_at_call 145;exact Calls.quiet_of_same (zw _ hop0 hop17 _)) | (go_at_call 143;exact Calls.quiet_of_same (zL _ hop0 hop17 _)))
   go_wp2_with fail
   go_ret
   rw [hEE.out]
   exact ⟨rfl,by first | exact B5.out | exact zR B5.out _⟩
  have f0:decide (0≤hp∧hp≤(n:Int)-1)=true:=decide_eq_true r0
  by_cases r2:0≤hv∧hv≤mxV op
  case neg=>
   have f2:decide (0≤hv∧hv≤mxV op)=false:=decide_eq_false r2
   have hEE:Hid (E=2):=by rw [Hid,HE.out];exact if_pos (by first | exact .inl ⟨rfl,r2⟩ | exact .inr (.inl ⟨rfl,r2⟩) | exact .inr (.inr (.inl ⟨rfl,r2⟩)) | exact .inr (.inr (.inr ⟨rfl,r2⟩)))
   clear HE
   go_wp2_with fail
   go_quiet (first | (go_at_call 94;exact Calls.quiet_of_same (zE _ _ _ _)) | (go_at_call 145;exact Calls.quiet_of_same (zw _ hop0 hop17 _)) | (go_at_call 143;exact Calls.quiet_of_same (zL _ hop0 hop17 _)))
   go_wp2_with fail
   go_ret
   rw [hEE.out]
   exact ⟨rfl,by first | exact B5.out | exact zR B5.out _⟩
  have f2:decide (0≤hv∧hv≤mxV op)=true:=decide_eq_true r2
  have HE:Hid (E=_):=HE.out.trans (if_neg (by rintro (⟨h,h2⟩ | ⟨h,h2⟩ | ⟨h,h2⟩ | ⟨h,h2⟩)<;>first | exact absurd h (by decide) | exact h2 r0 | exact h2 r2))
  by_cases z1:ho=0
  case neg=>
   have v1:(ho != 0)=true:=by simpa using z1
   have hEE:Hid (E=3):=by rw [Hid,HE.out];exact if_pos (by first | exact .inl ⟨rfl,z1⟩ | exact .inr (.inl ⟨rfl,z1⟩) | exact .inr (.inr (.inl ⟨rfl,z1⟩)) | exact .inr (.inr (.inr ⟨rfl,z1⟩)))
   clear HE
   go_wp2_with fail
   go_quiet (first | (go_at_call 94;exact Calls.quiet_of_same (zE _ _ _ _)) | (go_at_call 145;exact Calls.quiet_of_same (zw _ hop0 hop17 _)) | (go_at_call 143;exact Calls.quiet_of_same (zL _ hop0 hop17 _)))
   go_wp2_with fail
   go_ret
   rw [hEE.out]
   exact ⟨rfl,by first | exact B5.out | exact zR B5.out _⟩
  have v1:(ho != 0)=false:=by simpa using z1
  by_cases z3:hg=0
  case neg=>
   have v3:(hg != 0)=true:=by simpa using z3
   have hEE:Hid (E=3):=by rw [Hid,HE.out];exact if_pos (by first | exact .inl ⟨rfl,z3⟩ | exact .inr (.inl ⟨rfl,z3⟩) | exact .inr (.inr (.inl ⟨rfl,z3⟩)) | exact .inr (.inr (.inr ⟨rfl,z3⟩)))
   clear HE
   go_wp2_with fail
   go_quiet (first | (go_at_call 94;exact Calls.quiet_of_same (zE _ _ _ _)) | (go_at_call 145;exact Calls.quiet_of_same (zw _ hop0 hop17 _)) | (go_at_call 143;exact Calls.quiet_of_same (zL _ hop0 hop17 _)))
   go_wp2_with fail
   go_ret
   rw [hEE.out]
   exact ⟨rfl,by first | exact B5.out | exact zR B5.out _⟩
  have v3:(hg != 0)=false:=by simpa using z3
  have hEE:Hid (E=0):=by rw [Hid,HE.out];exact if_neg (by rintro (⟨h,h2⟩ | ⟨h,h2⟩ | ⟨h,h2⟩ | ⟨h,h2⟩)<;>first | exact absurd h (by decide) | exact h2 z1 | exact h2 z3)
  clear HE
  go_wp2_with fail
  go_quiet (first | (go_at_call 94;exact Calls.quiet_of_same (zE _ _ _ _)) | (go_at_call 145;exact Calls.quiet_of_same (zw _ hop0 hop17 _)) | (go_at_call 143;exact Calls.quiet_of_same (zL _ hop0 hop17 _)))
  go_wp2_with fail
  go_ret
  rw [hEE.out]
  exact ⟨rfl,by first | exact B5.out | exact zR B5.out _⟩
 ·
  by_cases r2:0≤hv∧hv≤mxV op
  case neg=>
   have f2:decide (0≤hv∧hv≤mxV op)=false:=decide_eq_false r2
   have hEE:Hid (E=2):=by rw [Hid,HE.out];exact if_pos (by first | exact .inl ⟨rfl,r2⟩ | exact .inr (.inl ⟨rfl,r2⟩) | exact .inr (.inr (.inl ⟨rfl,r2⟩)) | exact .inr (.inr (.inr ⟨rfl,r2⟩)))
   clear HE
   go_wp2_with fail
   go_quiet (first | (go_at_call 94;exact Calls.quiet_of_same (zE _ _ _ _)) | (go_at_call 145;exact Calls.quiet_of_same (zw _ hop0 hop17 _)) | (go_at_call 143;exact Calls.quiet_of_same (zL _ hop0 hop17 _)))
   go_wp2_with fail
   go_ret
   rw [hEE.out]
   exact ⟨rfl,by first | exact B5.out | exact zR B5.out _⟩
  have f2:decide (0≤hv∧hv≤mxV op)=true:=decide_eq_true r2
  have HE:Hid (E=_):=HE.out.trans (if_neg (by rintro (⟨h,h2⟩ | ⟨h,h2⟩ | ⟨h,h2⟩ | ⟨h,h2⟩)<;>first | exact absurd h (by decide) | exact h2 r2))
  by_cases z0:hp=0
  case neg=>
   have v0:(hp != 0)=true:=by simpa using z0
   have hEE:Hid (E=3):=by rw [Hid,HE.out];exact if_pos (by first | exact .inl ⟨rfl,z0⟩ | exact .inr (.inl ⟨rfl,z0⟩) | exact .inr (.inr (.inl ⟨rfl,z0⟩)) | exact .inr (.inr (.inr ⟨rfl,z0⟩)))
   clear HE
   go_wp2_with fail
   go_quiet (first | (go_at_call 94;exact Calls.quiet_of_same (zE _ _ _ _)) | (go_at_call 145;exact Calls.quiet_of_same (zw _ hop0 hop17 _)) | (go_at_call 143;exact Calls.quiet_of_same (zL _ hop0 hop17 _)))
   go_wp2_with fail
   go_ret
   rw [hEE.out]
   exact ⟨rfl,by first | exact B5.out | exact zR B5.out _⟩
  have v0:(hp != 0)=false:=by simpa using z0
  by_cases z1:ho=0
  case neg=>
   have v1:(ho != 0)=true:=by simpa using z1
   have hEE:Hid (E=3):=by rw [Hid,HE.out];exact if_pos (by first | exact .inl ⟨rfl,z1⟩ | exact .inr (.inl ⟨rfl,z1⟩) | exact .inr (.inr (.inl ⟨rfl,z1⟩)) | exact .inr (.inr (.inr ⟨rfl,z1⟩)))
   clear HE
   go_wp2_with fail
   go_quiet (first | (go_at_call 94;exact Calls.quiet_of_same (zE _ _ _ _)) | (go_at_call 145;exact Calls.quiet_of_same (zw _ hop0 hop17 _)) | (go_at_call 143;exact Calls.quiet_of_same (zL _ hop0 hop17 _)))
   go_wp2_with fail
   go_ret
   rw [hEE.out]
   exact ⟨rfl,by first | exact B5.out | exact zR B5.out _⟩
  have v1:(ho != 0)=false:=by simpa using z1
  by_cases z3:hg=0
  case neg=>
   have v3:(hg != 0)=true:=by simpa using z3
   have hEE:Hid (E=3):=by rw [Hid,HE.out];exact if_pos (by first | exact .inl ⟨rfl,z3⟩ | exact .inr (.inl ⟨rfl,z3⟩) | exact .inr (.inr (.inl ⟨rfl,z3⟩)) | exact .inr (.inr (.inr ⟨rfl,z3⟩)))
   clear HE
   go_wp2_with fail
   go_quiet (first | (go_at_call 94;exact Calls.quiet_of_same (zE _ _ _ _)) | (go_at_call 145;exact Calls.quiet_of_same (zw _ hop0 hop17 _)) | (go_at_call 143;exact Calls.quiet_of_same (zL _ hop0 hop17 _)))
   go_wp2_with fail
   go_ret
   rw [hEE.out]
   exact ⟨rfl,by first | exact B5.out | exact zR B5.out _⟩
  have v3:(hg != 0)=false:=by simpa using z3
  have hEE:Hid (E=0):=by rw [Hid,HE.out];exact if_neg (by rintro (⟨h,h2⟩ | ⟨h,h2⟩ | ⟨h,h2⟩ | ⟨h,h2⟩)<;>first | exact absurd h (by decide) | exact h2 z0 | exact h2 z1 | exact h2 z3)
  clear HE
  go_wp2_with fail
  go_quiet (first | (go_at_call 94;exact Calls.quiet_of_same (zE _ _ _ _)) | (go_at_call 145;exact Calls.quiet_of_same (zw _ hop0 hop17 _)) | (go_at_call 143;exact Calls.quiet_of_same (zL _ hop0 hop17 _)))
  go_wp2_with fail
  go_ret
  rw [hEE.out]
  exact ⟨rfl,by first | exact B5.out | exact zR B5.out _⟩
 ·
  by_cases r0:0≤hp∧hp≤(n:Int)-1
  case neg=>
   have f0:decide (0≤hp∧hp≤(n:Int)-1)=false:=decide_eq_false r0
   have hEE:Hid (E=2):=by rw [Hid,HE.out];exact if_pos (by first | exact .inl ⟨rfl,r0⟩ | exact .inr (.inl ⟨rfl,r0⟩) | exact .inr (.inr (.inl ⟨rfl,r0⟩)) | exact .inr (.inr (.inr ⟨rfl,r0⟩)))
   clear HE
   go_wp2_with fail
   go_quiet (first | (go_at_call 94;exact Calls.quiet_of_same (zE _ _ _ _)) | (go_at_call 145;exact Calls.quiet_of_same (zw _ hop0 hop17 _)) | (go_at_call 143;exact Calls.quiet_of_same (zL _ hop0 hop17 _)))
   go_wp2_with fail
   go_ret
   rw [hEE.out]
   exact ⟨rfl,by first | exact B5.out | exact zR B5.out _⟩
  have f0:decide (0≤hp∧hp≤(n:Int)-1)=true:=decide_eq_true r0
  by_cases r1:0≤ho∧ho≤(n:Int)-1
  case neg=>
   have f1:decide (0≤ho∧ho≤(n:Int)-1)=false:=decide_eq_false r1
   have hEE:Hid (E=2):=by rw [Hid,HE.out];exact if_pos (by first | exact .inl ⟨rfl,r1⟩ | exact .inr (.inl ⟨rfl,r1⟩) | exact .inr (.inr (.inl ⟨rfl,r1⟩)) | exact .inr (.inr (.inr ⟨rfl,r1⟩)))
   clear HE
   go_wp2_with fail
   go_quiet (first | (go_at_call 94;exact Calls.quiet_of_same (zE _ _ _ _)) | (go_at_call 145;exact Calls.quiet_of_same (zw _ hop0 hop17 _)) | (go_at_call 143;exact Calls.quiet_of_same (zL _ hop0 hop17 _)))
   go_wp2_with fail
   go_ret
   rw [hEE.out]
   exact ⟨rfl,by first | exact B5.out | exact zR B5.out _⟩
  have f1:decide (0≤ho∧ho≤(n:Int)-1)=true:=decide_eq_true r1
  have HE:Hid (E=_):=HE.out.trans (if_neg (by rintro (⟨h,h2⟩ | ⟨h,h2⟩ | ⟨h,h2⟩ | ⟨h,h2⟩)<;>first | exact absurd h (by decide) | exact h2 r0 | exact h2 r1))
  by_cases z2:hv=0
  case neg=>
   have v2:(hv != 0)=true:=by simpa using z2
   have hEE:Hid (E=3):=by rw [Hid,HE.out];exact if_pos (by first | exact .inl ⟨rfl,z2⟩ | exact .inr (.inl ⟨rfl,z2⟩) | exact .inr (.inr (.inl ⟨rfl,z2⟩)) | exact .inr (.inr (.inr ⟨rfl,z2⟩)))
   clear HE
   go_wp2_with fail
   go_quiet (first | (go_at_call 94;exact Calls.quiet_of_same (zE _ _ _ _)) | (go_at_call 145;exact Calls.quiet_of_same (zw _ hop0 hop17 _)) | (go_at_call 143;exact Calls.quiet_of_same (zL _ hop0 hop17 _)))
   go_wp2_with fail
   go_ret
   rw [hEE.out]
   exact ⟨rfl,by first | exact B5.out | exact zR B5.out _⟩
  have v2:(hv != 0)=false:=by simpa using z2
  by_cases z3:hg=0
  case neg=>
   have v3:(hg != 0)=true:=by simpa using z3
   have hEE:Hid (E=3):=by rw [Hid,HE.out];exact if_pos (by first | exact .inl ⟨rfl,z3⟩ | exact .inr (.inl ⟨rfl,z3⟩) | exact .inr (.inr (.inl ⟨rfl,z3⟩)) | exact .inr (.inr (.inr ⟨rfl,z3⟩)))
   clear HE
   go_wp2_with fail
   go_quiet (first | (go_at_call 94;exact Calls.quiet_of_same (zE _ _ _ _)) | (go_at_call 145;exact Calls.quiet_of_same (zw _ hop0 hop17 _)) | (go_at_call 143;exact Calls.quiet_of_same (zL _ hop0 hop17 _)))
   go_wp2_with fail
   go_ret
   rw [hEE.out]
   exact ⟨rfl,by first | exact B5.out | exact zR B5.out _⟩
  have v3:(hg != 0)=false:=by simpa using z3
  have hEE:Hid (E=0):=by rw [Hid,HE.out];exact if_neg (by rintro (⟨h,h2⟩ | ⟨h,h2⟩ | ⟨h,h2⟩ | ⟨h,h2⟩)<;>first | exact absurd h (by decide) | exact h2 z2 | exact h2 z3)
  clear HE
  go_wp2_with fail
  go_quiet (first | (go_at_call 94;exact Calls.quiet_of_same (zE _ _ _ _)) | (go_at_call 145;exact Calls.quiet_of_same (zw _ hop0 hop17 _)) | (go_at_call 143;exact Calls.quiet_of_same (zL _ hop0 hop17 _)))
  go_wp2_with fail
  go_ret
  rw [hEE.out]
  exact ⟨rfl,by first | exact B5.out | exact zR B5.out _⟩
 ·
  by_cases r0:0≤hp∧hp≤(n:Int)-1
  case neg=>
   have f0:decide (0≤hp∧hp≤(n:Int)-1)=false:=decide_eq_false r0
   have hEE:Hid (E=2):=by rw [Hid,HE.out];exact if_pos (by first | exact .inl ⟨rfl,r0⟩ | exact .inr (.inl ⟨rfl,r0⟩) | exact .inr (.inr (.inl ⟨rfl,r0⟩)) | exact .inr (.inr (.inr ⟨rfl,r0⟩)))
   clear HE
   go_wp2_with fail
   go_quiet (first | (go_at_call 94;exact Calls.quiet_of_same (zE _ _ _ _)) | (go_at_call 145;exact Calls.quiet_of_same (zw _ hop0 hop17 _)) | (go_at_call 143;exact Calls.quiet_of_same (zL _ hop0 hop17 _)))
   go_wp2_with fail
   go_ret
   rw [hEE.out]
   exact ⟨rfl,by first | exact B5.out | exact zR B5.out _⟩
  have f0:decide (0≤hp∧hp≤(n:Int)-1)=true:=decide_eq_true r0
  have HE:Hid (E=_):=HE.out.trans (if_neg (by rintro (⟨h,h2⟩ | ⟨h,h2⟩ | ⟨h,h2⟩ | ⟨h,h2⟩)<;>first | exact absurd h (by decide) | exact h2 r0))
  by_cases z1:ho=0
  case neg=>
   have v1:(ho != 0)=true:=by simpa using z1
   have hEE:Hid (E=3):=by rw [Hid,HE.out];exact if_pos (by first | exact .inl ⟨rfl,z1⟩ | exact .inr (.inl ⟨rfl,z1⟩) | exact .inr (.inr (.inl ⟨rfl,z1⟩)) | exact .inr (.inr (.inr ⟨rfl,z1⟩)))
   clear HE
   go_wp2_with fail
   go_quiet (first | (go_at_call 94;exact Calls.quiet_of_same (zE _ _ _ _)) | (go_at_call 145;exact Calls.quiet_of_same (zw _ hop0 hop17 _)) | (go_at_call 143;exact Calls.quiet_of_same (zL _ hop0 hop17 _)))
   go_wp2_with fail
   go_ret
   rw [hEE.out]
   exact ⟨rfl,by first | exact B5.out | exact zR B5.out _⟩
  have v1:(ho != 0)=false:=by simpa using z1
  by_cases z2:hv=0
  case neg=>
   have v2:(hv != 0)=true:=by simpa using z2
   have hEE:Hid (E=3):=by rw [Hid,HE.out];exact if_pos (by first | exact .inl ⟨rfl,z2⟩ | exact .inr (.inl ⟨rfl,z2⟩) | exact .inr (.inr (.inl ⟨rfl,z2⟩)) | exact .inr (.inr (.inr ⟨rfl,z2⟩)))
   clear HE
   go_wp2_with fail
   go_quiet (first | (go_at_call 94;exact Calls.quiet_of_same (zE _ _ _ _)) | (go_at_call 145;exact Calls.quiet_of_same (zw _ hop0 hop17 _)) | (go_at_call 143;exact Calls.quiet_of_same (zL _ hop0 hop17 _)))
   go_wp2_with fail
   go_ret
   rw [hEE.out]
   exact ⟨rfl,by first | exact B5.out | exact zR B5.out _⟩
  have v2:(hv != 0)=false:=by simpa using z2
  by_cases z3:hg=0
  case neg=>
   have v3:(hg != 0)=true:=by simpa using z3
   have hEE:Hid (E=3):=by rw [Hid,HE.out];exact if_pos (by first | exact .inl ⟨rfl,z3⟩ | exact .inr (.inl ⟨rfl,z3⟩) | exact .inr (.inr (.inl ⟨rfl,z3⟩)) | exact .inr (.inr (.inr ⟨rfl,z3⟩)))
   clear HE
   go_wp2_with fail
   go_quiet (first | (go_at_call 94;exact Calls.quiet_of_same (zE _ _ _ _)) | (go_at_call 145;exact Calls.quiet_of_same (zw _ hop0 hop17 _)) | (go_at_call 143;exact Calls.quiet_of_same (zL _ hop0 hop17 _)))
   go_wp2_with fail
   go_ret
   rw [hEE.out]
   exact ⟨rfl,by first | exact B5.out | exact zR B5.out _⟩
  have v3:(hg != 0)=false:=by simpa using z3
  have hEE:Hid (E=0):=by rw [Hid,HE.out];exact if_neg (by rintro (⟨h,h2⟩ | ⟨h,h2⟩ | ⟨h,h2⟩ | ⟨h,h2⟩)<;>first | exact absurd h (by decide) | exact h2 z1 | exact h2 z2 | exact h2 z3)
  clear HE
  go_wp2_with fail
  go_quiet (first | (go_at_call 94;exact Calls.quiet_of_same (zE _ _ _ _)) | (go_at_call 145;exact Calls.quiet_of_same (zw _ hop0 hop17 _)) | (go_at_call 143;exact Calls.quiet_of_same (zL _ hop0 hop17 _)))
  go_wp2_with fail
  go_ret
  rw [hEE.out]
  exact ⟨rfl,by first | exact B5.out | exact zR B5.out _⟩
 ·
  by_cases r3:0≤hg∧hg≤(2:Int)^n-1
  case neg=>
   have f3:decide (0≤hg∧hg≤(2:Int)^n-1)=false:=decide_eq_false r3
   have hEE:Hid (E=2):=by rw [Hid,HE.out];exact if_pos (by first | exact .inl ⟨rfl,r3⟩ | exact .inr (.inl ⟨rfl,r3⟩) | exact .inr (.inr (.inl ⟨rfl,r3⟩)) | exact .inr (.inr (.inr ⟨rfl,r3⟩)))
   clear HE
   go_wp2_with fail
   go_quiet (first | (go_at_call 94;exact Calls.quiet_of_same (zE _ _ _ _)) | (go_at_call 145;exact Calls.quiet_of_same (zw _ hop0 hop17 _)) | (go_at_call 143;exact Calls.quiet_of_same (zL _ hop0 hop17 _)))
   go_wp2_with fail
   go_ret
   rw [hEE.out]
   exact ⟨rfl,by first | exact B5.out | exact zR B5.out _⟩
  have f3:decide (0≤hg∧hg≤(2:Int)^n-1)=true:=decide_eq_true r3
  have HE:Hid (E=_):=HE.out.trans (if_neg (by rintro (⟨h,h2⟩ | ⟨h,h2⟩ | ⟨h,h2⟩ | ⟨h,h2⟩)<;>first | exact absurd h (by decide) | exact h2 r3))
  by_cases z0:hp=0
  case neg=>
   have v0:(hp != 0)=true:=by simpa using z0
   have hEE:Hid (E=3):=by rw [Hid,HE.out];exact if_pos (by first | exact .inl ⟨rfl,z0⟩ | exact .inr (.inl ⟨rfl,z0⟩) | exact .inr (.inr (.inl ⟨rfl,z0⟩)) | exact .inr (.inr (.inr ⟨rfl,z0⟩)))
   clear HE
   go_wp2_with fail
   go_quiet (first | (go_at_call 94;exact Calls.quiet_of_same (zE _ _ _ _)) | (go_at_call 145;exact Calls.quiet_of_same (zw _ hop0 hop17 _)) | (go_at_call 143;exact Calls.quiet_of_same (zL _ hop0 hop17 _)))
   go_wp2_with fail
   go_ret
   rw [hEE.out]
   exact ⟨rfl,by first | exact B5.out | exact zR B5.out _⟩
  have v0:(hp != 0)=false:=by simpa using z0
  by_cases z1:ho=0
  case neg=>
   have v1:(ho != 0)=true:=by simpa using z1
   have hEE:Hid (E=3):=by rw [Hid,HE.out];exact if_pos (by first | exact .inl ⟨rfl,z1⟩ | exact .inr (.inl ⟨rfl,z1⟩) | exact .inr (.inr (.inl ⟨rfl,z1⟩)) | exact .inr (.inr (.inr ⟨rfl,z1⟩)))
   clear HE
   go_wp2_with fail
   go_quiet (first | (go_at_call 94;exact Calls.quiet_of_same (zE _ _ _ _)) | (go_at_call 145;exact Calls.quiet_of_same (zw _ hop0 hop17 _)) | (go_at_call 143;exact Calls.quiet_of_same (zL _ hop0 hop17 _)))
   go_wp2_with fail
   go_ret
   rw [hEE.out]
   exact ⟨rfl,by first | exact B5.out | exact zR B5.out _⟩
  have v1:(ho != 0)=false:=by simpa using z1
  by_cases z2:hv=0
  case neg=>
   have v2:(hv != 0)=true:=by simpa using z2
   have hEE:Hid (E=3):=by rw [Hid,HE.out];exact if_pos (by first | exact .inl ⟨rfl,z2⟩ | exact .inr (.inl ⟨rfl,z2⟩) | exact .inr (.inr (.inl ⟨rfl,z2⟩)) | exact .inr (.inr (.inr ⟨rfl,z2⟩)))
   clear HE
   go_wp2_with fail
   go_quiet (first | (go_at_call 94;exact Calls.quiet_of_same (zE _ _ _ _)) | (go_at_call 145;exact Calls.quiet_of_same (zw _ hop0 hop17 _)) | (go_at_call 143;exact Calls.quiet_of_same (zL _ hop0 hop17 _)))
   go_wp2_with fail
   go_ret
   rw [hEE.out]
   exact ⟨rfl,by first | exact B5.out | exact zR B5.out _⟩
  have v2:(hv != 0)=false:=by simpa using z2
  have hEE:Hid (E=0):=by rw [Hid,HE.out];exact if_neg (by rintro (⟨h,h2⟩ | ⟨h,h2⟩ | ⟨h,h2⟩ | ⟨h,h2⟩)<;>first | exact absurd h (by decide) | exact h2 z0 | exact h2 z1 | exact h2 z2)
  clear HE
  go_wp2_with fail
  go_quiet (first | (go_at_call 94;exact Calls.quiet_of_same (zE _ _ _ _)) | (go_at_call 145;exact Calls.quiet_of_same (zw _ hop0 hop17 _)) | (go_at_call 143;exact Calls.quiet_of_same (zL _ hop0 hop17 _)))
  go_wp2_with fail
  go_ret
  rw [hEE.out]
  exact ⟨rfl,by first | exact B5.out | exact zR B5.out _⟩
 ·
  have HE:Hid (E=_):=HE.out.trans (if_neg (by rintro (⟨h,h2⟩ | ⟨h,h2⟩ | ⟨h,h2⟩ | ⟨h,h2⟩)<;>first | exact absurd h (by decide) | exact absurd h (by decide)))
  by_cases z0:hp=0
  case neg=>
   have v0:(hp != 0)=true:=by simpa using z0
   have hEE:Hid (E=3):=by rw [Hid,HE.out];exact if_pos (by first | exact .inl ⟨rfl,z0⟩ | exact .inr (.inl ⟨rfl,z0⟩) | exact .inr (.inr (.inl ⟨rfl,z0⟩)) | exact .inr (.inr (.inr ⟨rfl,z0⟩)))
   clear HE
   go_wp2_with fail
   go_quiet (first | (go_at_call 94;exact Calls.quiet_of_same (zE _ _ _ _)) | (go_at_call 145;exact Calls.quiet_of_same (zw _ hop0 hop17 _)) | (go_at_call 143;exact Calls.quiet_of_same (zL _ hop0 hop17 _)))
   go_wp2_with fail
   go_ret
   rw [hEE.out]
   exact ⟨rfl,by first | exact B5.out | exact zR B5.out _⟩
  have v0:(hp != 0)=false:=by simpa using z0
  by_cases z1:ho=0
  case neg=>
   have v1:(ho != 0)=true:=by simpa using z1
   have hEE:Hid (E=3):=by rw [Hid,HE.out];exact if_pos (by first | exact .inl ⟨rfl,z1⟩ | exact .inr (.inl ⟨rfl,z1⟩) | exact .inr (.inr (.inl ⟨rfl,z1⟩)) | exact .inr (.inr (.inr ⟨rfl,z1⟩)))
   clear HE
   go_wp2_with fail
   go_quiet (first | (go_at_call 94;exact Calls.quiet_of_same (zE _ _ _ _)) | (go_at_call 145;exact Calls.quiet_of_same (zw _ hop0 hop17 _)) | (go_at_call 143;exact Calls.quiet_of_same (zL _ hop0 hop17 _)))
   go_wp2_with fail
   go_ret
   rw [hEE.out]
   exact ⟨rfl,by first | exact B5.out | exact zR B5.out _⟩
  have v1:(ho != 0)=false:=by simpa using z1
  by_cases z2:hv=0
  case neg=>
   have v2:(hv != 0)=true:=by simpa using z2
   have hEE:Hid (E=3):=by rw [Hid,HE.out];exact if_pos (by first | exact .inl ⟨rfl,z2⟩ | exact .inr (.inl ⟨rfl,z2⟩) | exact .inr (.inr (.inl ⟨rfl,z2⟩)) | exact .inr (.inr (.inr ⟨rfl,z2⟩)))
   clear HE
   go_wp2_with fail
   go_quiet (first | (go_at_call 94;exact Calls.quiet_of_same (zE _ _ _ _)) | (go_at_call 145;exact Calls.quiet_of_same (zw _ hop0 hop17 _)) | (go_at_call 143;exact Calls.quiet_of_same (zL _ hop0 hop17 _)))
   go_wp2_with fail
   go_ret
   rw [hEE.out]
   exact ⟨rfl,by first | exact B5.out | exact zR B5.out _⟩
  have v2:(hv != 0)=false:=by simpa using z2
  by_cases z3:hg=0
  case neg=>
   have v3:(hg != 0)=true:=by simpa using z3
   have hEE:Hid (E=3):=by rw [Hid,HE.out];exact if_pos (by first | exact .inl ⟨rfl,z3⟩ | exact .inr (.inl ⟨rfl,z3⟩) | exact .inr (.inr (.inl ⟨rfl,z3⟩)) | exact .inr (.inr (.inr ⟨rfl,z3⟩)))
   clear HE
   go_wp2_with fail
   go_quiet (first | (go_at_call 94;exact Calls.quiet_of_same (zE _ _ _ _)) | (go_at_call 145;exact Calls.quiet_of_same (zw _ hop0 hop17 _)) | (go_at_call 143;exact Calls.quiet_of_same (zL _ hop0 hop17 _)))
   go_wp2_with fail
   go_ret
   rw [hEE.out]
   exact ⟨rfl,by first | exact B5.out | exact zR B5.out _⟩
  have v3:(hg != 0)=false:=by simpa using z3
  have hEE:Hid (E=0):=by rw [Hid,HE.out];exact if_neg (by rintro (⟨h,h2⟩ | ⟨h,h2⟩ | ⟨h,h2⟩ | ⟨h,h2⟩)<;>first | exact absurd h (by decide) | exact h2 z0 | exact h2 z1 | exact h2 z2 | exact h2 z3)
  clear HE
  go_wp2_with fail
  go_quiet (first | (go_at_call 94;exact Calls.quiet_of_same (zE _ _ _ _)) | (go_at_call 145;exact Calls.quiet_of_same (zw _ hop0 hop17 _)) | (go_at_call 143;exact Calls.quiet_of_same (zL _ hop0 hop17 _)))
  go_wp2_with fail
  go_ret
  rw [hEE.out]
  exact ⟨rfl,by first | exact B5.out | exact zR B5.out _⟩
end
section
open Go.RowKit Go.Shelf
attribute [local go_sem] Oper.semAt_some
set_option maxRecDepth 100000 in
theorem ZM (f:Fm) (R:Fm→Nat×Nat) (A:Option Addr) (c:Nat) (w:World) (hl:f.args.length≤1000000) (hb:(yi R f.args).1≤1000000∧(yi R f.args).2≤1000000)
  (hrec:RecAt w A f.args fun cs x X=>Calls Tryz.prog 95 #[.agg cs] X fun e w'=>e=.returned (.tuple #[.int .i64 ((R x).1:Int),.int .i64 ((R x).2:Int)])∧Below X.heap.size X w') :
  Calls Tryz.prog 95 #[.agg (f.vs A c)] w fun e w'=>e=.returned (.tuple #[.int .i64 ((yi R f.args).1:Int),.int .i64 (((yi R f.args).2+1:Nat):Int)])∧Below w.heap.size w w':=by
 obtain ⟨w1,hw1,d0,hs1,hB⟩:=zm w (f.vs A c) 41
 have HREC:=zH hrec
 have HTK:=zH (fun k=>vj R f.args k)
 have HSN:=zH (fun k (h:k<f.args.length)=>(by rw [List.take_succ_eq_append_getElem h,vm]:yi R (f.args.take (k+1))=((yi R (f.args.take k)).1+(R f.args[k]).1,max (yi R (f.args.take k)).2 (R f.args[k]).2)))
 have HEND:Hid (yi R (f.args.take f.args.length)=yi R f.args):=by rw [Hid,List.take_length]
 have HHB:=zH hb
 unfold Fm.vs at hw1 d0 HREC ⊢
 obtain ⟨l,hll⟩:∃l,f.args=l:=⟨_,rfl⟩
 rw [hll] at hw1 d0 HREC HTK HSN HEND HHB hl ⊢
 obtain ⟨T,hT⟩:∃T,yi R l=T:=⟨_,rfl⟩
 rw [hT] at HTK HEND HHB ⊢
 obtain ⟨n,hn⟩:∃n,l.length=n:=⟨_,rfl⟩
 have HN:=zH hn
 rw [hn] at hw1 d0 HEND hl ⊢
 have HW1:=zH hw1
 have HB:=zH hB
 have HD0:=zH d0
 have p0:=zh (d0) 0 rfl
 have p1:=zh (d0) 1 rfl
 have p2:=zh (d0) 2 rfl
 have p3:=zh (d0) 3 rfl
 have p4:=zh (d0) 4 rfl
 have p5:=zh (d0) 5 rfl
 clear hw1 d0 hB hrec hb hll hT hn
 go_enter Tryz.func95,Tryz.ntmps95
 go_wp2_with fail
 rw [HW1.out]
 go_wp2_with fail
 go_loopw [4,5,6] (fun a b i wr=>∃k:Nat,k≤n∧i=.int .i64 (k:Int)∧a=.int .i64 ((yi R (l.take k)).1:Int)∧b=.int .i64 ((yi R (l.take k)).2:Int)∧Hid (Below w1.heap.size w1 wr)) (fun _ _ i _=>n-(intOf i).toNat)
 case atStart=>exact ⟨0,by omega,rfl,rfl,rfl,Below.refl _ _⟩
 case round=>
  obtain ⟨k,hk,rfl,rfl,rfl,hbr⟩:=hrel
  clear p0 p1 p2 p3 p4 p5 HW1
  obtain ⟨a,ha⟩:∃a,(yi R (l.take k)).1=a:=⟨_,rfl⟩
  obtain ⟨b,hb⟩:∃b,(yi R (l.take k)).2=b:=⟨_,rfl⟩
  have ha6:a≤1000000∧b≤1000000:=by
   have h1:=HTK.out k
   have h2:=HHB.out
   omega
  have p5:=zh ((hbr.out.block _ (zj HD0.out)).trans HD0.out) 5 rfl
  by_cases hlt:k<n
  · have hkl:k<l.length:=by have:=HN.out;omega
    have hsn:=HSN.out k hkl
    obtain ⟨bb,o,A',c',eA,hbb,hcell,hcall⟩:=HREC.out k hkl
    subst eA
    obtain ⟨x,hx⟩:∃x,l[k]=x:=⟨_,rfl⟩
    rw [hx] at hcell hcall hsn
    obtain ⟨Rx,hRx⟩:∃Rx,R x=Rx:=⟨_,rfl⟩
    dsimp only at hcall
    rw [hRx] at hcall hsn
    rw [ha,hb] at hsn
    have hE1:(yi R (l.take (k+1))).1=a+Rx.1:=by rw [hsn]
    have hE2:(yi R (l.take (k+1))).2=max b Rx.2:=by rw [hsn]
    have HE1:=zH hE1
    have HE2:=zH hE2
    have htk:=HTK.out (k+1)
    have hs6:a+Rx.1≤1000000∧max b Rx.2≤1000000:=by
     have h2:=HHB.out
     omega
    obtain ⟨xh,xl⟩:=x
    obtain ⟨h0,h1,h2,h3,h4⟩:=xh
    have hWw:Below w.heap.size w wr:=HB.out.trans (hbr.out.mono (by have:=HB.out.size;omega))
    have hc:∀j v,#[Value.int .i64 h0,.int .i64 h1,.int .i64 h2,.int .i64 h3,.int .i64 h4,.slice A' xl.length c'][j]?=some v→wr.cell? ⟨bb,o+k*6+j,none⟩=some v:=hcell wr hWw
    have z0:wr.cell? ⟨bb,o+k*6,none⟩=some (.int .i64 h0):=hc 0 _ rfl
    have z1:wr.cell? ⟨bb,o+k*6+1,none⟩=some (.int .i64 h1):=hc 1 _ rfl
    have z2:wr.cell? ⟨bb,o+k*6+2,none⟩=some (.int .i64 h2):=hc 2 _ rfl
    have z3:wr.cell? ⟨bb,o+k*6+3,none⟩=some (.int .i64 h3):=hc 3 _ rfl
    have z4:wr.cell? ⟨bb,o+k*6+4,none⟩=some (.int .i64 h4):=hc 4 _ rfl
    have z5:wr.cell? ⟨bb,o+k*6+5,none⟩=some (.slice A' xl.length c'):=hc 5 _ rfl
    have hk0:(0:Int)≤(k:Int):=by omega
    have hk1:(k:Int)<(n:Int):=by omega
    have hbw:bb<wr.heap.size:=by have:=hbr.out.size;have:=HB.out.size;omega
    have HC:=zH (hcall wr hWw)
    have HHR:=zH hbr.out
    simp only [Fm.vs,Fm.args,Fm.h] at HC
    clear hcell hcall hx hRx hsn htk hE1 hE2 hc hbr hWw
    obtain ⟨r1,r2⟩:=Rx
    dsimp only at HC HE1 HE2 hs6
    go_wp2_with fail
    refine HC.out.mono ?_
    rintro e w3 ⟨rfl,hb3⟩
    have HB3:=zH (HHR.out.trans (hb3.mono HHR.out.size))
    have hw1:IntKind.i64.wrap ((a:Int)+(r1:Int))=((a+r1:Nat):Int):=by rw [IntKind.wrap_i64];omega
    clear hb3 HC z0 z1 z2 z3 z4 z5 p5
    by_cases hmx:b<r2
    · have hm1:((r2:Int)>(b:Int))=True:=eq_true (by omega)
      have hm2:decide ((b:Int)<(r2:Int))=true:=decide_eq_true (by omega)
      have hm3:(b:Int)<(r2:Int):=by omega
      have hE:Hid (max b r2=r2):=by rw [Hid];omega
      go_wp2_with fail
      go_roundw
      case rel=>exact ⟨k+1,by omega,by go_num,by first | (rw [HE1.out];done) | (rw [HE1.out];go_num),by rw [HE2.out,hE.out],HB3⟩
      case measure=>simp [intOf];omega
    · have hm2:decide ((b:Int)<(r2:Int))=false:=decide_eq_false (by omega)
      have hm3:¬(b:Int)<(r2:Int):=by omega
      have hE:Hid (max b r2=b):=by rw [Hid];omega
      go_wp2_with fail
      go_roundw
      case rel=>exact ⟨k+1,by omega,by go_num,by first | (rw [HE1.out];done) | (rw [HE1.out];go_num),by rw [HE2.out,hE.out],HB3⟩
      case measure=>simp [intOf];omega
  · obtain rfl:k=n:=by omega
    have h1:Hid (a=T.1):=by rw [Hid,←ha,HEND.out]
    have h2:Hid (b=T.2):=by rw [Hid,←hb,HEND.out]
    have hBF:=zH (HB.out.trans (hbr.out.mono (by have:=HB.out.size;omega)))
    have hw1:IntKind.i64.wrap ((b:Int)+1)=((b+1:Nat):Int):=by rw [IntKind.wrap_i64];omega
    clear HTK HSN HEND HHB HREC
    go_wp2_with fail
    go_ret2
    refine ⟨?_,hBF.out⟩
    show Ending.returned (.tuple #[.int .i64 ((yi R (l.take k)).1:Int),.int .i64 ((b:Int)+1)])=_
    rw [←h1.out,←h2.out,ha];rfl
theorem ZN:∀(d:Nat) (f:Fm) (A:Option Addr) (c:Nat) (w:World),FsAt w w.heap.size d A f.args→(yx d f).1≤1000000 →
  Calls Tryz.prog 95 #[.agg (f.vs A c)] w fun e w'=>e=.returned (.tuple #[.int .i64 ((yx d f).1:Int),.int .i64 ((yx d f).2:Int)])∧Below w.heap.size w w'
 | 0,f,A,c,w,hA,hb=>by
  have h0:f.args=[]:=hA
  exact ZM f (fun _=>(0,0)) A c w (by rw [h0];decide) (by rw [h0];decide) (RecAt.none hA)
 | d+1,f,A,c,w,hA,hb=>by
  have h1:(yi (yx d) f.args).1≤1000000:=hb
  have h2:(yi (yx d) f.args).2+1≤(yi (yx d) f.args).1:=vp (d+1) f
  have h3:=vn (yx d) (jL d) f.args
  refine ZM f (yx d) A c w (by omega) (by omega) (RecAt.of hA fun x A' c' X hx hX=>ZN d x A' c' X hX ?_)
  exact Nat.le_trans (uC (yx d) hx) h1
set_option maxRecDepth 100000 in
theorem gK (f:Fm) (R:Fm→Nat×Nat) (hR:∀x,1≤(R x).1) (L:Nat) (hL1:1≤L) (hL:L≤140) (A:Option Addr) (c:Nat) (w:World)
  (hrec:RecAt w A f.args fun cs x X=>∀L':Nat,1≤L'→L'≤140→Calls Tryz.prog 23 #[.agg cs,.int .i64 (L':Int)] X fun e w'=>e=.returned (.int .i64 ((min (R x).1 L':Nat):Int))∧Below X.heap.size X w') :
  Calls Tryz.prog 23 #[.agg (f.vs A c),.int .i64 (L:Int)] w fun e w'=>e=.returned (.int .i64 ((min (yi R f.args).1 L:Nat):Int))∧Below w.heap.size w w':=by
 obtain ⟨w1,hw1,d0,hs1,hB⟩:=zm w (f.vs A c) 41
 have HREC:=zH hrec
 have HSN:=zH (fun k (h:k<f.args.length)=>fcK_step R hR (L:=L) h)
 have HEN:=zH (fun k=>fcK_end R (L:=L) (k:=k) (l:=f.args))
 have HZ0:=zH (fcK_zero R hL1 f.args)
 have HLE:Hid (∀k,fcK R L f.args k≤L):=fun k=>by unfold fcK;omega
 unfold Fm.vs at hw1 d0 HREC ⊢
 obtain ⟨l,hll⟩:∃l,f.args=l:=⟨_,rfl⟩
 rw [hll] at hw1 d0 HREC HSN HEN HZ0 HLE ⊢
 obtain ⟨T,hT⟩:∃T,min (yi R l).1 L=T:=⟨_,rfl⟩
 rw [hT] at HEN ⊢
 obtain ⟨n,hn⟩:∃n,l.length=n:=⟨_,rfl⟩
 have HN:=zH hn
 rw [hn] at hw1 d0 HEN ⊢
 have HW1:=zH hw1
 have HB:=zH hB
 have HD0:=zH d0
 have p0:=zh (d0) 0 rfl
 have p1:=zh (d0) 1 rfl
 have p2:=zh (d0) 2 rfl
 have p3:=zh (d0) 3 rfl
 have p4:=zh (d0) 4 rfl
 have p5:=zh (d0) 5 rfl
 clear hw1 d0 hB hrec hll hT hn
 go_enter Tryz.func23,Tryz.ntmps23
 go_wp2_with fail
 rw [HW1.out]
 go_wp2_with fail
 go_loopw [5,6] (fun a i wr=>∃k:Nat,k≤n∧i=.int .i64 (k:Int)∧a=.int .i64 (fcK R L l k:Int)∧k+1≤fcK R L l k∧Hid (Below w1.heap.size w1 wr)) (fun _ i _=>n-(intOf i).toNat)
 case atStart=>exact ⟨0,by omega,rfl,by rw [HZ0.out];rfl,by rw [HZ0.out];omega,Below.refl _ _⟩
 case round=>
  obtain ⟨k,hk,rfl,rfl,hka,hbr⟩:=hrel
  clear p0 p1 p2 p3 p4 p5 HW1 HZ0
  obtain ⟨a,ha⟩:∃a,fcK R L l k=a:=⟨_,rfl⟩
  have haL:a≤L:=by rw [←ha];exact HLE.out k
  have p5:=zh ((hbr.out.block _ (zj HD0.out)).trans HD0.out) 5 rfl
  rw [ha] at hka ⊢
  by_cases hlt:k<n
  · have hk0:(0:Int)≤(k:Int):=by omega
    have hk1:(k:Int)<(n:Int):=by omega
    by_cases haL2:a<L
    · have ha1:(a:Int)<(L:Int):=by omega
      have hkl:k<l.length:=by have:=HN.out;omega
      have hsn:=HSN.out k hkl (by rw [ha];exact haL2)
      rw [ha] at hsn
      obtain ⟨bb,o,A',c',eA,hbb,hcell,hcall⟩:=HREC.out k hkl
      subst eA
      obtain ⟨x,hx⟩:∃x,l[k]=x:=⟨_,rfl⟩
      rw [hx] at hcell hcall hsn
      obtain ⟨xh,xl⟩:=x
      obtain ⟨h0,h1,h2,h3,h4⟩:=xh
      have hWw:Below w.heap.size w wr:=HB.out.trans (hbr.out.mono (by have:=HB.out.size;omega))
      have hc:∀j v,#[Value.int .i64 h0,.int .i64 h1,.int .i64 h2,.int .i64 h3,.int .i64 h4,.slice A' xl.length c'][j]?=some v→wr.cell? ⟨bb,o+k*6+j,none⟩=some v:=hcell wr hWw
      have z0:wr.cell? ⟨bb,o+k*6,none⟩=some (.int .i64 h0):=hc 0 _ rfl
      have z1:wr.cell? ⟨bb,o+k*6+1,none⟩=some (.int .i64 h1):=hc 1 _ rfl
      have z2:wr.cell? ⟨bb,o+k*6+2,none⟩=some (.int .i64 h2):=hc 2 _ rfl
      have z3:wr.cell? ⟨bb,o+k*6+3,none⟩=some (.int .i64 h3):=hc 3 _ rfl
      have z4:wr.cell? ⟨bb,o+k*6+4,none⟩=some (.int .i64 h4):=hc 4 _ rfl
      have z5:wr.cell? ⟨bb,o+k*6+5,none⟩=some (.slice A' xl.length c'):=hc 5 _ rfl
      have hbw:bb<wr.heap.size:=by have:=hbr.out.size;have:=HB.out.size;omega
      have HC:=zH (hcall wr hWw (L-a) (by omega) (by omega))
      simp only [Fm.vs,Fm.args,Fm.h] at HC
      have hsub:(L:Int)-(a:Int)=((L-a:Nat):Int):=by omega
      have hwb:IntKind.i64.wrap ((L-a:Nat):Int)=((L-a:Nat):Int):=by rw [IntKind.wrap_i64];omega
      obtain ⟨r,hr⟩:∃r,min (R (Fm.mk ⟨h0,h1,h2,h3,h4⟩ xl)).1 (L-a)=r:=⟨_,rfl⟩
      have hrL:r≤L-a:=by omega
      have hr1:1≤r:=by have:=hR (Fm.mk ⟨h0,h1,h2,h3,h4⟩ xl);omega
      rw [hr] at HC hsn
      have HSX:=zH hsn
      obtain ⟨q,hq⟩:∃q,L-a=q:=⟨_,rfl⟩
      rw [hq] at HC hsub hwb hrL
      have HHR:=zH hbr.out
      clear hcell hcall hx hc hbr hWw hr hsn hq
      go_wp2_with fail
      refine HC.out.mono ?_
      rintro e w3 ⟨rfl,hb3⟩
      have HB3:=zH (HHR.out.trans (hb3.mono HHR.out.size))
      have hw1:IntKind.i64.wrap ((a:Int)+(r:Int))=((a+r:Nat):Int):=by rw [IntKind.wrap_i64];omega
      have hw2:IntKind.i64.wrap ((k:Int)+1)=((k+1:Nat):Int):=by rw [IntKind.wrap_i64];omega
      clear hb3 HC z0 z1 z2 z3 z4 z5 p5 hsub hwb
      go_wp2_with fail
      go_roundw
      case rel=>exact ⟨k+1,by omega,by go_num,by first | (rw [HSX.out];done) | (rw [HSX.out];go_num),by rw [HSX.out];omega,HB3⟩
      case measure=>simp [intOf];omega
    · have ha1:¬(a:Int)<(L:Int):=by omega
      have hE:Hid (a=T):=by rw [Hid,←HEN.out k (.inr (by rw [ha];omega)),ha]
      have hBF:=zH (HB.out.trans (hbr.out.mono (by have:=HB.out.size;omega)))
      clear HSN HEN HLE HREC hbr
      go_wp2_with fail
      go_ret
      rw [hE.out]
      exact ⟨rfl,hBF.out⟩
  · have hk1:¬(k:Int)<(n:Int):=by omega
    have hE:Hid (a=T):=by rw [Hid,←HEN.out k (.inl (by have:=HN.out;omega)),ha]
    have hBF:=zH (HB.out.trans (hbr.out.mono (by have:=HB.out.size;omega)))
    clear HSN HEN HLE HREC hbr
    go_wp2_with fail
    go_ret
    rw [hE.out]
    exact ⟨rfl,hBF.out⟩
theorem gL:∀(d:Nat) (f:Fm) (L:Nat) (_:1≤L) (_:L≤140) (A:Option Addr) (c:Nat) (w:World),FsAt w w.heap.size d A f.args →
  Calls Tryz.prog 23 #[.agg (f.vs A c),.int .i64 (L:Int)] w fun e w'=>e=.returned (.int .i64 ((min (yx d f).1 L:Nat):Int))∧Below w.heap.size w w'
 | 0,f,L,h1,hL,A,c,w,hA=>by
  have h0:f.args=[]:=hA
  have:=gK f (fun _=>(1,1)) (fun _=>Nat.le_refl _) L h1 hL A c w (RecAt.none hA)
  rw [h0] at this
  unfold yx
  rw [h0]
  exact this
 | d+1,f,L,h1,hL,A,c,w,hA=>gK f (yx d) (jL d) L h1 hL A c w (RecAt.of hA fun x A' c' X hx hX L' h1' hL'=>gL d x L' h1' hL' A' c' X hX)
end
section
open Go.RowKit Go.Shelf
attribute [local go_sem] Oper.semAt_some
set_option maxRecDepth 100000 in
theorem gG (N:Nat) (hN1:1≤N) (hN:N≤5) (f:Fm) (R:Fm→Int) (A:Option Addr) (c:Nat) (w:World) (hl:f.args.length≤1000000)
  (hrec:RecAt w A f.args fun cs x X=>Calls Tryz.prog 97 #[.agg cs,.int .i64 (N:Int)] X fun e w'=>e=.returned (.int .i64 (R x))∧Below X.heap.size X w') :
  Calls Tryz.prog 97 #[.agg (f.vs A c),.int .i64 (N:Int)] w fun e w'=>e=.returned (.int .i64 (nodS N R f))∧Below w.heap.size w w':=by
 obtain ⟨w1,hw1,d0,hs1,hB⟩:=zm w (f.vs A c) 41
 have HREC:=zH hrec
 obtain ⟨⟨op,hp,ho,hv,hg⟩,l⟩:=f
 obtain ⟨E,hE⟩:∃E,nodS N R (.mk ⟨op,hp,ho,hv,hg⟩ l)=E:=⟨_,rfl⟩
 have HE:Hid (E=if kZ N ⟨op,hp,ho,hv,hg⟩ l.length≠0 then kZ N ⟨op,hp,ho,hv,hg⟩ l.length else YW (l.map R)):=hE.symm
 rw [hE]
 simp only [Fm.vs,Fm.args,Fm.h] at hw1 d0 HREC hl HE ⊢
 have HND:=zH (QJ N hN1 hN op hp ho hv hg A l.length c w1)
 obtain ⟨e1,he1⟩:∃e1,kZ N ⟨op,hp,ho,hv,hg⟩ l.length=e1:=⟨_,rfl⟩
 rw [he1] at HE HND
 obtain ⟨n,hn⟩:∃n,l.length=n:=⟨_,rfl⟩
 have HN:=zH hn
 rw [hn] at hw1 d0 hl HND ⊢
 have HW1:=zH hw1
 have HB:=zH hB
 have HD0:=zH d0
 have p0:=zh (d0) 0 rfl
 have p1:=zh (d0) 1 rfl
 have p2:=zh (d0) 2 rfl
 have p3:=zh (d0) 3 rfl
 have p4:=zh (d0) 4 rfl
 have p5:=zh (d0) 5 rfl
 clear hw1 d0 hB hrec hn hE he1 hN1 hN
 go_enter Tryz.func97,Tryz.ntmps97
 go_wp2_with fail
 rw [HW1.out]
 go_wp2_with fail
 refine HND.out.mono ?_
 rintro e w2 ⟨rfl,hb2⟩
 have HB2:=zH (HB.out.trans (hb2.mono HB.out.size))
 have HD2:=zH ((hb2.block _ (zj HD0.out)).trans HD0.out)
 clear hb2 HND HW1 HB HD0 p0 p1 p2 p3 p4 p5
 by_cases he:e1=0
 case neg=>
  have hz:(e1 != 0)=true:=by simpa using he
  have hEE:Hid (E=e1):=HE.out.trans (if_pos he)
  clear HE HREC
  go_wp2_with fail
  go_ret
  rw [hEE.out]
  exact ⟨rfl,HB2.out⟩
 subst he
 have HE:Hid (E=YW (l.map R)):=HE.out.trans (if_neg (by simp))
 have p5:=zh HD2.out 5 rfl
 go_wp2_with fail
 go_loopw [6] (fun i wr=>∃k:Nat,k≤n∧i=.int .i64 (k:Int)∧Hid (∀j (hj:j<l.length),j<k→R l[j]=0)∧Hid (Below w2.heap.size w2 wr)) (fun i _=>n-(intOf i).toNat)
 case atStart=>exact ⟨0,by omega,rfl,fun j _ h=>absurd h (by omega),Below.refl _ _⟩
 case round=>
  obtain ⟨k,hk,rfl,hz,hbr⟩:=hrel
  clear p5
  have p5:=zh ((hbr.out.block _ (zj HD2.out)).trans HD2.out) 5 rfl
  by_cases hlt:k<n
  · have hkl:k<l.length:=by have:=HN.out;omega
    obtain ⟨bb,o,A',c',eA,hbb,hcell,hcall⟩:=HREC.out k hkl
    subst eA
    have hlz:∀v,R l[k]=v→v≠0→Hid (E=v):=fun v hv h0=>by
     rw [Hid,HE.out,ffsE_at (k:=k) (by simpa using hkl) (fun j hj hjk=>by rw [List.getElem_map];exact hz.out j (by simpa using hj) hjk) (by rw [List.getElem_map,hv];exact h0),List.getElem_map,hv]
    have hlk:R l[k]=0→Hid (∀j (hj:j<l.length),j<k+1→R l[j]=0):=fun h0 j hj hjk=>by
     by_cases e:j=k
     · subst e;exact h0
     · exact hz.out j hj (by omega)
    obtain ⟨x,hx⟩:∃x,l[k]=x:=⟨_,rfl⟩
    rw [hx] at hcell hcall hlz hlk
    obtain ⟨r,hr⟩:∃r,R x=r:=⟨_,rfl⟩
    dsimp only at hcall
    rw [hr] at hcall hlz hlk
    have HLZ:=zH (hlz r rfl)
    have HLK:=zH hlk
    obtain ⟨xh,xl⟩:=x
    obtain ⟨h0,h1,h2,h3,h4⟩:=xh
    have hWw:Below w.heap.size w wr:=HB2.out.trans (hbr.out.mono (by have:=HB2.out.size;omega))
    have hc:∀j v,#[Value.int .i64 h0,.int .i64 h1,.int .i64 h2,.int .i64 h3,.int .i64 h4,.slice A' xl.length c'][j]?=some v→wr.cell? ⟨bb,o+k*6+j,none⟩=some v:=hcell wr hWw
    have z0:wr.cell? ⟨bb,o+k*6,none⟩=some (.int .i64 h0):=hc 0 _ rfl
    have z1:wr.cell? ⟨bb,o+k*6+1,none⟩=some (.int .i64 h1):=hc 1 _ rfl
    have z2:wr.cell? ⟨bb,o+k*6+2,none⟩=some (.int .i64 h2):=hc 2 _ rfl
    have z3:wr.cell? ⟨bb,o+k*6+3,none⟩=some (.int .i64 h3):=hc 3 _ rfl
    have z4:wr.cell? ⟨bb,o+k*6+4,none⟩=some (.int .i64 h4):=hc 4 _ rfl
    have z5:wr.cell? ⟨bb,o+k*6+5,none⟩=some (.slice A' xl.length c'):=hc 5 _ rfl
    have hk0:(0:Int)≤(k:Int):=by omega
    have hk1:(k:Int)<(n:Int):=by omega
    have hbw:bb<wr.heap.size:=by have:=hbr.out.size;have:=HB2.out.size;omega
    have HC:=zH (hcall wr hWw)
    have HHR:=zH hbr.out
    simp only [Fm.vs,Fm.args,Fm.h] at HC
    clear hcell hcall hx hr hc hbr hWw hlz hlk hz
    go_wp2_with fail
    refine HC.out.mono ?_
    rintro e w3 ⟨rfl,hb3⟩
    have HB3:=zH (HHR.out.trans (hb3.mono HHR.out.size))
    clear hb3 HC z0 z1 z2 z3 z4 z5 p5 HHR
    by_cases he:r=0
    case neg=>
     have hz:(r != 0)=true:=by simpa using he
     have hEE:=HLZ.out he
     have hBF:=zH (HB2.out.trans (HB3.out.mono HB2.out.size))
     clear HE HREC HLZ HLK
     go_wp2_with fail
     go_ret
     rw [hEE.out]
     exact ⟨rfl,hBF.out⟩
    subst he
    have HZ:=HLK.out rfl
    clear HLZ HLK
    go_wp2_with fail
    go_roundw
    case rel=>exact ⟨k+1,by omega,by go_num,HZ,HB3⟩
    case measure=>simp [intOf];omega
  · obtain rfl:k=n:=by omega
    have hEE:Hid (E=0):=by
     rw [Hid,HE.out]
     refine Xt fun e he=>?_
     obtain ⟨x,hx,rfl⟩:=List.mem_map.1 he
     obtain ⟨j,hj,rfl⟩:=List.getElem_of_mem hx
     exact hz.out j hj (by have:=HN.out;omega)
    have hBF:=zH (HB2.out.trans (hbr.out.mono (by have:=HB2.out.size;omega)))
    clear HE HREC hz hbr
    go_wp2_with fail
    go_ret
    rw [hEE.out]
    exact ⟨rfl,hBF.out⟩
theorem gI (n:Nat) (hn1:1≤n) (hn:n≤5):∀(d:Nat) (f:Fm) (A:Option Addr) (c:Nat) (w:World),FsAt w w.heap.size d A f.args→(yx d f).1≤1000000 →
  Calls Tryz.prog 97 #[.agg (f.vs A c),.int .i64 (n:Int)] w fun e w'=>e=.returned (.int .i64 (jH n d f))∧Below w.heap.size w w'
 | 0,f,A,c,w,hA,hb=>by
  have h0:f.args=[]:=hA
  exact gG n hn1 hn f (fun _=>0) A c w (by rw [h0];decide) (RecAt.none hA)
 | d+1,f,A,c,w,hA,hb=>by
  have h1:(yi (yx d) f.args).1≤1000000:=hb
  have h3:=vn (yx d) (jL d) f.args
  refine gG n hn1 hn f (jH n d) A c w (by omega) (RecAt.of hA fun x A' c' X hx hX=>gI n hn1 hn d x A' c' X hX ?_)
  exact Nat.le_trans (uC (yx d) hx) h1
set_option maxRecDepth 100000 in
theorem YS (n:Int) (d:Nat) (f:Fm) (A:Option Addr) (c:Nat) (w:World) (hA:FsAt w w.heap.size d A f.args) (hb:(yx d f).1≤1000000) :
  Calls Tryz.prog 69 #[.agg (f.vs A c),.int .i64 n] w fun e w'=>e=.returned (.int .i64 (kO n d f))∧Below w.heap.size w w':=by
 obtain ⟨w1,hw1,d0,hs1,hB⟩:=zm w (f.vs A c) 41
 have HSZ:=zH (ZN d f A c w1 ((hA.keep hB).more hB.size) hb)
 have HND:=zH (fun (N:Nat) (h1:1≤N) (h5:N≤5) (X:World) (hX:Below w1.heap.size w1 X)=>gI N h1 h5 d f A c X ((((hA.keep hB).more hB.size).keep hX).more hX.size) hb)
 obtain ⟨E,hE⟩:∃E,kO n d f=E:=⟨_,rfl⟩
 have HE:Hid (E=if n<1∨5<n then 2 else if jl (yx d f)≠0 then jl (yx d f) else jH n.toNat d f):=hE.symm
 rw [hE]
 have hdp:=vp d f
 obtain ⟨⟨a,b⟩,hab⟩:∃x,yx d f=x:=⟨_,rfl⟩
 rw [hab] at HSZ HE hb hdp
 dsimp only at HSZ hb hdp
 unfold Fm.vs at hw1 d0 HSZ HND ⊢
 have HW1:=zH hw1
 have HB:=zH hB
 have HD0:=zH d0
 have p0:=zh (d0) 0 rfl
 have p1:=zh (d0) 1 rfl
 have p2:=zh (d0) 2 rfl
 have p3:=zh (d0) 3 rfl
 have p4:=zh (d0) 4 rfl
 have p5:=zh (d0) 5 rfl
 clear hw1 d0 hB hA hE hab
 go_enter Tryz.func69,Tryz.ntmps69
 go_wp2_with fail
 rw [HW1.out]
 go_wp2_with fail
 refine (zE _ _ _ _).mono ?_
 rintro e w2 ⟨rfl,hw2⟩
 obtain rfl:=hw2
 by_cases hr:1≤n∧n≤5
 case neg=>
  have e0:decide (1≤n∧n≤5)=false:=decide_eq_false hr
  have hEE:Hid (E=2):=HE.out.trans (if_pos (by omega))
  clear HE HSZ HND
  go_wp2_with fail
  go_ret
  rw [hEE.out]
  exact ⟨rfl,HB.out⟩
 have e0:decide (1≤n∧n≤5)=true:=decide_eq_true hr
 have HE:Hid (E=_):=HE.out.trans (if_neg (by omega))
 obtain ⟨N,rfl⟩:=Int.eq_ofNat_of_zero_le (show 0≤n by omega)
 rw [Int.toNat_natCast] at HE
 have HNR:=zH hr
 go_wp2_with fail
 refine HSZ.out.mono ?_
 rintro e w3 ⟨rfl,hb3⟩
 have G3:=zH hb3
 clear hb3 HSZ HW1 p0 p1 p2 p3 p4 p5 e0 hr
 go_wp2_with fail
 refine (rbig_any a b _).mono ?_
 rintro e w4 ⟨rfl,hw4⟩
 obtain rfl:=hw4
 obtain ⟨q,hq⟩:∃q,jl (a,b)=q:=⟨_,rfl⟩
 rw [hq] at HE ⊢
 clear hq
 by_cases he:q=0
 case neg=>
  have hz:(q != 0)=true:=by simpa using he
  have hEE:Hid (E=q):=HE.out.trans (if_pos he)
  have hBF:=zH (HB.out.trans (G3.out.mono HB.out.size))
  clear HE HND
  go_wp2_with fail
  go_ret
  rw [hEE.out]
  exact ⟨rfl,hBF.out⟩
 subst he
 have HE:Hid (E=_):=HE.out.trans (if_neg (by simp))
 have HC:=zH (HND.out N (by have:=HNR.out;omega) (by have:=HNR.out;omega) w4 G3.out)
 have d4:=(G3.out.block _ (zj HD0.out)).trans HD0.out
 have p0:=zh (d4) 0 rfl
 have p1:=zh (d4) 1 rfl
 have p2:=zh (d4) 2 rfl
 have p3:=zh (d4) 3 rfl
 have p4:=zh (d4) 4 rfl
 have p5:=zh (d4) 5 rfl
 clear d4 HND
 go_wp2_with fail
 refine HC.out.mono ?_
 rintro e w5 ⟨rfl,hb5⟩
 have hBF:=zH (HB.out.trans ((G3.out.trans (hb5.mono G3.out.size)).mono HB.out.size))
 clear hb5 HC p0 p1 p2 p3 p4 p5
 go_wp2_with fail
 go_ret
 rw [HE.out]
 exact ⟨rfl,hBF.out⟩
set_option maxRecDepth 100000 in
theorem QM (d:Nat) (f:Fm) (A:Option Addr) (c:Nat) (w:World) (hA:FsAt w w.heap.size d A f.args) :
  Calls Tryz.prog 8 #[.agg (f.vs A c)] w fun e w'=>e=.returned (.bool (decide ((yx d f).1<140)))∧Below w.heap.size w w':=by
 obtain ⟨w1,hw1,d0,hs1,hB⟩:=zm w (f.vs A c) 41
 have HSZ:=zH (gL d f 140 (by omega) (by omega) A c w1 ((hA.keep hB).more hB.size))
 have hdd:decide (((min (yx d f).1 140:Nat):Int)<140)=decide ((yx d f).1<140):=decide_eq_decide.2 (by omega)
 have HDD:=zH hdd
 obtain ⟨r,hr⟩:∃r,min (yx d f).1 140=r:=⟨_,rfl⟩
 rw [hr] at HSZ HDD
 unfold Fm.vs at hw1 d0 HSZ ⊢
 have HW1:=zH hw1
 have HB:=zH hB
 have p0:=zh (d0) 0 rfl
 have p1:=zh (d0) 1 rfl
 have p2:=zh (d0) 2 rfl
 have p3:=zh (d0) 3 rfl
 have p4:=zh (d0) 4 rfl
 have p5:=zh (d0) 5 rfl
 clear hw1 d0 hB hA hr hdd
 go_enter Tryz.func8,Tryz.ntmps8
 go_wp2_with fail
 rw [HW1.out]
 go_wp2_with fail
 refine HSZ.out.mono ?_
 rintro e w3 ⟨rfl,hb3⟩
 have hBF:=zH (HB.out.trans (hb3.mono HB.out.size))
 clear hb3 HSZ p0 p1 p2 p3 p4 p5
 go_wp2_with fail
 go_ret
 rw [←HDD.out]
 exact ⟨rfl,hBF.out⟩
end
section
open Go.RowKit Go.Shelf
attribute [local go_sem] Oper.semAt_some
theorem atmL_at (s:Sy) (out:List Int) (h:Fh) (i:Nat) (hl:i<(qr s out h).length):(qr s out h)[i]=xv s out h (i / (s.p.k.toNat+1),i % (s.p.k.toNat+1)):=by
 have h2:i<(zt (s.p.k.toNat+1) 0 s.xs.length).length:=by have:=hl;unfold qr at this;simpa using this
 have:(qr s out h)[i]=xv s out h ((zt (s.p.k.toNat+1) 0 s.xs.length)[i]):=by unfold qr;exact List.getElem_map ..
 rw [this,XR _ _ (by omega)]
def RetBo (xs:List Bool) (w:World) (e:Ending) (w':World):Prop:=∃A c,e=.returned (.slice A xs.length c)∧BAt w' w'.heap.size A xs∧Below w.heap.size w w'
theorem ownBl_bat {w:World} {base:Nat} {A:Option Addr} {n c:Nat} {bs:List Bool} (h:OwnR kBl w base (.slice A n c) n (bs.map Value.bool)):BAt w w.heap.size A bs:=fun h0=>by
 obtain ⟨A',c',e',_,_,h3⟩:=h.form
 simp only [Value.slice.injEq] at e'
 obtain ⟨rfl,-,-⟩:=e'
 have hn:0<n:=by
  have h1:=h.1
  rw [List.length_map] at h1
  rcases Nat.eq_zero_or_pos n with e | e
  · rw [e,Nat.zero_mul] at h1;omega
  · exact e
 obtain ⟨gg,rfl,_,hgl,hcl⟩:=h3 hn
 refine ⟨gg,0,rfl,hgl,fun i hi=>?_⟩
 rw [Nat.zero_add]
 exact hcl i _ (by rw [List.getElem?_map,List.getElem?_eq_getElem hi];rfl)
set_option maxRecDepth 100000 in
theorem ratoms_any (s:Sy) (K N:Nat) (out:List Int) (f:Fm) (hW:AtrW s K N out f.h) (A SV AV AX AR AF:Option Addr) (kc ks kv kx cr cf:Nat) (w:World) (hS:SyAt w w.heap.size A SV AV AX s) (hO:IAt w w.heap.size AR out) :
  Calls Tryz.prog 43 #[.agg (s.vs_ A kc SV ks AV kv AX kx),.agg #[.slice AR out.length cr],.agg (f.vs AF cf)] w (RetBo (qr s out f.h) w):=by
 obtain ⟨wa,hwa,da,hsa,hBa⟩:=zm w (s.vs_ A kc SV ks AV kv AX kx) 35
 obtain ⟨wb,hwb,db,hsb,hBb⟩:=zm wa #[.slice AR out.length cr] 38
 obtain ⟨w1,hw1,dc,hsc,hBc⟩:=zm wb (f.vs AF cf) 41
 have hB:Below w.heap.size w w1:=(hBa.trans (hBb.mono (by omega))).trans (hBc.mono (by omega))
 have da:w1.heap[w.heap.size]?=some (.cells (s.vs_ A kc SV ks AV kv AX kx) 35 (0,0)):=(hBc.block _ (by omega)).trans ((hBb.block _ (by omega)).trans da)
 have db:w1.heap[w.heap.size+1]?=some (.cells #[.slice AR out.length cr] 38 (0,0)):=by rw [←hsa];exact (hBc.block _ (by omega)).trans db
 have dc:w1.heap[w.heap.size+1+1]?=some (.cells (f.vs AF cf) 41 (0,0)):=by rw [←hsa,←hsb];exact dc
 have hz1:w1.heap.size=w.heap.size+3:=by omega
 have HSZ:=zH (fun (X:World)=>rsize_any s K N hW.fine A SV AV AX kc ks kv kx X)
 have HTR:=zH (fun (i:Nat) (hi:i<ptn s) (X:World) (hX:Below w1.heap.size w1 X)=>rtrue_any s K N out f hW i hi A SV AV AX AR AF kc ks kv kx cr cf X ((hS.up hB).up hX) ((((hO.keep hB).more hB.size).keep hX).more hX.size))
 have hk:=hW.fine.k
 have hpn:ptn s≤700:=by
  have hk6:=hW.fine.k6
  have:=Nat.mul_le_mul hW.fine.lx (show s.p.k.toNat+1≤7 by omega)
  unfold ptn;omega
 have hL:(qr s out f.h).length=ptn s:=YH s out f.h
 have HAT:Hid (∀i (h:i<(qr s out f.h).length),(qr s out f.h)[i]=xv s out f.h (i / (K+1),i % (K+1))):=fun i h=>by rw [atmL_at,hk,Int.toNat_natCast]
 obtain ⟨L,hLL⟩:∃L,qr s out f.h=L:=⟨_,rfl⟩
 obtain ⟨n,hn⟩:∃n,ptn s=n:=⟨_,rfl⟩
 rw [hn] at HSZ HTR hpn hL
 rw [hLL] at hL HAT ⊢
 unfold RetBo
 rw [hL]
 have HLN:=zH hL
 unfold Sy.vs_ at hwa da HSZ HTR ⊢
 unfold Fm.vs at hw1 dc HTR ⊢
 have HW1:Hid (((w.alloc (.cells #[.int .i64 s.p.t.n,.int .i64 s.p.t.ins,.int .i64 s.p.t.outs,.slice A s.p.t.cases.length kc,.int .i64 s.p.a.n,.slice SV s.p.a.sts.length ks,.int .i64 s.p.k,.int .i64 s.n,.slice AV s.vs.length kv,.slice AX s.xs.length kx] 35)).alloc (.cells #[.slice AR out.length cr] 38)).alloc (.cells #[.int .i64 f.h.op,.int .i64 f.h.p,.int .i64 f.h.o,.int .i64 f.h.v,.int .i64 f.h.g,.slice AF f.args.length cf] 41)=w1):=by rw [Hid,hwa,hwb,hw1]
 have HB:=zH hB
 have HBX:Hid (∀X,Below w1.heap.size w1 X→X.heap[w.heap.size]?=some (.cells #[.int .i64 s.p.t.n,.int .i64 s.p.t.ins,.int .i64 s.p.t.outs,.slice A s.p.t.cases.length kc,.int .i64 s.p.a.n,.slice SV s.p.a.sts.length ks,.int .i64 s.p.k,.int .i64 s.n,.slice AV s.vs.length kv,.slice AX s.xs.length kx] 35 (0,0))∧X.heap[w.heap.size+1]?=some (.cells #[.slice AR out.length cr] 38 (0,0))∧X.heap[w.heap.size+1+1]?=some (.cells #[.int .i64 f.h.op,.int .i64 f.h.p,.int .i64 f.h.o,.int .i64 f.h.v,.int .i64 f.h.g,.slice AF f.args.length cf] 41 (0,0))):=
  fun X hX=>⟨(hX.block _ (by omega)).trans da,(hX.block _ (by omega)).trans db,(hX.block _ (by omega)).trans dc⟩
 obtain ⟨p0,p1,p2,p3,p4,p5,p6,p7,p8,p9⟩:=zA ((HBX.out _ (Below.refl _ w1)).1)
 have r0:=zh (HBX.out _ (Below.refl _ w1)).2.1 0 rfl
 have f0:=zh ((HBX.out _ (Below.refl _ w1)).2.2) 0 rfl
 have f1:=zh ((HBX.out _ (Below.refl _ w1)).2.2) 1 rfl
 have f2:=zh ((HBX.out _ (Below.refl _ w1)).2.2) 2 rfl
 have f3:=zh ((HBX.out _ (Below.refl _ w1)).2.2) 3 rfl
 have f4:=zh ((HBX.out _ (Below.refl _ w1)).2.2) 4 rfl
 have f5:=zh ((HBX.out _ (Below.refl _ w1)).2.2) 5 rfl
 clear hwa hwb hw1 da db dc hsa hsb hsc hBa hBb hBc hB hS hO hW hk hLL hn hL hz1
 go_enter Tryz.func43,Tryz.ntmps43
 go_wp2_with fail
 rw [HW1.out]
 go_wp2_with fail
 go_loopw [7,8] (fun o i wr=>∃k:Nat,k≤n∧i=.int .i64 (k:Int)∧∃P c,o=.slice P k c∧Hid (OwnR kBl wr w1.heap.size (.slice P k c) k ((L.take k).map .bool))∧Hid (Below w1.heap.size w1 wr)) (fun _ i _=>n-(intOf i).toNat)
 case atStart=>exact ⟨0,by omega,rfl,none,0,rfl,OwnR.nil _ _ _,Below.refl _ _⟩
 case round=>
  obtain ⟨k,hk,rfl,P,c,rfl,HO,hb⟩:=hrel
  clear p0 p1 p2 p3 p4 p5 p6 p7 p8 p9 r0 f0 f1 f2 f3 f4 f5 HW1
  obtain ⟨p0,p1,p2,p3,p4,p5,p6,p7,p8,p9⟩:=zA ((HBX.out _ hb.out).1)
  have r0:=zh (HBX.out _ hb.out).2.1 0 rfl
  have f0:=zh ((HBX.out _ hb.out).2.2) 0 rfl
  have f1:=zh ((HBX.out _ hb.out).2.2) 1 rfl
  have f2:=zh ((HBX.out _ hb.out).2.2) 2 rfl
  have f3:=zh ((HBX.out _ hb.out).2.2) 3 rfl
  have f4:=zh ((HBX.out _ hb.out).2.2) 4 rfl
  have f5:=zh ((HBX.out _ hb.out).2.2) 5 rfl
  go_wp2_with fail
  refine (HSZ.out wr).mono ?_
  rintro e w2 ⟨rfl,hb2⟩
  have hsz:=hb.out.size
  have HB2:=zH (hb.out.trans (hb2.mono hsz))
  have HO2:=zH (HO.out.below hb2 (Nat.le_refl _))
  clear p0 p1 p2 p3 p4 p5 p6 p7 p8 p9 r0 f0 f1 f2 f3 f4 f5 hb2 HO
  obtain ⟨p0,p1,p2,p3,p4,p5,p6,p7,p8,p9⟩:=zA ((HBX.out _ HB2.out).1)
  have r0:=zh (HBX.out _ HB2.out).2.1 0 rfl
  have f0:=zh ((HBX.out _ HB2.out).2.2) 0 rfl
  have f1:=zh ((HBX.out _ HB2.out).2.2) 1 rfl
  have f2:=zh ((HBX.out _ HB2.out).2.2) 2 rfl
  have f3:=zh ((HBX.out _ HB2.out).2.2) 3 rfl
  have f4:=zh ((HBX.out _ HB2.out).2.2) 4 rfl
  have f5:=zh ((HBX.out _ HB2.out).2.2) 5 rfl
  by_cases hlt:k<n
  · have hkn:(k:Int)<(n:Int):=by omega
    have HC:=zH (HTR.out k hlt w2 HB2.out)
    have hkL:k<L.length:=by rw [HLN.out];exact hlt
    rw [←HAT.out k hkL] at HC
    have htk:L.take (k+1)=L.take k++[L[k]'hkL]:=List.take_succ_eq_append_getElem hkL
    obtain ⟨u,hu⟩:∃u,L[k]'hkL=u:=⟨_,rfl⟩
    rw [hu] at HC htk
    have HTK:=zH htk
    have hwk:IntKind.i64.wrap ((k:Int)+1)=((k+1:Nat):Int):=by rw [IntKind.wrap_i64];omega
    clear htk hu
    go_wp2_with fail
    refine HC.out.mono ?_
    rintro e w3 ⟨rfl,hb3⟩
    have hsz2:=HB2.out.size
    have HB3:=zH (HB2.out.trans (hb3.mono hsz2))
    have HO3:=zH (HO2.out.below hb3 (Nat.le_refl _))
    have hsz3:=HB3.out.size
    clear hb3 HC p0 p1 p2 p3 p4 p5 p6 p7 p8 p9 r0 f0 f1 f2 f3 f4 f5 HO2 HB2
    obtain ⟨W4,hW4,d4,hs4,hb4⟩:=zm w3 #[.bool u] 4
    have HB4:=zH (HB3.out.trans (hb4.mono hsz3))
    have HO4:=zH (HO3.out.below hb4 (Nat.le_refl _))
    have HW4:=zH hW4
    have hsz4:=HB4.out.size
    clear hW4 hb4 HO3
    go_wp2_with (at_builtin; go_must (rw [HW4.out]; refine yC kBl_ok rfl _ _ (by rfl) w1.heap.size (.slice P k c) k ((L.take k).map .bool) (by rfl) HO4.out w3.heap.size #[.bool u] (by rfl) d4 rfl (by simp [Value.oneCell']) (by omega) hsz4 _ rfl ?_); intro g' cap' w5 hr5 hg5 hat5 hlt5
                 have HR5:=zH hr5
                 have HB5:=zH (HB4.out.grown hg5 hsz4 (fun k e=>(HO4.out.lt k e).1))
                 clear hr5 hg5 hat5 hlt5)
    have HR6:Hid (OwnR kBl w5 w1.heap.size (.slice (some ⟨g',0,none⟩) (k+1) cap') (k+1) ((L.take (k+1)).map .bool)):=by rw [HTK.out,List.map_append];exact HR5.out
    clear HR5 HTK HO4
    go_roundw
    case rel=>exact ⟨k+1,by omega,by go_num,_,_,rfl,HR6,HB5⟩
    case measure=>simp [intOf];omega
  · obtain rfl:k=n:=by omega
    have hkn:¬(k:Int)<(k:Int):=by omega
    have hO9:=HO2.out
    rw [List.take_of_length_le (by rw [HLN.out];exact Nat.le_refl _)] at hO9
    have HF:=zH (ownBl_bat hO9)
    have HBF:=zH (HB.out.trans (HB2.out.mono HB.out.size))
    clear hO9 HO2 HB2
    go_wp2_with fail
    go_ret
    exact ⟨P,c,rfl,HF.out,HBF.out⟩
def Qc (s:Sy) (out:List Int) (d:Nat) (f:Fm):Int:=if yn s≠0 then yn s else if 0<out.length∧out.length≠s.vs.length then 15 else kO s.n d f
set_option maxRecDepth 100000 in
theorem XM (s:Sy) (hs:LowS s) (hf:xY s.p) (out:List Int) (d:Nat) (f:Fm) (hsz:(yx d f).1≤1000000) (A SV AV AX AR AF:Option Addr) (kc ks kv kx cr cf:Nat) (w:World) (hS:SyAt w w.heap.size A SV AV AX s) (hA:FsAt w w.heap.size d AF f.args) :
  Calls Tryz.prog 42 #[.agg (s.vs_ A kc SV ks AV kv AX kx),.agg #[.slice AR out.length cr],.agg (f.vs AF cf)] w fun e w'=>e=.returned (.int .i64 (Qc s out d f))∧Below w.heap.size w w':=by
 obtain ⟨wa,hwa,da,hsa,hBa⟩:=zm w (s.vs_ A kc SV ks AV kv AX kx) 35
 obtain ⟨wb,hwb,db,hsb,hBb⟩:=zm wa #[.slice AR out.length cr] 38
 obtain ⟨w1,hw1,dc,hsc,hBc⟩:=zm wb (f.vs AF cf) 41
 have hB:Below w.heap.size w w1:=(hBa.trans (hBb.mono (by omega))).trans (hBc.mono (by omega))
 have da:w1.heap[w.heap.size]?=some (.cells (s.vs_ A kc SV ks AV kv AX kx) 35 (0,0)):=(hBc.block _ (by omega)).trans ((hBb.block _ (by omega)).trans da)
 have db:w1.heap[w.heap.size+1]?=some (.cells #[.slice AR out.length cr] 38 (0,0)):=by rw [←hsa];exact (hBc.block _ (by omega)).trans db
 have dc:w1.heap[w.heap.size+1+1]?=some (.cells (f.vs AF cf) 41 (0,0)):=by rw [←hsa,←hsb];exact dc
 have hz1:w1.heap.size=w.heap.size+3:=by omega
 have HV:=zH (rver_any s hs hf A SV AV AX kc ks kv kx w1 (hS.up hB))
 have HFC:=zH (fun (X:World) (hX:Below w1.heap.size w1 X)=>YS s.n d f AF cf X ((hA.keep (hB.trans (hX.mono hB.size))).more (hB.trans (hX.mono hB.size)).size) hsz)
 obtain ⟨E,hE⟩:∃E,Qc s out d f=E:=⟨_,rfl⟩
 have HE:Hid (E=if yn s≠0 then yn s else if 0<out.length∧out.length≠s.vs.length then 15 else kO s.n d f):=hE.symm
 rw [hE]
 obtain ⟨r,hr⟩:∃r,yn s=r:=⟨_,rfl⟩
 rw [hr] at HV HE
 obtain ⟨q,hq⟩:∃q,kO s.n d f=q:=⟨_,rfl⟩
 rw [hq] at HFC HE
 unfold Sy.vs_ at hwa da HV ⊢
 unfold Fm.vs at hw1 dc HFC ⊢
 have HW1:Hid (((w.alloc (.cells #[.int .i64 s.p.t.n,.int .i64 s.p.t.ins,.int .i64 s.p.t.outs,.slice A s.p.t.cases.length kc,.int .i64 s.p.a.n,.slice SV s.p.a.sts.length ks,.int .i64 s.p.k,.int .i64 s.n,.slice AV s.vs.length kv,.slice AX s.xs.length kx] 35)).alloc (.cells #[.slice AR out.length cr] 38)).alloc (.cells #[.int .i64 f.h.op,.int .i64 f.h.p,.int .i64 f.h.o,.int .i64 f.h.v,.int .i64 f.h.g,.slice AF f.args.length cf] 41)=w1):=by rw [Hid,hwa,hwb,hw1]
 have HB:=zH hB
 have HBX:Hid (∀X,Below w1.heap.size w1 X→X.heap[w.heap.size]?=some (.cells #[.int .i64 s.p.t.n,.int .i64 s.p.t.ins,.int .i64 s.p.t.outs,.slice A s.p.t.cases.length kc,.int .i64 s.p.a.n,.slice SV s.p.a.sts.length ks,.int .i64 s.p.k,.int .i64 s.n,.slice AV s.vs.length kv,.slice AX s.xs.length kx] 35 (0,0))∧X.heap[w.heap.size+1]?=some (.cells #[.slice AR out.length cr] 38 (0,0))∧X.heap[w.heap.size+1+1]?=some (.cells #[.int .i64 f.h.op,.int .i64 f.h.p,.int .i64 f.h.o,.int .i64 f.h.v,.int .i64 f.h.g,.slice AF f.args.length cf] 41 (0,0))):=
  fun X hX=>⟨(hX.block _ (by omega)).trans da,(hX.block _ (by omega)).trans db,(hX.block _ (by omega)).trans dc⟩
 obtain ⟨p0,p1,p2,p3,p4,p5,p6,p7,p8,p9⟩:=zA ((HBX.out _ (Below.refl _ w1)).1)
 have r0:=zh (HBX.out _ (Below.refl _ w1)).2.1 0 rfl
 have f0:=zh ((HBX.out _ (Below.refl _ w1)).2.2) 0 rfl
 have f1:=zh ((HBX.out _ (Below.refl _ w1)).2.2) 1 rfl
 have f2:=zh ((HBX.out _ (Below.refl _ w1)).2.2) 2 rfl
 have f3:=zh ((HBX.out _ (Below.refl _ w1)).2.2) 3 rfl
 have f4:=zh ((HBX.out _ (Below.refl _ w1)).2.2) 4 rfl
 have f5:=zh ((HBX.out _ (Below.refl _ w1)).2.2) 5 rfl
 clear hwa hwb hw1 da db dc hsa hsb hsc hBa hBb hBc hB hS hA hE hr hq hz1 hsz hs hf
 go_enter Tryz.func42,Tryz.ntmps42
 go_wp2_with fail
 rw [HW1.out]
 go_wp2_with fail
 refine HV.out.mono ?_
 rintro e w2 ⟨rfl,hb2⟩
 have G2:=zH hb2
 clear p0 p1 p2 p3 p4 p5 p6 p7 p8 p9 r0 f0 f1 f2 f3 f4 f5 HW1 HV hb2
 by_cases h0:r=0
 case neg=>
  have e0:(r != 0)=true:=by simpa using h0
  have hEE:Hid (E=r):=HE.out.trans (if_pos h0)
  have HBF:=zH (HB.out.trans (G2.out.mono HB.out.size))
  clear HE HFC
  go_wp2_with fail
  go_ret
  rw [hEE.out]
  exact ⟨rfl,HBF.out⟩
 subst h0
 have HE:Hid (E=_):=HE.out.trans (if_neg (by simp))
 obtain ⟨p0,p1,p2,p3,p4,p5,p6,p7,p8,p9⟩:=zA ((HBX.out _ G2.out).1)
 have r0:=zh (HBX.out _ G2.out).2.1 0 rfl
 have f0:=zh ((HBX.out _ G2.out).2.2) 0 rfl
 have f1:=zh ((HBX.out _ G2.out).2.2) 1 rfl
 have f2:=zh ((HBX.out _ G2.out).2.2) 2 rfl
 have f3:=zh ((HBX.out _ G2.out).2.2) 3 rfl
 have f4:=zh ((HBX.out _ G2.out).2.2) 4 rfl
 have f5:=zh ((HBX.out _ G2.out).2.2) 5 rfl
 by_cases hbad:0<out.length∧out.length≠s.vs.length
 case pos=>
  obtain ⟨h1,h2⟩:=hbad
  have e1:decide ((out.length:Int)>0)=true:=decide_eq_true (by omega)
  have e2:((out.length:Int) != (s.vs.length:Int))=true:=by simpa using (by omega:¬(out.length:Int)=(s.vs.length:Int))
  have e3:(0:Int)<(out.length:Int):=by omega
  have hEE:Hid (E=15):=HE.out.trans (if_pos ⟨h1,h2⟩)
  have HBF:=zH (HB.out.trans (G2.out.mono HB.out.size))
  clear HE HFC
  go_wp2_with fail
  go_ret
  rw [hEE.out]
  exact ⟨rfl,HBF.out⟩
 have HEE:Hid (E=q):=HE.out.trans (if_neg hbad)
 have HC:=zH (HFC.out w2 G2.out)
 clear HE HFC
 by_cases h1:0<out.length
 · have e1:decide ((out.length:Int)>0)=true:=decide_eq_true (by omega)
   have e2:((out.length:Int) != (s.vs.length:Int))=false:=by simpa using (by omega:(out.length:Int)=(s.vs.length:Int))
   have e3:(0:Int)<(out.length:Int):=by omega
   clear hbad
   go_wp2_with fail
   refine HC.out.mono ?_
   rintro e w3 ⟨rfl,hb3⟩
   have HBF:=zH (HB.out.trans ((G2.out.trans (hb3.mono G2.out.size)).mono HB.out.size))
   clear hb3 HC p0 p1 p2 p3 p4 p5 p6 p7 p8 p9 r0 f0 f1 f2 f3 f4 f5
   go_wp2_with fail
   go_ret
   rw [HEE.out]
   exact ⟨rfl,HBF.out⟩
 · have e1:decide ((out.length:Int)>0)=false:=decide_eq_false (by omega)
   have e3:¬(0:Int)<(out.length:Int):=by omega
   clear hbad
   go_wp2_with fail
   refine HC.out.mono ?_
   rintro e w3 ⟨rfl,hb3⟩
   have HBF:=zH (HB.out.trans ((G2.out.trans (hb3.mono G2.out.size)).mono HB.out.size))
   clear hb3 HC p0 p1 p2 p3 p4 p5 p6 p7 p8 p9 r0 f0 f1 f2 f3 f4 f5
   go_wp2_with fail
   go_ret
   rw [HEE.out]
   exact ⟨rfl,HBF.out⟩
theorem atrW_of {s:Sy} (hf:xY s.p) {out:List Int} {d:Nat} {f:Fm} (h:Qc s out d f=0) (ha:f.args.length=0):∃K N,AtrW s K N out f.h:=by
 unfold Qc at h
 by_cases h0:yn s≠0
 · rw [if_pos h0] at h;exact absurd h h0
 rw [if_neg h0] at h
 have h0:yn s=0:=by simpa using h0
 by_cases h1:0<out.length∧out.length≠s.vs.length
 · rw [if_pos h1] at h;cases h
 rw [if_neg h1] at h
 obtain ⟨hb0,K,N,hF⟩:=xq hf h0
 have hp0:zV s.p=0:=by
  by_cases hp:zV s.p=0
  · exact hp
  · have hv:=h0
    unfold yn at hv
    rw [yO hp] at hv
    simp [hp] at hv
 have hF2:Fine (zx s.p) K N:=by rw [←hb0];exact hF
 refine ⟨K,N,hF,by rw [hb0];exact jB hF2,by rw [hb0];exact built_wf hp0 hF2,by rw [hb0];exact wZ _,fun c hc=>?_,fun h2=>by omega,atm_ok hF.n h ha⟩
 have h3:=uy (zX hp0).1 c hc
 have h4:=hF.pn
 omega
set_option maxRecDepth 100000 in
theorem ratom_any (s:Sy) (hs:LowS s) (hf:xY s.p) (out:List Int) (d:Nat) (f:Fm) (hsz:(yx d f).1≤1000000) (A SV AV AX AR AF:Option Addr) (kc ks kv kx cr cf:Nat) (w:World) (hS:SyAt w w.heap.size A SV AV AX s) (hO:IAt w w.heap.size AR out) (hA:FsAt w w.heap.size d AF f.args) :
  Calls Tryz.prog 11 #[.agg (s.vs_ A kc SV ks AV kv AX kx),.agg #[.slice AR out.length cr],.agg (f.vs AF cf)] w (YK (jD s out d f).1 (jD s out d f).2 w):=by
 obtain ⟨wa,hwa,da,hsa,hBa⟩:=zm w (s.vs_ A kc SV ks AV kv AX kx) 35
 obtain ⟨wb,hwb,db,hsb,hBb⟩:=zm wa #[.slice AR out.length cr] 38
 obtain ⟨w1,hw1,dc,hsc,hBc⟩:=zm wb (f.vs AF cf) 41
 have hB:Below w.heap.size w w1:=(hBa.trans (hBb.mono (by omega))).trans (hBc.mono (by omega))
 have da:w1.heap[w.heap.size]?=some (.cells (s.vs_ A kc SV ks AV kv AX kx) 35 (0,0)):=(hBc.block _ (by omega)).trans ((hBb.block _ (by omega)).trans da)
 have db:w1.heap[w.heap.size+1]?=some (.cells #[.slice AR out.length cr] 38 (0,0)):=by rw [←hsa];exact (hBc.block _ (by omega)).trans db
 have dc:w1.heap[w.heap.size+1+1]?=some (.cells (f.vs AF cf) 41 (0,0)):=by rw [←hsa,←hsb];exact dc
 have hz1:w1.heap.size=w.heap.size+3:=by omega
 have HGV:=zH (XM s hs hf out d f hsz A SV AV AX AR AF kc ks kv kx cr cf w1 (hS.up hB) ((hA.keep hB).more hB.size))
 have HAT:=zH (fun (h0:Qc s out d f=0) (ha:f.args.length=0) (X:World) (hX:Below w1.heap.size w1 X)=>(by
  obtain ⟨K,N,hW⟩:=atrW_of hf h0 ha
  exact ratoms_any s K N out f hW A SV AV AX AR AF kc ks kv kx cr cf X ((hS.up hB).up hX) ((((hO.keep hB).more hB.size).keep hX).more hX.size):Calls Tryz.prog 43 #[.agg (s.vs_ A kc SV ks AV kv AX kx),.agg #[.slice AR out.length cr],.agg (f.vs AF cf)] X (RetBo (qr s out f.h) X)))
 have HE:Hid (jD s out d f=if Qc s out d f≠0 then ([],Qc s out d f) else if 0<f.args.length then ([],11) else (qr s out f.h,0)):=by
  unfold Hid Qc jD
  by_cases h0:yn s≠0
  · simp [h0]
  · by_cases h1:0<out.length∧out.length≠s.vs.length
    · simp [h0,h1]
    · simp [h0,h1]
 obtain ⟨E,hE⟩:∃E,jD s out d f=E:=⟨_,rfl⟩
 rw [hE] at HE ⊢
 obtain ⟨r,hr⟩:∃r,Qc s out d f=r:=⟨_,rfl⟩
 rw [hr] at HGV HE HAT
 unfold Sy.vs_ at hwa da HGV HAT ⊢
 unfold Fm.vs at hw1 dc HGV HAT ⊢
 unfold YK
 have HW1:Hid (((w.alloc (.cells #[.int .i64 s.p.t.n,.int .i64 s.p.t.ins,.int .i64 s.p.t.outs,.slice A s.p.t.cases.length kc,.int .i64 s.p.a.n,.slice SV s.p.a.sts.length ks,.int .i64 s.p.k,.int .i64 s.n,.slice AV s.vs.length kv,.slice AX s.xs.length kx] 35)).alloc (.cells #[.slice AR out.length cr] 38)).alloc (.cells #[.int .i64 f.h.op,.int .i64 f.h.p,.int .i64 f.h.o,.int .i64 f.h.v,.int .i64 f.h.g,.slice AF f.args.length cf] 41)=w1):=by rw [Hid,hwa,hwb,hw1]
 have HB:=zH hB
 have HBX:Hid (∀X,Below w1.heap.size w1 X→X.heap[w.heap.size]?=some (.cells #[.int .i64 s.p.t.n,.int .i64 s.p.t.ins,.int .i64 s.p.t.outs,.slice A s.p.t.cases.length kc,.int .i64 s.p.a.n,.slice SV s.p.a.sts.length ks,.int .i64 s.p.k,.int .i64 s.n,.slice AV s.vs.length kv,.slice AX s.xs.length kx] 35 (0,0))∧X.heap[w.heap.size+1]?=some (.cells #[.slice AR out.length cr] 38 (0,0))∧X.heap[w.heap.size+1+1]?=some (.cells #[.int .i64 f.h.op,.int .i64 f.h.p,.int .i64 f.h.o,.int .i64 f.h.v,.int .i64 f.h.g,.slice AF f.args.length cf] 41 (0,0))):=
  fun X hX=>⟨(hX.block _ (by omega)).trans da,(hX.block _ (by omega)).trans db,(hX.block _ (by omega)).trans dc⟩
 obtain ⟨p0,p1,p2,p3,p4,p5,p6,p7,p8,p9⟩:=zA ((HBX.out _ (Below.refl _ w1)).1)
 have r0:=zh (HBX.out _ (Below.refl _ w1)).2.1 0 rfl
 have f0:=zh ((HBX.out _ (Below.refl _ w1)).2.2) 0 rfl
 have f1:=zh ((HBX.out _ (Below.refl _ w1)).2.2) 1 rfl
 have f2:=zh ((HBX.out _ (Below.refl _ w1)).2.2) 2 rfl
 have f3:=zh ((HBX.out _ (Below.refl _ w1)).2.2) 3 rfl
 have f4:=zh ((HBX.out _ (Below.refl _ w1)).2.2) 4 rfl
 have f5:=zh ((HBX.out _ (Below.refl _ w1)).2.2) 5 rfl
 clear hwa hwb hw1 da db dc hsa hsb hsc hBa hBb hBc hB hS hO hA hE hr hz1 hsz hs hf
 go_enter Tryz.func11,Tryz.ntmps11
 go_wp2_with fail
 rw [HW1.out]
 go_wp2_with fail
 refine HGV.out.mono ?_
 rintro e w2 ⟨rfl,hb2⟩
 have G2:=zH hb2
 clear p0 p1 p2 p3 p4 p5 p6 p7 p8 p9 r0 f0 f1 f2 f3 f4 f5 HW1 HGV hb2
 by_cases h0:r=0
 case neg=>
  have e0:(r != 0)=true:=by simpa using h0
  have hEE:Hid (E=([],r)):=HE.out.trans (if_pos h0)
  have HBF:=zH (HB.out.trans (G2.out.mono HB.out.size))
  clear HE HAT
  go_wp2_with fail
  go_ret2
  rw [hEE.out]
  exact ⟨none,0,rfl,fun h=>absurd h (by simp),HBF.out⟩
 subst h0
 have HE:Hid (E=_):=HE.out.trans (if_neg (by simp))
 obtain ⟨p0,p1,p2,p3,p4,p5,p6,p7,p8,p9⟩:=zA ((HBX.out _ G2.out).1)
 have r0:=zh (HBX.out _ G2.out).2.1 0 rfl
 have f0:=zh ((HBX.out _ G2.out).2.2) 0 rfl
 have f1:=zh ((HBX.out _ G2.out).2.2) 1 rfl
 have f2:=zh ((HBX.out _ G2.out).2.2) 2 rfl
 have f3:=zh ((HBX.out _ G2.out).2.2) 3 rfl
 have f4:=zh ((HBX.out _ G2.out).2.2) 4 rfl
 have f5:=zh ((HBX.out _ G2.out).2.2) 5 rfl
 by_cases ha:f.args.length=0
 case neg=>
  have e1:decide ((f.args.length:Int)>0)=true:=decide_eq_true (by omega)
  have e3:(0:Int)<(f.args.length:Int):=by omega
  have e4:0<f.args.length:=by omega
  have hEE:Hid (E=([],11)):=HE.out.trans (if_pos e4)
  have HBF:=zH (HB.out.trans (G2.out.mono HB.out.size))
  clear HE HAT
  go_wp2_with fail
  go_ret2
  rw [hEE.out]
  exact ⟨none,0,rfl,fun h=>absurd h (by simp),HBF.out⟩
 have e1:decide ((f.args.length:Int)>0)=false:=decide_eq_false (by omega)
 have e3:¬(0:Int)<(f.args.length:Int):=by omega
 have e4:¬0<f.args.length:=by omega
 have hEE:Hid (E=(qr s out f.h,0)):=HE.out.trans (if_neg e4)
 have HC:=zH (HAT.out rfl ha w2 G2.out)
 have HA0:=zH ha
 clear HE HAT ha
 go_wp2_with fail
 refine HC.out.mono ?_
 rintro e w3 ⟨A3,c3,rfl,hI3,hb3⟩
 have HBF:=zH (HB.out.trans ((G2.out.trans (hb3.mono G2.out.size)).mono HB.out.size))
 have HI3:=zH hI3
 clear hb3 hI3 HC p0 p1 p2 p3 p4 p5 p6 p7 p8 p9 r0 f0 f1 f2 f3 f4 f5
 go_wp2_with fail
 go_ret2
 rw [hEE.out]
 exact ⟨A3,c3,rfl,HI3.out,HBF.out⟩
end
end Go.Proofs.YtiookelkkekbeaaGreat
