import Derived.Test.YtcmplpkmfbhpdaaGreatSpY
import Derived.Test.YtcmplpkmfbhpdaaGreatKnX
namespace Go.Proofs.YtcmplpkmfbhpdaaGreat
open Go Go.RowKit
structure OnQ (s:Sq) (p:Pq):Prop where
 c:(s.2.1-s.1.1)*(p.2-s.1.2)=(s.2.2-s.1.2)*(p.1-s.1.1)
 x:ad9 s.1.1 s.2.1 p.1
 y:ad9 s.1.2 s.2.2 p.2
def crQ (t u:Sq):Rat:=(t.2.1-t.1.1)*(u.2.2-u.1.2)-(t.2.2-t.1.2)*(u.2.1-u.1.1)
theorem aaQ {a b:Rat} (h:a*b=0):a=0\/b=0:=Rat.mul_eq_zero.1 h
theorem ajT (a b:Rat):a<b\/a=b\/b<a:=by grind
theorem adt {a j:Rat} (ha:0<a) (h:0<=a*j):0<=j:=by
 rcases Rat.le_total (a:=0) (b:=j) with z | z
 ·exact z
 ·have p:=Rat.mul_nonneg (Rat.le_of_lt ha) (show 0<=0-j by grind);rcases aaQ (show a*j=0 by grind) with y | y<;>grind
theorem ag5 {a j:Rat} (ha:0<a) (h:a*j<=a):j<=1:=by
 have:=adt ha (j:=1-j) (by grind);grind
theorem OnQ.left (s:Sq):OnQ s s.1:=⟨by grind,ajj _ _,ajj _ _⟩
theorem OnQ.right (s:Sq):OnQ s s.2:=⟨by grind,ahg _ _,ahg _ _⟩
theorem OnQ.point {s:Sq} {p:Pq} (h:OnQ s p) (e:s.1=s.2):p=s.1:=by
 obtain⟨_,hx,hy⟩:=h;rw[<- e] at hx hy;unfold ad9 at hx hy;exact Prod.ext (by grind) (by grind)
theorem OnQ.ext1 {s:Sq} {a b:Pq} (ha:OnQ s a) (hb:OnQ s b) (h1:ab7 a s.1) (h2:ab7 s.1 b):False:=by
 obtain⟨⟨x1,y1⟩,x2,y2⟩:=s;obtain⟨ax,ay⟩:=a;obtain⟨bx,by_⟩:=b;obtain⟨ac,a1,a2⟩:=ha;obtain⟨bc,b1,b2⟩:=hb;unfold ad9 at a1 a2 b1 b2;unfold ab7 at h1 h2;dsimp only at *;rcases ajT x1 x2 with k | k | k
 ·have e:ax=x1:=by grind
  rw[e] at ac;rcases aaQ (show (x2-x1)*(ay-y1)=0 by grind) with z | z<;>grind
 ·grind
 ·have e:bx=x1:=by grind
  rw[e] at bc;rcases aaQ (show (x2-x1)*(by_-y1)=0 by grind) with z | z<;>grind
theorem OnQ.flip {s:Sq} {p:Pq} (h:OnQ s p):OnQ (s.2,s.1) p:=by
 obtain⟨hc,hx,hy⟩:=h;refine⟨?_,?_,?_⟩
 ·dsimp only;grind
 ·unfold ad9 at *;dsimp only;grind
 ·unfold ad9 at *;dsimp only;grind
theorem OnQ.ext2 {s:Sq} {a b:Pq} (ha:OnQ s a) (hb:OnQ s b) (h1:ab7 a s.2) (h2:ab7 s.2 b):False:=OnQ.ext1 (s:=(s.2,s.1)) ha.flip hb.flip h1 h2
theorem axp (s:Sq) (p:Pq):onB s.1.1 s.1.2 s.2.1 s.2.2 p.1 p.2=true↔OnQ s p:=by
 constructor
 ·intro h;have hb:=aj1 h;unfold onB at h;simp only[Bool.and_eq_true,beq_iff_eq] at h;have:=(acn _ _).1 h.2;exact⟨this,hb.1,hb.2⟩
 ·intro h;have hc:abg ((s.2.1-s.1.1)*(p.2-s.1.2)) ((s.2.2-s.1.2)*(p.1-s.1.1))=0:=(acn _ _).2 h.c;unfold onB abY;simp only[Bool.and_eq_true,decide_eq_true_eq,beq_iff_eq];refine⟨?_,hc⟩;have le:∀ u v:Pq,(aaW u.1 u.2 v.1 v.2<=0↔¬ ab7 v u):=λu v=>by
   rw[<- afq u v];unfold abL;omega
  have key:∀ r:Sq,OnQ r p->¬ ab7 r.2 r.1->aaW r.1.1 r.1.2 p.1 p.2<=0/\aaW p.1 p.2 r.2.1 r.2.2<=0:=λr hr hlt=>by
   rw[le,le];rcases aa8 r.1 r.2 with k | k | k
   ·exact⟨λz=>OnQ.ext1 hr (OnQ.right r) z k,λz=>OnQ.ext2 (OnQ.left r) hr k z⟩
   ·have:=hr.point k;rw[this,<- k];exact⟨aaB _,aaB _⟩
   ·exact absurd k hlt
  have hg:=afq s.1 s.2;unfold abL at hg;unfold ac9;by_cases hc:0<aaW s.1.1 s.1.2 s.2.1 s.2.2
  ·simp only[if_pos hc];exact key (s.2,s.1) h.flip λz=>aaB _ (aaT z (hg.1 hc))
  ·simp only[if_neg hc];exact key s h λz=>hc (hg.2 z)
theorem adB (t u:Sq) (p:Pq):p∈acM t u↔OnQ t p/\OnQ u p/\(crQ t u≠0\/p=t.1\/p=t.2\/p=u.1\/p=u.2):=by
 by_cases hC:crQ t u=0
 ·have e:acM t u=amX (aa4 t.1.1 t.1.2 t.2.1 t.2.2 u.1.1 u.1.2 u.2.1 u.2.2):=by
   unfold acM ab9;rw[if_neg (λh=>h hC)]
  have hm:∀ q:Pq,q∈aa4 t.1.1 t.1.2 t.2.1 t.2.2 u.1.1 u.1.2 u.2.1 u.2.2↔(q=t.1\/q=t.2\/q=u.1\/q=u.2)/\OnQ t q/\OnQ u q:=λq=>by
   unfold aa4 adf;rw[List.mem_filter];simp only[on2,Bool.and_eq_true,axp,List.mem_cons,List.not_mem_nil,or_false]
  rw[e];constructor
  ·intro h;have hne:aa4 t.1.1 t.1.2 t.2.1 t.2.2 u.1.1 u.1.2 u.2.1 u.2.2≠[]:=λz=>by rw[z] at h;cases h
   obtain⟨a,b,h1,h2,h3,h4⟩:=adK _ hne;have hp:p∈aa4 t.1.1 t.1.2 t.2.1 t.2.2 u.1.1 u.1.2 u.2.1 u.2.2:=by
    rw[h4] at h;split at h
    ·rw[List.mem_singleton.1 h];exact h1
    ·rcases List.mem_cons.1 h with z | z
     ·rw[z];exact h1
     ·rw[List.mem_singleton.1 z];exact h2
   obtain⟨k1,k2,k3⟩:=(hm p).1 hp;exact⟨k2,k3,.inr k1⟩
  ·rintro⟨h1,h2,h3⟩;have h3:p=t.1\/p=t.2\/p=u.1\/p=u.2:=h3.resolve_left λh=>h hC;have hp:=(hm p).2 ⟨h3,h1,h2⟩;have hne:aa4 t.1.1 t.1.2 t.2.1 t.2.2 u.1.1 u.1.2 u.2.1 u.2.2≠[]:=λz=>by rw[z] at hp;cases hp
   obtain⟨a,b,k1,k2,k3,k4⟩:=adK _ hne;have ha:=((hm a).1 k1).2;have hb:=((hm b).1 k2).2;have hab:p=a\/p=b:=Classical.byContradiction λhn=>by
    rw[not_or] at hn;have l1:ab7 a p:=by
     rcases aa8 a p with z | z | z
     ·exact z
     ·exact absurd z.symm hn.1
     ·exact absurd z (k3 p hp).1
    have l2:ab7 p b:=by
     rcases aa8 p b with z | z | z
     ·exact z
     ·exact absurd z hn.2
     ·exact absurd z (k3 p hp).2
    rcases h3 with rfl | rfl | rfl | rfl
    ·exact OnQ.ext1 ha.1 hb.1 l1 l2
    ·exact OnQ.ext2 ha.1 hb.1 l1 l2
    ·exact OnQ.ext1 ha.2 hb.2 l1 l2
    ·exact OnQ.ext2 ha.2 hb.2 l1 l2
   rw[k4];split
   ·rename_i z;rw[<- z] at hab;simpa using hab
   ·simpa using hab
 ·have hcr:aaJ t.1.1 t.1.2 t.2.1 t.2.2 u.1.1 u.1.2 u.2.1 u.2.2≠0:=hC;unfold acM ab9;rw[if_pos hcr];obtain⟨⟨x1,y1⟩,x2,y2⟩:=t;obtain⟨⟨x3,y3⟩,x4,y4⟩:=u;obtain⟨x,y⟩:=p;dsimp only at *;have hC':aaJ x1 y1 x2 y2 x3 y3 x4 y4=(x2-x1)*(y4-y3)-(y2-y1)*(x4-x3):=rfl;have hI:ab8 x1 y1 x2 y2 x3 y3 x4 y4*aaJ x1 y1 x2 y2 x3 y3 x4 y4=(x3-x1)*(y4-y3)-(y3-y1)*(x4-x3):=by unfold ab8;exact Rat.div_mul_cancel hcr
  have hK:acE x1 y1 x2 y2 x3 y3 x4 y4*aaJ x1 y1 x2 y2 x3 y3 x4 y4=(x3-x1)*(y2-y1)-(y3-y1)*(x2-x1):=by unfold acE;exact Rat.div_mul_cancel hcr
  generalize aaJ x1 y1 x2 y2 x3 y3 x4 y4=C at *;generalize ab8 x1 y1 x2 y2 x3 y3 x4 y4=i at *;generalize acE x1 y1 x2 y2 x3 y3 x4 y4=k at *;have ex:x1+(x2-x1)*i=x3+(x4-x3)*k:=by
   rcases aaQ (show (x1+(x2-x1)*i-(x3+(x4-x3)*k))*C=0 by
    have:(x1+(x2-x1)*i-(x3+(x4-x3)*k))*C=(x1-x3)*C+(x2-x1)*(i*C)-(x4-x3)*(k*C):=by grind
    rw[this,hI,hK,hC'];grind) with z | z
   ·grind
   ·exact absurd z hcr
  have ey:y1+(y2-y1)*i=y3+(y4-y3)*k:=by
   rcases aaQ (show (y1+(y2-y1)*i-(y3+(y4-y3)*k))*C=0 by
    have:(y1+(y2-y1)*i-(y3+(y4-y3)*k))*C=(y1-y3)*C+(y2-y1)*(i*C)-(y4-y3)*(k*C):=by grind
    rw[this,hI,hK,hC'];grind) with z | z
   ·grind
   ·exact absurd z hcr
  constructor
  ·intro h;split at h
   ·cases h
   ·rename_i hr;have e:=List.mem_singleton.1 h;have e1:x=x1+(x2-x1)*i:=congrArg Prod.fst e;have e2:y=y1+(y2-y1)*i:=congrArg Prod.snd e;have i0:0<=i/\i<=1/\0<=k/\k<=1:=by grind
    refine⟨⟨?_,?_,?_⟩,⟨?_,?_,?_⟩,.inl hC⟩
    ·dsimp only;rw[e1,e2];grind
    ·dsimp only;rw[e1];exact acY i0.1 i0.2.1
    ·dsimp only;rw[e2];exact acY i0.1 i0.2.1
    ·dsimp only;rw[e1,e2,ex,ey];grind
    ·dsimp only;rw[e1,ex];exact acY i0.2.2.1 i0.2.2.2
    ·dsimp only;rw[e2,ey];exact acY i0.2.2.1 i0.2.2.2
  ·rintro⟨⟨c1,b1,b2⟩,⟨c2,b3,b4⟩,-⟩;dsimp only at c1 b1 b2 c2 b3 b4;have f1:x=x1+(x2-x1)*i:=by
    rcases aaQ (show (x-(x1+(x2-x1)*i))*C=0 by
     have:(x-(x1+(x2-x1)*i))*C=(x-x1)*C-(x2-x1)*(i*C):=by grind
     rw[this,hI,hC'];grind) with z | z
    ·grind
    ·exact absurd z hcr
   have f2:y=y1+(y2-y1)*i:=by
    rcases aaQ (show (y-(y1+(y2-y1)*i))*C=0 by
     have:(y-(y1+(y2-y1)*i))*C=(y-y1)*C-(y2-y1)*(i*C):=by grind
     rw[this,hI,hC'];grind) with z | z
    ·grind
    ·exact absurd z hcr
   have un:∀ a b j:Rat,ad9 a b (a+(b-a)*j)->a≠b->0<=j/\j<=1:=λa b j h hne=>by
    unfold ad9 at h;rcases ajT a b with z | z | z
    ·have h1:0<=(b-a)*j/\(b-a)*j<=b-a:=by grind
     exact⟨adt (by grind) h1.1,ag5 (by grind) h1.2⟩
    ·exact absurd z hne
    ·have h1:0<=(a-b)*j/\(a-b)*j<=a-b:=by grind
     exact⟨adt (by grind) h1.1,ag5 (by grind) h1.2⟩
   have hi:0<=i/\i<=1:=by
    by_cases z:x1=x2
    ·by_cases z2:y1=y2
     ·exact absurd (show C=0 by grind) hcr
     ·exact un y1 y2 i (by rw[<- f2];exact b2) z2
    ·exact un x1 x2 i (by rw[<- f1];exact b1) z
   have hk:0<=k/\k<=1:=by
    by_cases z:x3=x4
    ·by_cases z2:y3=y4
     ·exact absurd (show C=0 by grind) hcr
     ·exact un y3 y4 k (by rw[<- ey,<- f2];exact b4) z2
    ·exact un x3 x4 k (by rw[<- ex,<- f1];exact b3) z
   rw[if_neg (by grind),f1,f2];exact List.mem_singleton.2 rfl
end Go.Proofs.YtcmplpkmfbhpdaaGreat
namespace Go.Proofs.YtcmplpkmfbhpdaaGreat
open Go Go.RowKit
theorem aoo {l:List Sq} {i:Nat} (h:i<l.length):l.getD i sq0=l[i]:=by simp[List.getD,h]
end Go.Proofs.YtcmplpkmfbhpdaaGreat
namespace Go.Proofs.YtcmplpkmfbhpdaaGreat
open Go Go.RowKit
section
variable {l:List Sq} (hl:l.length<=20000)
include hl
omit hl in
theorem auY {p q:Pq} (h:ab7 p q):p≠q:=λe=>aaB q (by rw[e] at h;exact h)
end
theorem alq {α:Type} [DecidableEq α]:∀ {l m:List α},l.Nodup->(∀ x∈l,x∈m)->l.length<=m.length
 |[],_,_,_=>Nat.zero_le _
 |a::l,m,h,k=>by
  have h1:=List.nodup_cons.1 h;have ha:=k a List.mem_cons_self;have:=alq (l:=l) (m:=m.erase a) h1.2 λx hx=>(List.mem_erase_of_ne (λe=>h1.1 (by rw[<- e];exact hx))).2 (k x (List.mem_cons_of_mem _ hx));rw[List.length_erase_of_mem ha] at this;have:=List.length_pos_of_mem ha;simp only[List.length_cons];omega
theorem ahE {α β:Type} {f:α->List β} {k:Nat} : ∀ (l:List α),(∀ x∈l,(f x).length<=k)->(l.flatMap f).length<=l.length*k
 |[],_=>by simp
 |a::l,h=>by
  have h1:=h a List.mem_cons_self;have h2:=ahE l λx hx=>h x (List.mem_cons_of_mem _ hx);simp only[List.flatMap_cons,List.length_append,List.length_cons,Nat.add_mul,Nat.one_mul];omega
theorem axw {l:List Sq} (h:l.length<=14):(ofP l).length<=20000:=by
 have hl:l.length<=20000:=by omega
 have nd:(ofP l).Nodup:=(anp l).1.imp λ{a b} hab e=>by rw[e] at hab;exact aa0 _ hab
 have len:∀ i,(aju l i).length<=30:=λi=>by
  unfold aju;simp only[List.length_cons];have:=ahE (f:=λk=>if k=i then [] else acM (l.getD i sq0) (l.getD k sq0)) (k:=2) (List.range l.length) λk _=>by
   split
   ·exact Nat.zero_le _
   ·exact ahU _ _
  rw[List.length_range] at this;omega
 have:=alq (m:=(List.range l.length).flatMap λi=>(aju l i).flatMap λp=>(aju l i).map λq=>(p,q)) nd λt ht=>by
  obtain⟨_,i,hi,h1,h2,_⟩:=((anp l).2 t).1 ht;exact List.mem_flatMap.2 ⟨i,List.mem_range.2 hi,List.mem_flatMap.2 ⟨t.1,(ah4 l i _).2 h1,List.mem_map.2 ⟨t.2,(ah4 l i _).2 h2,rfl⟩⟩⟩
 refine Nat.le_trans this ?_;have h2:=ahE (f:=λi=>(aju l i).flatMap λp=>(aju l i).map λq=>(p,q)) (k:=900) (List.range l.length) λi _=>by
  have:=ahE (f:=λp=>(aju l i).map λq=>(p,q)) (k:=30) (aju l i) λp _=>by rw[List.length_map];exact len i
  have:=len i;have:(aju l i).length*30<=30*30:=Nat.mul_le_mul_right _ (len i);omega
 rw[List.length_range] at h2;have:l.length*900<=14*900:=Nat.mul_le_mul_right _ h;omega
end Go.Proofs.YtcmplpkmfbhpdaaGreat
