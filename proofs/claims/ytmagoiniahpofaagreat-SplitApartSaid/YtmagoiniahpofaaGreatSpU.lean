/-
  Points on segments, plain: what two segments have in common; vertices.
-/
import Derived.Test.YtmagoiniahpofaaGreatSpY
import Derived.Test.YtmagoiniahpofaaGreatKnX
namespace Go.Proofs.YtmagoiniahpofaaGreat
open Go Go.RowKit
structure OnQ (s:Sq) (p:Pq):Prop where
 c:(s.2.1-s.1.1)*(p.2-s.1.2)=(s.2.2-s.1.2)*(p.1-s.1.1)
 x:betw s.1.1 s.2.1 p.1
 y:betw s.1.2 s.2.2 p.2
def crQ (t u:Sq):Rat:=(t.2.1-t.1.1)*(u.2.2-u.1.2)-(t.2.2-t.1.2)*(u.2.1-u.1.1)
theorem mul_zero_or {a b:Rat} (h:a*b=0):a=0∨b=0:=Rat.mul_eq_zero.1 h
theorem rat_tri (a b:Rat):a<b∨a=b∨b<a:=by grind
theorem nn_of_mul {a j:Rat} (ha:0<a) (h:0≤a*j):0≤j:=by
 rcases Rat.le_total (a:=0) (b:=j) with z | z
 ·exact z
 ·have p:=Rat.mul_nonneg (Rat.le_of_lt ha) (show 0≤0-j by grind)
  rcases mul_zero_or (show a*j=0 by grind) with y | y<;>grind
theorem le1_of_mul {a j:Rat} (ha:0<a) (h:a*j≤a):j≤1:=by
 have:=nn_of_mul ha (j:=1-j) (by grind)
 grind
theorem OnQ.left (s:Sq):OnQ s s.1:=⟨by grind,betw_left _ _,betw_left _ _⟩
theorem OnQ.right (s:Sq):OnQ s s.2:=⟨by grind,betw_right _ _,betw_right _ _⟩
theorem OnQ.point {s:Sq} {p:Pq} (h:OnQ s p) (e:s.1=s.2):p=s.1:=by
 obtain⟨_,hx,hy⟩:=h
 rw[← e] at hx hy
 unfold betw at hx hy
 exact Prod.ext (by grind) (by grind)
theorem OnQ.ext1 {s:Sq} {a b:Pq} (ha:OnQ s a) (hb:OnQ s b) (h1:ltPq a s.1) (h2:ltPq s.1 b):False:=by
 obtain⟨⟨x1,y1⟩,x2,y2⟩:=s
 obtain⟨ax,ay⟩:=a
 obtain⟨bx,by_⟩:=b
 obtain⟨ac,a1,a2⟩:=ha
 obtain⟨bc,b1,b2⟩:=hb
 unfold betw at a1 a2 b1 b2
 unfold ltPq at h1 h2
 dsimp only at *
 rcases rat_tri x1 x2 with k | k | k
 ·have e:ax=x1:=by grind
  rw[e] at ac
  rcases mul_zero_or (show (x2-x1)*(ay-y1)=0 by grind) with z | z<;>grind
 ·grind
 ·have e:bx=x1:=by grind
  rw[e] at bc
  rcases mul_zero_or (show (x2-x1)*(by_-y1)=0 by grind) with z | z<;>grind
theorem OnQ.flip {s:Sq} {p:Pq} (h:OnQ s p):OnQ (s.2,s.1) p:=by
 obtain⟨hc,hx,hy⟩:=h
 refine⟨?_,?_,?_⟩
 ·dsimp only;grind
 ·unfold betw at *;dsimp only;grind
 ·unfold betw at *;dsimp only;grind
theorem OnQ.ext2 {s:Sq} {a b:Pq} (ha:OnQ s a) (hb:OnQ s b) (h1:ltPq a s.2) (h2:ltPq s.2 b):False:=OnQ.ext1 (s:=(s.2,s.1)) ha.flip hb.flip h1 h2
theorem on_iff (s:Sq) (p:Pq):onB s.1.1 s.1.2 s.2.1 s.2.2 p.1 p.2=true↔OnQ s p:=by
 constructor
 ·intro h
  have hb:=on_betw h
  unfold onB at h
  simp only[Bool.and_eq_true,beq_iff_eq] at h
  have:=(cmpR_e0 _ _).1 h.2
  exact⟨this,hb.1,hb.2⟩
 ·intro h
  have hc:cmpR ((s.2.1-s.1.1)*(p.2-s.1.2)) ((s.2.2-s.1.2)*(p.1-s.1.1))=0:=(cmpR_e0 _ _).2 h.c
  unfold onB withinB
  simp only[Bool.and_eq_true,decide_eq_true_eq,beq_iff_eq]
  refine⟨?_,hc⟩
  have le:∀ u v:Pq,(cmpP2 u.1 u.2 v.1 v.2≤0↔¬ ltPq v u):=fun u v=>by
   rw[← cmpPq_gt u v]
   unfold cmpPq
   omega
  have key:∀ r:Sq,OnQ r p→¬ ltPq r.2 r.1→cmpP2 r.1.1 r.1.2 p.1 p.2≤0∧cmpP2 p.1 p.2 r.2.1 r.2.2≤0:=fun r hr hlt=>by
   rw[le,le]
   rcases ltPq_tri r.1 r.2 with k | k | k
   ·exact⟨fun z=>OnQ.ext1 hr (OnQ.right r) z k,fun z=>OnQ.ext2 (OnQ.left r) hr k z⟩
   ·have:=hr.point k
    rw[this,← k]
    exact⟨ltPq_irrefl _,ltPq_irrefl _⟩
   ·exact absurd k hlt
  have hg:=cmpPq_gt s.1 s.2
  unfold cmpPq at hg
  unfold risP
  by_cases hc:0<cmpP2 s.1.1 s.1.2 s.2.1 s.2.2
  ·simp only[if_pos hc]
   exact key (s.2,s.1) h.flip fun z=>ltPq_irrefl _ (ltPq_trans z (hg.1 hc))
  ·simp only[if_neg hc]
   exact key s h fun z=>hc (hg.2 z)
theorem meet_mem (t u:Sq) (p:Pq):p∈meetQ t u↔OnQ t p∧OnQ u p∧(crQ t u≠0∨p=t.1∨p=t.2∨p=u.1∨p=u.2):=by
 by_cases hC:crQ t u=0
 ·have e:meetQ t u=endM (endsM t.1.1 t.1.2 t.2.1 t.2.2 u.1.1 u.1.2 u.2.1 u.2.2):=by
   unfold meetQ meetP
   rw[if_neg (fun h=>h hC)]
  have hm:∀ q:Pq,q∈endsM t.1.1 t.1.2 t.2.1 t.2.2 u.1.1 u.1.2 u.2.1 u.2.2↔(q=t.1∨q=t.2∨q=u.1∨q=u.2)∧OnQ t q∧OnQ u q:=fun q=>by
   unfold endsM ends4
   rw[List.mem_filter]
   simp only[on2,Bool.and_eq_true,on_iff,List.mem_cons,List.not_mem_nil,or_false]
  rw[e]
  constructor
  ·intro h
   have hne:endsM t.1.1 t.1.2 t.2.1 t.2.2 u.1.1 u.1.2 u.2.1 u.2.2≠[]:=fun z=>by rw[z] at h;cases h
   obtain⟨a,b,h1,h2,h3,h4⟩:=endM_cases _ hne
   have hp:p∈endsM t.1.1 t.1.2 t.2.1 t.2.2 u.1.1 u.1.2 u.2.1 u.2.2:=by
    rw[h4] at h
    split at h
    ·rw[List.mem_singleton.1 h];exact h1
    ·rcases List.mem_cons.1 h with z | z
     ·rw[z];exact h1
     ·rw[List.mem_singleton.1 z];exact h2
   obtain⟨k1,k2,k3⟩:=(hm p).1 hp
   exact⟨k2,k3,.inr k1⟩
  ·rintro⟨h1,h2,h3⟩
   have h3:p=t.1∨p=t.2∨p=u.1∨p=u.2:=h3.resolve_left fun h=>h hC
   have hp:=(hm p).2 ⟨h3,h1,h2⟩
   have hne:endsM t.1.1 t.1.2 t.2.1 t.2.2 u.1.1 u.1.2 u.2.1 u.2.2≠[]:=fun z=>by rw[z] at hp;cases hp
   obtain⟨a,b,k1,k2,k3,k4⟩:=endM_cases _ hne
   have ha:=((hm a).1 k1).2
   have hb:=((hm b).1 k2).2
   have hab:p=a∨p=b:=Classical.byContradiction fun hn=>by
    rw[not_or] at hn
    have l1:ltPq a p:=by
     rcases ltPq_tri a p with z | z | z
     ·exact z
     ·exact absurd z.symm hn.1
     ·exact absurd z (k3 p hp).1
    have l2:ltPq p b:=by
     rcases ltPq_tri p b with z | z | z
     ·exact z
     ·exact absurd z hn.2
     ·exact absurd z (k3 p hp).2
    rcases h3 with rfl | rfl | rfl | rfl
    ·exact OnQ.ext1 ha.1 hb.1 l1 l2
    ·exact OnQ.ext2 ha.1 hb.1 l1 l2
    ·exact OnQ.ext1 ha.2 hb.2 l1 l2
    ·exact OnQ.ext2 ha.2 hb.2 l1 l2
   rw[k4]
   split
   ·rename_i z;rw[← z] at hab;simpa using hab
   ·simpa using hab
 ·have hcr:crossM t.1.1 t.1.2 t.2.1 t.2.2 u.1.1 u.1.2 u.2.1 u.2.2≠0:=hC
  unfold meetQ meetP
  rw[if_pos hcr]
  obtain⟨⟨x1,y1⟩,x2,y2⟩:=t
  obtain⟨⟨x3,y3⟩,x4,y4⟩:=u
  obtain⟨x,y⟩:=p
  dsimp only at *
  have hC':crossM x1 y1 x2 y2 x3 y3 x4 y4=(x2-x1)*(y4-y3)-(y2-y1)*(x4-x3):=rfl
  have hI:partI x1 y1 x2 y2 x3 y3 x4 y4*crossM x1 y1 x2 y2 x3 y3 x4 y4=(x3-x1)*(y4-y3)-(y3-y1)*(x4-x3):=by unfold partI;exact Rat.div_mul_cancel hcr
  have hK:partK x1 y1 x2 y2 x3 y3 x4 y4*crossM x1 y1 x2 y2 x3 y3 x4 y4=(x3-x1)*(y2-y1)-(y3-y1)*(x2-x1):=by unfold partK;exact Rat.div_mul_cancel hcr
  generalize crossM x1 y1 x2 y2 x3 y3 x4 y4=C at *
  generalize partI x1 y1 x2 y2 x3 y3 x4 y4=i at *
  generalize partK x1 y1 x2 y2 x3 y3 x4 y4=k at *
  have ex:x1+(x2-x1)*i=x3+(x4-x3)*k:=by
   rcases mul_zero_or (show (x1+(x2-x1)*i-(x3+(x4-x3)*k))*C=0 by
    have:(x1+(x2-x1)*i-(x3+(x4-x3)*k))*C=(x1-x3)*C+(x2-x1)*(i*C)-(x4-x3)*(k*C):=by grind
    rw[this,hI,hK,hC'];grind) with z | z
   ·grind
   ·exact absurd z hcr
  have ey:y1+(y2-y1)*i=y3+(y4-y3)*k:=by
   rcases mul_zero_or (show (y1+(y2-y1)*i-(y3+(y4-y3)*k))*C=0 by
    have:(y1+(y2-y1)*i-(y3+(y4-y3)*k))*C=(y1-y3)*C+(y2-y1)*(i*C)-(y4-y3)*(k*C):=by grind
    rw[this,hI,hK,hC'];grind) with z | z
   ·grind
   ·exact absurd z hcr
  constructor
  ·intro h
   split at h
   ·cases h
   ·rename_i hr
    have e:=List.mem_singleton.1 h
    have e1:x=x1+(x2-x1)*i:=congrArg Prod.fst e
    have e2:y=y1+(y2-y1)*i:=congrArg Prod.snd e
    have i0:0≤i∧i≤1∧0≤k∧k≤1:=by grind
    refine⟨⟨?_,?_,?_⟩,⟨?_,?_,?_⟩,.inl hC⟩
    ·dsimp only;rw[e1,e2];grind
    ·dsimp only;rw[e1];exact betw_at i0.1 i0.2.1
    ·dsimp only;rw[e2];exact betw_at i0.1 i0.2.1
    ·dsimp only;rw[e1,e2,ex,ey];grind
    ·dsimp only;rw[e1,ex];exact betw_at i0.2.2.1 i0.2.2.2
    ·dsimp only;rw[e2,ey];exact betw_at i0.2.2.1 i0.2.2.2
  ·rintro⟨⟨c1,b1,b2⟩,⟨c2,b3,b4⟩,-⟩
   dsimp only at c1 b1 b2 c2 b3 b4
   have f1:x=x1+(x2-x1)*i:=by
    rcases mul_zero_or (show (x-(x1+(x2-x1)*i))*C=0 by
     have:(x-(x1+(x2-x1)*i))*C=(x-x1)*C-(x2-x1)*(i*C):=by grind
     rw[this,hI,hC'];grind) with z | z
    ·grind
    ·exact absurd z hcr
   have f2:y=y1+(y2-y1)*i:=by
    rcases mul_zero_or (show (y-(y1+(y2-y1)*i))*C=0 by
     have:(y-(y1+(y2-y1)*i))*C=(y-y1)*C-(y2-y1)*(i*C):=by grind
     rw[this,hI,hC'];grind) with z | z
    ·grind
    ·exact absurd z hcr
   have un:∀ a b j:Rat,betw a b (a+(b-a)*j)→a≠b→0≤j∧j≤1:=fun a b j h hne=>by
    unfold betw at h
    rcases rat_tri a b with z | z | z
    ·have h1:0≤(b-a)*j∧(b-a)*j≤b-a:=by grind
     exact⟨nn_of_mul (by grind) h1.1,le1_of_mul (by grind) h1.2⟩
    ·exact absurd z hne
    ·have h1:0≤(a-b)*j∧(a-b)*j≤a-b:=by grind
     exact⟨nn_of_mul (by grind) h1.1,le1_of_mul (by grind) h1.2⟩
   have hi:0≤i∧i≤1:=by
    by_cases z:x1=x2
    ·by_cases z2:y1=y2
     ·exact absurd (show C=0 by grind) hcr
     ·exact un y1 y2 i (by rw[← f2];exact b2) z2
    ·exact un x1 x2 i (by rw[← f1];exact b1) z
   have hk:0≤k∧k≤1:=by
    by_cases z:x3=x4
    ·by_cases z2:y3=y4
     ·exact absurd (show C=0 by grind) hcr
     ·exact un y3 y4 k (by rw[← ey,← f2];exact b4) z2
    ·exact un x3 x4 k (by rw[← ex,← f1];exact b3) z
   rw[if_neg (by grind),f1,f2]
   exact List.mem_singleton.2 rfl
end Go.Proofs.YtmagoiniahpofaaGreat
namespace Go.Proofs.YtmagoiniahpofaaGreat
open Go Go.RowKit
def Vx (l:List Sq) (p:Pq):Prop:=(∃ s,s∈l∧(p=s.1∨p=s.2))∨∃ s t,s∈l∧t∈l∧crQ s t≠0∧OnQ s p∧OnQ t p
theorem getD_at {l:List Sq} {i:Nat} (h:i<l.length):l.getD i sq0=l[i]:=by simp[List.getD,h]
theorem crQ_deg {s t:Sq} (h:s.1=s.2):crQ s t=0:=by
 unfold crQ
 rw[h]
 grind
theorem crQ_sym (s t:Sq):crQ t s= - crQ s t:=by unfold crQ;grind
theorem crQ_trans {s t u:Sq} (h:s.1≠s.2) (h1:crQ s t=0) (h2:crQ s u=0):crQ t u=0:=by
 obtain⟨⟨x1,y1⟩,x2,y2⟩:=s
 obtain⟨⟨x3,y3⟩,x4,y4⟩:=t
 obtain⟨⟨x5,y5⟩,x6,y6⟩:=u
 unfold crQ at *
 dsimp only at *
 have hne:x2-x1≠0∨y2-y1≠0:=by
  by_cases e:x2-x1=0
  ·by_cases e2:y2-y1=0
   ·exact absurd (by rw[show x1=x2 by grind,show y1=y2 by grind]) h
   ·exact .inr e2
  ·exact .inl e
 generalize x2-x1=a at *
 generalize y2-y1=b at *
 generalize x4-x3=c at *
 generalize y4-y3=d at *
 generalize x6-x5=e at *
 generalize y6-y5=f at *
 rcases hne with k | k
 ·rcases mul_zero_or (show a*(c*f-d*e)=0 by
   have:a*(c*f-d*e)=c*(a*f-b*e)-e*(a*d-b*c):=by grind
   rw[this,h1,h2];grind) with z | z
  ·exact absurd z k
  ·exact z
 ·rcases mul_zero_or (show b*(c*f-d*e)=0 by
   have:b*(c*f-d*e)=d*(a*f-b*e)-f*(a*d-b*c):=by grind
   rw[this,h1,h2];grind) with z | z
  ·exact absurd z k
  ·exact z
theorem cut_iff {l:List Sq} {i:Nat} (hi:i<l.length) (p:Pq):CutS l i p↔OnQ (l.getD i sq0) p∧Vx l p:=by
 have hm:l.getD i sq0∈l:=getD_mem hi
 constructor
 ·rintro (h | h | ⟨k,hk,hne,h⟩)
  ·rw[h];exact⟨OnQ.left _,.inl ⟨_,hm,.inl rfl⟩⟩
  ·rw[h];exact⟨OnQ.right _,.inl ⟨_,hm,.inr rfl⟩⟩
  ·obtain⟨h1,h2,h3⟩:=(meet_mem _ _ p).1 h
   refine⟨h1,?_⟩
   rcases h3 with h3 | h3 | h3 | h3 | h3
   ·exact .inr ⟨_,_,hm,getD_mem hk,h3,h1,h2⟩
   ·exact .inl ⟨_,hm,.inl h3⟩
   ·exact .inl ⟨_,hm,.inr h3⟩
   ·exact .inl ⟨_,getD_mem hk,.inl h3⟩
   ·exact .inl ⟨_,getD_mem hk,.inr h3⟩
 ·rintro⟨h1,h2⟩
  have other:∀ s,s∈l→OnQ s p→(crQ (l.getD i sq0) s≠0∨p=s.1∨p=s.2)→CutS l i p:=by
   intro s hs ho hc
   obtain⟨k,hk,rfl⟩:=List.mem_iff_getElem.1 hs
   rw[← getD_at hk] at ho hc
   by_cases e:k=i
   ·subst e
    rcases hc with hc | hc | hc
    ·exact absurd (by unfold crQ;grind) hc
    ·exact .inl hc
    ·exact .inr (.inl hc)
   ·exact .inr (.inr ⟨k,hk,e,(meet_mem _ _ p).2 ⟨h1,ho,by
     rcases hc with hc | hc | hc
     ·exact .inl hc
     ·exact .inr (.inr (.inr (.inl hc)))
     ·exact .inr (.inr (.inr (.inr hc)))⟩⟩)
  rcases h2 with ⟨s,hs,he⟩ | ⟨s,t,hs,ht,hc,os,ot⟩
  ·refine other s hs ?_ (.inr he)
   rcases he with he | he
   ·rw[he];exact OnQ.left _
   ·rw[he];exact OnQ.right _
  ·by_cases hd:(l.getD i sq0).1=(l.getD i sq0).2
   ·exact .inl (h1.point hd)
   ·by_cases c1:crQ (l.getD i sq0) s=0
    ·by_cases c2:crQ (l.getD i sq0) t=0
     ·exact absurd (crQ_trans hd c1 c2) hc
     ·exact other t ht ot (.inl c2)
    ·exact other s hs os (.inl c1)
def PcV (l:List Sq) (t:Sq):Prop:=∃ s,s∈l∧(OnQ s t.1∧Vx l t.1)∧(OnQ s t.2∧Vx l t.2)∧ltPq t.1 t.2∧∀ p,OnQ s p→Vx l p→¬ (ltPq t.1 p∧ltPq p t.2)
theorem isPc_iff (l:List Sq) (t:Sq):IsPc l t↔PcV l t:=by
 constructor
 ·rintro⟨i,hi,h1,h2,h3,h4⟩
  exact⟨_,getD_mem hi,(cut_iff hi _).1 h1,(cut_iff hi _).1 h2,h3,fun p o v=>h4 p ((cut_iff hi p).2 ⟨o,v⟩)⟩
 ·rintro⟨s,hs,h1,h2,h3,h4⟩
  obtain⟨i,hi,rfl⟩:=List.mem_iff_getElem.1 hs
  rw[← getD_at hi] at h1 h2 h4
  exact⟨i,hi,(cut_iff hi _).2 h1,(cut_iff hi _).2 h2,h3,fun p hp=>h4 p ((cut_iff hi p).1 hp).1 ((cut_iff hi p).1 hp).2⟩
theorem of_mem {l:List Sq} (hl:l.length≤20000) (t:Sq):t∈ofP l↔PcV l t:=by
 rw[(ofP_is l).2 t,isPc_iff]
 exact⟨fun h=>h.2,fun h=>⟨hl,h⟩⟩
theorem of_same {l m:List Sq} (hl:l.length≤20000) (hm:m.length≤20000) (h:∀ t,PcV l t↔PcV m t):ofP l=ofP m:=
 sorted_uniq (ofP_is l).1 (ofP_is m).1 fun t=>by rw[of_mem hl,of_mem hm,h]
def Turned (l m:List Sq):Prop:=(∀ s,s∈l→s∈m∨(s.2,s.1)∈m)∧∀ s,s∈m→s∈l∨(s.2,s.1)∈l
theorem crQ_flip (s t:Sq):crQ (s.2,s.1) t= - crQ s t:=by unfold crQ;dsimp only;grind
theorem crQ_flip2 (s t:Sq):crQ s (t.2,t.1)= - crQ s t:=by unfold crQ;dsimp only;grind
theorem turned_has {l m:List Sq} (h:∀ s,s∈l→s∈m∨(s.2,s.1)∈m) {s:Sq} (hs:s∈l):∃ s',s'∈m∧(∀ p,OnQ s p↔OnQ s' p)∧(s'=s∨s'=(s.2,s.1)):=by
 rcases h s hs with h | h
 ·exact⟨s,h,fun _=>Iff.rfl,.inl rfl⟩
 ·exact⟨_,h,fun p=>⟨OnQ.flip,fun k=>OnQ.flip k⟩,.inr rfl⟩
theorem turned_vx {l m:List Sq} (h:∀ s,s∈l→s∈m∨(s.2,s.1)∈m) {p:Pq} (hv:Vx l p):Vx m p:=by
 rcases hv with ⟨s,hs,he⟩ | ⟨s,t,hs,ht,hc,os,ot⟩
 ·obtain⟨s',h1,h2,rfl | rfl⟩:=turned_has h hs
  ·exact .inl ⟨_,h1,he⟩
  ·exact .inl ⟨_,h1,he.symm⟩
 ·obtain⟨s',h1,h2,h3⟩:=turned_has h hs
  obtain⟨t',k1,k2,k3⟩:=turned_has h ht
  refine .inr ⟨s',t',h1,k1,?_,(h2 p).1 os,(k2 p).1 ot⟩
  intro z
  apply hc
  rcases h3 with rfl | rfl<;>rcases k3 with rfl | rfl
  ·exact z
  ·rw[crQ_flip2] at z;grind
  ·rw[crQ_flip] at z;grind
  ·rw[crQ_flip,crQ_flip2] at z;grind
theorem turned_pc {l m:List Sq} (h:Turned l m) {t:Sq} (ht:PcV l t):PcV m t:=by
 obtain⟨s,hs,h1,h2,h3,h4⟩:=ht
 obtain⟨s',k1,k2,_⟩:=turned_has h.1 hs
 exact⟨s',k1,⟨(k2 _).1 h1.1,turned_vx h.1 h1.2⟩,⟨(k2 _).1 h2.1,turned_vx h.1 h2.2⟩,h3,fun p o v=>h4 p ((k2 p).2 o) (turned_vx h.2 v)⟩
theorem of_turned {l m:List Sq} (hl:l.length≤20000) (hm:m.length≤20000) (h:Turned l m):ofP m=ofP l:=
 of_same hm hl fun _=>⟨turned_pc ⟨h.2,h.1⟩,turned_pc h⟩
end Go.Proofs.YtmagoiniahpofaaGreat
namespace Go.Proofs.YtmagoiniahpofaaGreat
open Go Go.RowKit
theorem par2 {a b c d e f:Rat} (h:a≠0∨b≠0) (h1:a*d=b*c) (h2:a*f=b*e):c*f=d*e:=by
 rcases h with k | k
 ·rcases mul_zero_or (show a*(c*f-d*e)=0 by
   have:a*(c*f-d*e)=c*(a*f)-e*(a*d):=by grind
   rw[this,h1,h2];grind) with z | z
  ·exact absurd z k
  ·grind
 ·rcases mul_zero_or (show b*(c*f-d*e)=0 by
   have:b*(c*f-d*e)=(b*c)*f-(b*e)*d:=by grind
   rw[this,← h1,← h2];grind) with z | z
  ·exact absurd z k
  ·grind
theorem way_ne {s:Sq} (h:s.1≠s.2):s.2.1-s.1.1≠0∨s.2.2-s.1.2≠0:=by
 by_cases e:s.2.1-s.1.1=0
 ·by_cases e2:s.2.2-s.1.2=0
  ·exact absurd (Prod.ext (by grind) (by grind)) h
  ·exact .inr e2
 ·exact .inl e
theorem OnQ.ne {s:Sq} {a b:Pq} (ha:OnQ s a) (hb:OnQ s b) (h:a≠b):s.1≠s.2:=fun e=>h ((ha.point e).trans (hb.point e).symm)
theorem betw_tr {a b c d u:Rat} (h1:betw a b c) (h2:betw a b d) (h:betw c d u):betw a b u:=by unfold betw at *;grind
theorem OnQ.sub {s:Sq} {a b q:Pq} (ha:OnQ s a) (hb:OnQ s b) (hq:OnQ (a,b) q):OnQ s q:=by
 by_cases e:a=b
 ·have:=hq.point e
  rw[this]
  exact ha
 ·refine⟨?_,betw_tr ha.x hb.x hq.x,betw_tr ha.y hb.y hq.y⟩
  have h1:=ha.c
  have h2:=hb.c
  have h3:=hq.c
  dsimp only at h3
  have hn:b.1-a.1≠0∨b.2-a.2≠0:=way_ne (s:=(a,b)) e
  have:=par2 (a:=b.1-a.1) (b:=b.2-a.2) (c:=s.2.1-s.1.1) (d:=s.2.2-s.1.2) (e:=q.1-a.1) (f:=q.2-a.2) hn (by grind) (by grind)
  grind
theorem on_par {s:Sq} {a b:Pq} (ha:OnQ s a) (hb:OnQ s b):crQ s (a,b)=0:=by
 have h1:=ha.c
 have h2:=hb.c
 unfold crQ
 dsimp only
 grind
theorem OnQ.lo {t:Sq} {q:Pq} (h:OnQ t q) (hl:ltPq t.1 t.2):¬ ltPq q t.1:=fun z=>OnQ.ext1 h (OnQ.right t) z hl
theorem OnQ.hi {t:Sq} {q:Pq} (h:OnQ t q) (hl:ltPq t.1 t.2):¬ ltPq t.2 q:=fun z=>OnQ.ext2 (OnQ.left t) h hl z
theorem OnQ.between {s:Sq} {a b q:Pq} (ha:OnQ s a) (hb:OnQ s b) (hq:OnQ s q) (h1:¬ ltPq q a) (h2:¬ ltPq b q):OnQ (a,b) q:=by
 by_cases hd:s.1=s.2
 ·have e1:=ha.point hd
  have e2:=hb.point hd
  have e3:=hq.point hd
  rw[e3,e1,e2]
  exact OnQ.left _
 ·have hn:=way_ne hd
  have c1:=ha.c
  have c2:=hb.c
  have c3:=hq.c
  have hc:=par2 (c:=b.1-a.1) (d:=b.2-a.2) (e:=q.1-a.1) (f:=q.2-a.2) hn (by grind) (by grind)
  unfold ltPq at h1 h2
  have hx:a.1≤q.1∧q.1≤b.1:=by grind
  refine⟨hc,.inl hx,?_⟩
  by_cases e:a.1=b.1
  ·exact .inl (by grind)
  ·have d1:(q.2-a.2)*(b.1-a.1)=(b.2-a.2)*(q.1-a.1):=by grind
   have d2:(b.2-q.2)*(b.1-a.1)=(b.2-a.2)*(b.1-q.1):=by grind
   have hp:0<b.1-a.1:=by grind
   rcases Rat.le_total (a:=a.2) (b:=b.2) with k | k
   ·have p1:=Rat.mul_nonneg (show 0≤b.2-a.2 by grind) (show 0≤q.1-a.1 by grind)
    have p2:=Rat.mul_nonneg (show 0≤b.2-a.2 by grind) (show 0≤b.1-q.1 by grind)
    have:=nn_of_mul hp (j:=q.2-a.2) (by grind)
    have:=nn_of_mul hp (j:=b.2-q.2) (by grind)
    exact .inl (by grind)
   ·have p1:=Rat.mul_nonneg (show 0≤a.2-b.2 by grind) (show 0≤q.1-a.1 by grind)
    have p2:=Rat.mul_nonneg (show 0≤a.2-b.2 by grind) (show 0≤b.1-q.1 by grind)
    have:=nn_of_mul hp (j:=a.2-q.2) (by grind)
    have:=nn_of_mul hp (j:=q.2-b.2) (by grind)
    exact .inr (by grind)
section
variable {l:List Sq} (hl:l.length≤20000)
include hl
theorem pc_vx {t:Sq} (ht:t∈ofP l) {q:Pq} (ho:OnQ t q) (hv:Vx l q):q=t.1∨q=t.2:=by
 obtain⟨s,hs,h1,h2,h3,h4⟩:=(of_mem hl t).1 ht
 have hq:OnQ s q:=OnQ.sub h1.1 h2.1 ho
 rcases ltPq_tri t.1 q with k | k | k
 ·rcases ltPq_tri q t.2 with z | z | z
  ·exact absurd ⟨k,z⟩ (h4 q hq hv)
  ·exact .inr z
  ·exact absurd z (ho.hi h3)
 ·exact .inl k.symm
 ·exact absurd k (ho.lo h3)
theorem pc_lt {t:Sq} (ht:t∈ofP l):ltPq t.1 t.2:=by
 obtain⟨s,hs,h1,h2,h3,h4⟩:=(of_mem hl t).1 ht
 exact h3
theorem pc_ends {t:Sq} (ht:t∈ofP l):Vx l t.1∧Vx l t.2:=by
 obtain⟨s,hs,h1,h2,h3,h4⟩:=(of_mem hl t).1 ht
 exact⟨h1.2,h2.2⟩
omit hl in
theorem ltPq_ne {p q:Pq} (h:ltPq p q):p≠q:=fun e=>ltPq_irrefl q (by rw[e] at h;exact h)
theorem pc_meet {t u:Sq} (ht:t∈ofP l) (hu:u∈ofP l) {p:Pq} (hc:crQ t u≠0) (o1:OnQ t p) (o2:OnQ u p):Vx l p:=by
 obtain⟨s,hs,h1,h2,h3,h4⟩:=(of_mem hl t).1 ht
 obtain⟨s',hs',k1,k2,k3,k4⟩:=(of_mem hl u).1 hu
 refine .inr ⟨s,s',hs,hs',fun z=>hc ?_,OnQ.sub h1.1 h2.1 o1,OnQ.sub k1.1 k2.1 o2⟩
 have n1:=OnQ.ne h1.1 h2.1 (ltPq_ne h3)
 have n2:=OnQ.ne k1.1 k2.1 (ltPq_ne k3)
 have e1:crQ s t=0:=on_par h1.1 h2.1
 have e2:crQ s' u=0:=on_par k1.1 k2.1
 have e3:=crQ_trans n1 e1 z
 rw[crQ_sym] at e3
 exact crQ_trans n2 (by grind) e2
theorem vx_pieces {q:Pq} (h:Vx (ofP l) q):Vx l q:=by
 rcases h with ⟨t,ht,he⟩ | ⟨t,u,ht,hu,hc,o1,o2⟩
 ·rcases he with he | he
  ·rw[he];exact (pc_ends hl ht).1
  ·rw[he];exact (pc_ends hl ht).2
 ·exact pc_meet hl ht hu hc o1 o2
theorem pc_again (u:Sq):PcV (ofP l) u↔u∈ofP l:=by
 constructor
 ·rintro⟨t,ht,h1,h2,h3,h4⟩
  have e1:=pc_vx hl ht h1.1 (vx_pieces hl h1.2)
  have e2:=pc_vx hl ht h2.1 (vx_pieces hl h2.2)
  have hlt:=pc_lt hl ht
  have:u=t:=by
   rcases e1 with e1 | e1<;>rcases e2 with e2 | e2
   ·rw[e1,e2] at h3;exact absurd h3 (ltPq_irrefl _)
   ·exact Prod.ext e1 e2
   ·rw[e1,e2] at h3;exact absurd (ltPq_trans h3 hlt) (ltPq_irrefl _)
   ·rw[e1,e2] at h3;exact absurd h3 (ltPq_irrefl _)
  rw[this]
  exact ht
 ·intro hu
  refine⟨u,hu,⟨OnQ.left u,.inl ⟨u,hu,.inl rfl⟩⟩,⟨OnQ.right u,.inl ⟨u,hu,.inr rfl⟩⟩,pc_lt hl hu,fun p o v=> ?_⟩
  rcases pc_vx hl hu o (vx_pieces hl v) with rfl | rfl
  ·exact fun z=>ltPq_irrefl _ z.1
  ·exact fun z=>ltPq_irrefl _ z.2
theorem of_of (h:(ofP l).length≤20000):ofP (ofP l)=ofP l:=
 sorted_uniq (ofP_is _).1 (ofP_is l).1 fun t=>by rw[of_mem h,pc_again hl]
theorem pc_apart {t u:Sq} (ht:t∈ofP l) (hu:u∈ofP l) {p:Pq} (h:p∈meetQ t u):(p=t.1∨p=t.2)∧(p=u.1∨p=u.2):=by
 obtain⟨h1,h2,h3⟩:=(meet_mem t u p).1 h
 have hv:Vx l p:=by
  rcases h3 with h3 | h3 | h3 | h3 | h3
  ·exact pc_meet hl ht hu h3 h1 h2
  ·rw[h3];exact (pc_ends hl ht).1
  ·rw[h3];exact (pc_ends hl ht).2
  ·rw[h3];exact (pc_ends hl hu).1
  ·rw[h3];exact (pc_ends hl hu).2
 exact⟨pc_vx hl ht h1 hv,pc_vx hl hu h2 hv⟩
end
theorem max_of:∀ {c:List Pq},c≠[]→∃ a,a∈c∧∀ v∈c,¬ ltPq a v
 |[p],_=>⟨p,by simp,fun v hv=>by simp at hv;rw[hv];exact ltPq_irrefl _⟩
 |p::q::r,_=>by
  obtain⟨a,h1,h2⟩:=max_of (c:=q::r) (by simp)
  rcases ltPq_tri p a with k | k | k
  ·refine⟨a,List.mem_cons_of_mem _ h1,fun v hv=> ?_⟩
   rcases List.mem_cons.1 hv with rfl | hv
   ·exact fun z=>ltPq_irrefl _ (ltPq_trans z k)
   ·exact h2 v hv
  ·refine⟨a,List.mem_cons_of_mem _ h1,fun v hv=> ?_⟩
   rcases List.mem_cons.1 hv with rfl | hv
   ·rw[k];exact ltPq_irrefl _
   ·exact h2 v hv
  ·refine⟨p,List.mem_cons_self,fun v hv=> ?_⟩
   rcases List.mem_cons.1 hv with rfl | hv
   ·exact ltPq_irrefl _
   ·exact fun z=>h2 v hv (ltPq_trans k z)
theorem min_of:∀ {c:List Pq},c≠[]→∃ a,a∈c∧∀ v∈c,¬ ltPq v a
 |[p],_=>⟨p,by simp,fun v hv=>by simp at hv;rw[hv];exact ltPq_irrefl _⟩
 |p::q::r,_=>by
  obtain⟨a,h1,h2⟩:=min_of (c:=q::r) (by simp)
  rcases ltPq_tri p a with k | k | k
  ·refine⟨p,List.mem_cons_self,fun v hv=> ?_⟩
   rcases List.mem_cons.1 hv with rfl | hv
   ·exact ltPq_irrefl _
   ·exact fun z=>h2 v hv (ltPq_trans z k)
  ·refine⟨a,List.mem_cons_of_mem _ h1,fun v hv=> ?_⟩
   rcases List.mem_cons.1 hv with rfl | hv
   ·rw[k];exact ltPq_irrefl _
   ·exact h2 v hv
  ·refine⟨a,List.mem_cons_of_mem _ h1,fun v hv=> ?_⟩
   rcases List.mem_cons.1 hv with rfl | hv
   ·exact fun z=>ltPq_irrefl _ (ltPq_trans k z)
   ·exact h2 v hv
theorem pc_covers {l:List Sq} (hl:l.length≤20000) {s:Sq} (hs:s∈l) (hn:s.1≠s.2) {q:Pq} (hq:OnQ s q):∃ t,t∈ofP l∧OnQ t q:=by
 obtain⟨i,hi,rfl⟩:=List.mem_iff_getElem.1 hs
 rw[← getD_at hi] at hn hq
 have cm:=cutL_mem l i
 obtain⟨s,hse⟩:∃ s,s=l.getD i sq0:=⟨_,rfl⟩
 have cv:∀ p,p∈cutL l i↔OnQ s p∧Vx l p:=fun p=>by rw[cm,cut_iff hi,hse]
 have hsm:s∈l:=by rw[hse];exact getD_mem hi
 rw[← hse] at hn hq
 -- the least and the greatest end
 obtain⟨lo,hi',hlo,hhi,hlt,hle,hge⟩:∃ lo hi':Pq,(OnQ s lo∧Vx l lo)∧(OnQ s hi'∧Vx l hi')∧ltPq lo hi'∧(∀ p,OnQ s p→¬ ltPq p lo)∧∀ p,OnQ s p→¬ ltPq hi' p:=by
  have v1:OnQ s s.1∧Vx l s.1:=⟨OnQ.left s,.inl ⟨s,hsm,.inl rfl⟩⟩
  have v2:OnQ s s.2∧Vx l s.2:=⟨OnQ.right s,.inl ⟨s,hsm,.inr rfl⟩⟩
  rcases ltPq_tri s.1 s.2 with k | k | k
  ·exact⟨s.1,s.2,v1,v2,k,fun p hp=>hp.lo k,fun p hp=>hp.hi k⟩
  ·exact absurd k hn
  ·exact⟨s.2,s.1,v2,v1,k,fun p hp=>OnQ.lo (t:=(s.2,s.1)) hp.flip k,fun p hp=>OnQ.hi (t:=(s.2,s.1)) hp.flip k⟩
 have mk:∀ a b:Pq,(OnQ s a∧Vx l a)→(OnQ s b∧Vx l b)→ltPq a b→(∀ v,OnQ s v→Vx l v→¬ (ltPq a v∧ltPq v b))→¬ ltPq q a→¬ ltPq b q→∃ t,t∈ofP l∧OnQ t q:=fun a b ha hb hab hno h1 h2=>
  ⟨(a,b),(of_mem hl _).2 ⟨s,hsm,ha,hb,hab,hno⟩,OnQ.between ha.1 hb.1 hq h1 h2⟩
 by_cases e:q=hi'
 ·-- the greatest point
  obtain⟨a,h1,h2⟩:=max_of (c:=(cutL l i).filter fun v=>decide (ltPq v hi')) (fun z=>by
   have:lo∈(cutL l i).filter fun v=>decide (ltPq v hi'):=List.mem_filter.2 ⟨(cv lo).2 hlo,decide_eq_true hlt⟩
   rw[z] at this
   cases this)
  rw[List.mem_filter] at h1
  have ha:=of_decide_eq_true h1.2
  refine mk a hi' ((cv a).1 h1.1) hhi ha (fun v o w z=> ?_) ?_ ?_
  ·exact h2 v (List.mem_filter.2 ⟨(cv v).2 ⟨o,w⟩,decide_eq_true z.2⟩) z.1
  ·rw[e];exact fun z=>ltPq_irrefl _ (ltPq_trans z ha)
  ·rw[e];exact ltPq_irrefl _
 ·have hqh:ltPq q hi':=by
   rcases ltPq_tri q hi' with k | k | k
   ·exact k
   ·exact absurd k e
   ·exact absurd k (hge q hq)
  obtain⟨a,h1,h2⟩:=max_of (c:=(cutL l i).filter fun v=>decide (¬ ltPq q v)) (fun z=>by
   have:lo∈(cutL l i).filter fun v=>decide (¬ ltPq q v):=List.mem_filter.2 ⟨(cv lo).2 hlo,decide_eq_true (hle q hq)⟩
   rw[z] at this
   cases this)
  obtain⟨b,k1,k2⟩:=min_of (c:=(cutL l i).filter fun v=>decide (ltPq q v)) (fun z=>by
   have:hi'∈(cutL l i).filter fun v=>decide (ltPq q v):=List.mem_filter.2 ⟨(cv hi').2 hhi,decide_eq_true hqh⟩
   rw[z] at this
   cases this)
  rw[List.mem_filter] at h1 k1
  have ha:=of_decide_eq_true h1.2
  have hb:=of_decide_eq_true k1.2
  have haq:ltPq a q∨a=q:=by
   rcases ltPq_tri a q with k | k | k
   ·exact .inl k
   ·exact .inr k
   ·exact absurd k ha
  have hab:ltPq a b:=by
   rcases haq with k | k
   ·exact ltPq_trans k hb
   ·rw[k];exact hb
  refine mk a b ((cv a).1 h1.1) ((cv b).1 k1.1) hab (fun v o w z=> ?_) (fun z=> ?_) (fun z=>ltPq_irrefl _ (ltPq_trans z hb))
  ·by_cases hv:ltPq q v
   ·exact k2 v (List.mem_filter.2 ⟨(cv v).2 ⟨o,w⟩,decide_eq_true hv⟩) z.2
   ·exact h2 v (List.mem_filter.2 ⟨(cv v).2 ⟨o,w⟩,decide_eq_true hv⟩) z.1
  ·rcases haq with k | k
   ·exact ltPq_irrefl _ (ltPq_trans z k)
   ·rw[k] at z;exact ltPq_irrefl _ z
theorem pc_back {l:List Sq} (hl:l.length≤20000) {t:Sq} (ht:t∈ofP l) {q:Pq} (hq:OnQ t q):∃ s,s∈l∧OnQ s q:=by
 obtain⟨s,hs,h1,h2,_⟩:=(of_mem hl t).1 ht
 exact⟨s,hs,OnQ.sub h1.1 h2.1 hq⟩
theorem nodup_le {α:Type} [DecidableEq α]:∀ {l m:List α},l.Nodup→(∀ x∈l,x∈m)→l.length≤m.length
 |[],_,_,_=>Nat.zero_le _
 |a::l,m,h,k=>by
  have h1:=List.nodup_cons.1 h
  have ha:=k a List.mem_cons_self
  have:=nodup_le (l:=l) (m:=m.erase a) h1.2 fun x hx=>(List.mem_erase_of_ne (fun e=>h1.1 (by rw[← e];exact hx))).2 (k x (List.mem_cons_of_mem _ hx))
  rw[List.length_erase_of_mem ha] at this
  have:=List.length_pos_of_mem ha
  simp only[List.length_cons]
  omega
theorem flat_le {α β:Type} {f:α→List β} {k:Nat} : ∀ (l:List α),(∀ x∈l,(f x).length≤k)→(l.flatMap f).length≤l.length*k
 |[],_=>by simp
 |a::l,h=>by
  have h1:=h a List.mem_cons_self
  have h2:=flat_le l fun x hx=>h x (List.mem_cons_of_mem _ hx)
  simp only[List.flatMap_cons,List.length_append,List.length_cons,Nat.add_mul,Nat.one_mul]
  omega
theorem of_few {l:List Sq} (h:l.length≤14):(ofP l).length≤20000:=by
 have hl:l.length≤20000:=by omega
 have nd:(ofP l).Nodup:=(ofP_is l).1.imp fun {a b} hab e=>by rw[e] at hab;exact ltSq_irrefl _ hab
 have len:∀ i,(cutL l i).length≤30:=fun i=>by
  unfold cutL
  simp only[List.length_cons]
  have:=flat_le (f:=fun k=>if k=i then [] else meetQ (l.getD i sq0) (l.getD k sq0)) (k:=2) (List.range l.length) fun k _=>by
   split
   ·exact Nat.zero_le _
   ·exact meet_le2 _ _
  rw[List.length_range] at this
  omega
 have:=nodup_le (m:=(List.range l.length).flatMap fun i=>(cutL l i).flatMap fun p=>(cutL l i).map fun q=>(p,q)) nd fun t ht=>by
  obtain⟨_,i,hi,h1,h2,_⟩:=((ofP_is l).2 t).1 ht
  exact List.mem_flatMap.2 ⟨i,List.mem_range.2 hi,List.mem_flatMap.2 ⟨t.1,(cutL_mem l i _).2 h1,List.mem_map.2 ⟨t.2,(cutL_mem l i _).2 h2,rfl⟩⟩⟩
 refine Nat.le_trans this ?_
 have h2:=flat_le (f:=fun i=>(cutL l i).flatMap fun p=>(cutL l i).map fun q=>(p,q)) (k:=900) (List.range l.length) fun i _=>by
  have:=flat_le (f:=fun p=>(cutL l i).map fun q=>(p,q)) (k:=30) (cutL l i) fun p _=>by rw[List.length_map];exact len i
  have:=len i
  have:(cutL l i).length*30≤30*30:=Nat.mul_le_mul_right _ (len i)
  omega
 rw[List.length_range] at h2
 have:l.length*900≤14*900:=Nat.mul_le_mul_right _ h
 omega
end Go.Proofs.YtmagoiniahpofaaGreat
