/-
  What two segments have in common: plain facts.
-/
import Derived.Test.YtmagoiniahpofaaGreatSpX
namespace Go.Proofs.YtmagoiniahpofaaGreat
open Go Go.RowKit
theorem cmpR_le0 (q p:Rat):cmpR q p≤0↔q≤p:=by
 have:=cmpR_g0 q p
 constructor
 ·intro h
  have:¬ p<q:=fun k=>by have:=(cmpR_g0 q p).2 k;omega
  grind
 ·intro h
  have:¬ 0<cmpR q p:=fun k=>by have:=(cmpR_g0 q p).1 k;grind
  omega
def betw (a b u:Rat):Prop:=(a≤u∧u≤b)∨(b≤u∧u≤a)
theorem betw_left (a b:Rat):betw a b a:=by unfold betw;grind
theorem betw_right (a b:Rat):betw a b b:=by unfold betw;grind
theorem betw_at {a b k:Rat} (h0:0≤k) (h1:k≤1):betw a b (a+(b-a)*k):=by
 unfold betw
 rcases Rat.le_total (a:=a) (b:=b) with h | h
 ·have p1:=Rat.mul_nonneg (show 0≤b-a by grind) h0
  have p2:=Rat.mul_nonneg (show 0≤b-a by grind) (show 0≤1-k by grind)
  left
  constructor<;>grind
 ·have p1:=Rat.mul_nonneg (show 0≤a-b by grind) h0
  have p2:=Rat.mul_nonneg (show 0≤a-b by grind) (show 0≤1-k by grind)
  right
  constructor<;>grind
theorem inv_nn {S:Rat} (hS:0<S):0≤S⁻¹ :=by
 have h2:S*S⁻¹ =1:=Rat.mul_inv_cancel S (by grind)
 rcases Rat.le_total (a:=0) (b:=S⁻¹) with h | h
 ·exact h
 ·have p:=Rat.mul_nonneg (Rat.le_of_lt hS) (show 0≤0-S⁻¹ by grind)
  grind
theorem div_nn {a S:Rat} (hS:0<S) (h:0≤a):0≤a/S:=by
 rw[Rat.div_def]
 exact Rat.mul_nonneg h (inv_nn hS)
theorem div_le1 {a S:Rat} (hS:0<S) (h:a≤S):a/S≤1:=by
 have h1:=div_nn hS (show 0≤S-a by grind)
 have h2:S*S⁻¹ =1:=Rat.mul_inv_cancel S (by grind)
 rw[Rat.div_def] at *
 grind
theorem eq_div {z w S:Rat} (hS:S≠0) (h:z*S=w):z=w/S:=by
 rw[Rat.div_def,← h,Rat.mul_assoc,Rat.mul_inv_cancel S hS,Rat.mul_one]
theorem cmpP2_le {a b c e:Rat} (h:cmpP2 a b c e≤0):a<c∨(a=c∧b≤e):=by
 unfold cmpP2 at h
 split at h
 ·rename_i k
  have:=cmpR_l0 a c
  exact .inl (this.1 (by omega))
 ·rename_i k
  have:=(cmpR_e0 a c).1 (by omega)
  exact .inr ⟨this,(cmpR_le0 b e).1 h⟩
theorem on_betw {x1 y1 x2 y2 x y:Rat} (h:onB x1 y1 x2 y2 x y=true):betw x1 x2 x∧betw y1 y2 y:=by
 unfold onB withinB at h
 simp only[Bool.and_eq_true,decide_eq_true_eq,beq_iff_eq] at h
 obtain⟨⟨h1,h2⟩,h3⟩:=h
 have h3:=(cmpR_e0 _ _).1 h3
 have h1:=cmpP2_le h1
 have h2:=cmpP2_le h2
 have bx:betw x1 x2 x∧(x1=x2→betw y1 y2 y):=by
  unfold risP at h1 h2
  unfold betw
  split at h1<;>rename_i k<;>simp only[k,if_true,if_false] at h2<;>grind
 refine⟨bx.1,?_⟩
 by_cases e:x1=x2
 ·exact bx.2 e
 ·have hne:x2-x1≠0:=by grind
  have hy:y=y1+(y2-y1)*((x-x1)/(x2-x1)):=by
   have hk:(x-x1)/(x2-x1)*(x2-x1)=x-x1:=Rat.div_mul_cancel hne
   generalize (x-x1)/(x2-x1)=t at *
   have:(y-(y1+(y2-y1)*t))*(x2-x1)=0:=by
    have e:(y-(y1+(y2-y1)*t))*(x2-x1)=(x2-x1)*(y-y1)-(y2-y1)*(t*(x2-x1)):=by grind
    rw[e,hk];grind
   rcases Rat.mul_eq_zero.1 this with h | h
   ·grind
   ·exact absurd h hne
  have hx:=bx.1
  rw[hy]
  refine betw_at ?_ ?_
  ·rcases hx with ⟨a1,a2⟩ | ⟨a1,a2⟩
   ·exact div_nn (by grind) (by grind)
   ·have:(x-x1)/(x2-x1)=(x1-x)/(x1-x2):=by
     refine eq_div (by grind) ?_
     have hk:(x-x1)/(x2-x1)*(x2-x1)=x-x1:=Rat.div_mul_cancel hne
     generalize (x-x1)/(x2-x1)=t at *
     grind
    rw[this]
    exact div_nn (by grind) (by grind)
  ·rcases hx with ⟨a1,a2⟩ | ⟨a1,a2⟩
   ·exact div_le1 (by grind) (by grind)
   ·have:(x-x1)/(x2-x1)=(x1-x)/(x1-x2):=by
     refine eq_div (by grind) ?_
     have hk:(x-x1)/(x2-x1)*(x2-x1)=x-x1:=Rat.div_mul_cancel hne
     generalize (x-x1)/(x2-x1)=t at *
     grind
    rw[this]
    exact div_le1 (by grind) (by grind)
theorem meet_betw {x1 y1 x2 y2 x3 y3 x4 y4:Rat} (h:0<(meetP x1 y1 x2 y2 x3 y3 x4 y4).length):∃ x y,(betw x1 x2 x∧betw y1 y2 y)∧betw x3 x4 x∧betw y3 y4 y:=by
 unfold meetP at h
 split at h
 ·rename_i hc
  split at h
  ·simp at h
  ·rename_i hn
   have i0:0≤partI x1 y1 x2 y2 x3 y3 x4 y4:=by grind
   have i1:partI x1 y1 x2 y2 x3 y3 x4 y4≤1:=by grind
   have k0:0≤partK x1 y1 x2 y2 x3 y3 x4 y4:=by grind
   have k1:partK x1 y1 x2 y2 x3 y3 x4 y4≤1:=by grind
   have hi:partI x1 y1 x2 y2 x3 y3 x4 y4*crossM x1 y1 x2 y2 x3 y3 x4 y4=(x3-x1)*(y4-y3)-(y3-y1)*(x4-x3):=Rat.div_mul_cancel hc
   have hk:partK x1 y1 x2 y2 x3 y3 x4 y4*crossM x1 y1 x2 y2 x3 y3 x4 y4=(x3-x1)*(y2-y1)-(y3-y1)*(x2-x1):=Rat.div_mul_cancel hc
   clear hn h
   generalize partI x1 y1 x2 y2 x3 y3 x4 y4=I at *
   generalize partK x1 y1 x2 y2 x3 y3 x4 y4=K at *
   have ex:x1+(x2-x1)*I=x3+(x4-x3)*K:=by
    have:((x1+(x2-x1)*I)-(x3+(x4-x3)*K))*crossM x1 y1 x2 y2 x3 y3 x4 y4=0:=by
     have e:((x1+(x2-x1)*I)-(x3+(x4-x3)*K))*crossM x1 y1 x2 y2 x3 y3 x4 y4=(x1-x3)*crossM x1 y1 x2 y2 x3 y3 x4 y4+(x2-x1)*(I*crossM x1 y1 x2 y2 x3 y3 x4 y4)-(x4-x3)*(K*crossM x1 y1 x2 y2 x3 y3 x4 y4):=by grind
     rw[e,hi,hk]
     unfold crossM
     grind
    rcases Rat.mul_eq_zero.1 this with h | h
    ·grind
    ·exact absurd h hc
   have ey:y1+(y2-y1)*I=y3+(y4-y3)*K:=by
    have:((y1+(y2-y1)*I)-(y3+(y4-y3)*K))*crossM x1 y1 x2 y2 x3 y3 x4 y4=0:=by
     have e:((y1+(y2-y1)*I)-(y3+(y4-y3)*K))*crossM x1 y1 x2 y2 x3 y3 x4 y4=(y1-y3)*crossM x1 y1 x2 y2 x3 y3 x4 y4+(y2-y1)*(I*crossM x1 y1 x2 y2 x3 y3 x4 y4)-(y4-y3)*(K*crossM x1 y1 x2 y2 x3 y3 x4 y4):=by grind
     rw[e,hi,hk]
     unfold crossM
     grind
    rcases Rat.mul_eq_zero.1 this with h | h
    ·grind
    ·exact absurd h hc
   refine⟨_,_,⟨betw_at i0 i1,betw_at i0 i1⟩,?_,?_⟩
   ·rw[ex];exact betw_at k0 k1
   ·rw[ey];exact betw_at k0 k1
 ·match hl:endsM x1 y1 x2 y2 x3 y3 x4 y4 with
  |[]=>rw[hl] at h;simp[endM] at h
  |p::l=>
   have hp:p∈endsM x1 y1 x2 y2 x3 y3 x4 y4:=by rw[hl];simp
   have h2:=(List.mem_filter.1 hp).2
   unfold on2 at h2
   rw[Bool.and_eq_true] at h2
   exact⟨p.1,p.2,on_betw h2.1,on_betw h2.2⟩
def meetQ (t u:Sq):List Pq:=meetP t.1.1 t.1.2 t.2.1 t.2.2 u.1.1 u.1.2 u.2.1 u.2.2
theorem lowF_mem:∀ (l:List Pq) (o:Pq),lowF l o∈o::l
 |[],o=>by simp[lowF]
 |a::l,o=>by
  have:=lowF_mem l (if cmpP2 a.1 a.2 o.1 o.2<0 then a else o)
  simp only[lowF,List.foldl_cons] at this ⊢
  split at this<;>simp_all<;>grind
theorem highF_mem:∀ (l:List Pq) (o:Pq),highF l o∈o::l
 |[],o=>by simp[highF]
 |a::l,o=>by
  have:=highF_mem l (if 0<cmpP2 a.1 a.2 o.1 o.2 then a else o)
  simp only[highF,List.foldl_cons] at this ⊢
  split at this<;>simp_all<;>grind
theorem cmpPq_gt (p q:Pq):0<cmpPq p q↔ltPq q p:=by
 have h1:=cmpPq_lt p q
 have h2:=cmpPq_eq p q
 have h3:=ltPq_tri p q
 have h4:=ltPq_irrefl q
 constructor
 ·intro h
  rcases h3 with k | k | k
  ·have:=h1.2 k;omega
  ·have:=h2.2 k;omega
  ·exact k
 ·intro h
  have n1:¬ cmpPq p q<0:=fun k=>h4 (ltPq_trans h (h1.1 k))
  have n2:cmpPq p q≠0:=fun k=>by have:=h2.1 k;subst this;exact h4 h
  omega
theorem lowF_le:∀ (l:List Pq) (o q:Pq),q∈o::l→¬ ltPq q (lowF l o)
 |[],o,q,h=>by
  simp only[List.mem_cons,List.not_mem_nil,or_false] at h
  subst h
  exact ltPq_irrefl _
 |a::l,o,q,h=>by
  show ¬ ltPq q (lowF l (if cmpP2 a.1 a.2 o.1 o.2<0 then a else o))
  have ih:=lowF_le l
  have hc:=cmpPq_lt a o
  unfold cmpPq at hc
  by_cases hk:cmpP2 a.1 a.2 o.1 o.2<0
  ·rw[if_pos hk]
   have h0:=ih a a List.mem_cons_self
   rcases List.mem_cons.1 h with rfl | h
   ·intro k
    exact h0 (ltPq_trans (hc.1 hk) k)
   ·exact ih a q h
  ·rw[if_neg hk]
   have h0:=ih o o List.mem_cons_self
   have hn:¬ ltPq a o:=fun e=>hk (hc.2 e)
   rcases List.mem_cons.1 h with rfl | h
   ·exact h0
   ·rcases List.mem_cons.1 h with rfl | h
    ·intro k
     rcases ltPq_tri q o with e | e | e
     ·exact hn e
     ·rw[e] at k;exact h0 k
     ·exact h0 (ltPq_trans e k)
    ·exact ih o q (List.mem_cons_of_mem _ h)
theorem highF_le:∀ (l:List Pq) (o q:Pq),q∈o::l→¬ ltPq (highF l o) q
 |[],o,q,h=>by
  simp only[List.mem_cons,List.not_mem_nil,or_false] at h
  subst h
  exact ltPq_irrefl _
 |a::l,o,q,h=>by
  show ¬ ltPq (highF l (if 0<cmpP2 a.1 a.2 o.1 o.2 then a else o)) q
  have ih:=highF_le l
  have hc:=cmpPq_gt a o
  unfold cmpPq at hc
  by_cases hk:0<cmpP2 a.1 a.2 o.1 o.2
  ·rw[if_pos hk]
   have h0:=ih a a List.mem_cons_self
   rcases List.mem_cons.1 h with rfl | h
   ·intro k
    exact h0 (ltPq_trans k (hc.1 hk))
   ·exact ih a q h
  ·rw[if_neg hk]
   have h0:=ih o o List.mem_cons_self
   have hn:¬ ltPq o a:=fun e=>hk (hc.2 e)
   rcases List.mem_cons.1 h with rfl | h
   ·exact h0
   ·rcases List.mem_cons.1 h with rfl | h
    ·intro k
     rcases ltPq_tri o q with e | e | e
     ·exact hn e
     ·rw[← e] at k;exact h0 k
     ·exact h0 (ltPq_trans k e)
    ·exact ih o q (List.mem_cons_of_mem _ h)
theorem endM_cases (l:List Pq) (h:l≠[]):∃ a b,a∈l∧b∈l∧(∀ q∈l,¬ ltPq q a∧¬ ltPq b q)∧endM l=if a=b then [a] else [a,b]:=by
 have e:(l.getD 0 (0,0))::l.tail=l:=by cases l with | nil=>exact absurd rfl h | cons a r=>rfl
 have m0:∀ q:Pq,q∈l.getD 0 (0,0)::l→q∈l:=fun q hq=>by
  rcases List.mem_cons.1 hq with rfl | hq
  ·rw[← e];simp
  ·exact hq
 refine⟨lowF l (l.getD 0 (0,0)),highF l (l.getD 0 (0,0)),m0 _ (lowF_mem _ _),m0 _ (highF_mem _ _),fun q hq=>⟨lowF_le _ _ _ (List.mem_cons_of_mem _ hq),highF_le _ _ _ (List.mem_cons_of_mem _ hq)⟩,?_⟩
 unfold endM
 rw[if_neg h]
 have hc:=cmpPq_eq (lowF l (l.getD 0 (0,0))) (highF l (l.getD 0 (0,0)))
 unfold cmpPq at hc
 by_cases k:lowF l (l.getD 0 (0,0))=highF l (l.getD 0 (0,0))
 ·rw[if_pos (hc.2 k),if_pos k]
 ·rw[if_neg (fun z=>k (hc.1 z)),if_neg k]
theorem endM_same {l l':List Pq} (h:∀ p,p∈l↔p∈l'):endM l=endM l':=by
 by_cases e:l=[]
 ·have:l'=[]:=List.eq_nil_iff_forall_not_mem.2 fun p hp=>by have:=(h p).2 hp;rw[e] at this;cases this
  rw[e,this]
 ·have e':l'≠[]:=fun k=>e (List.eq_nil_iff_forall_not_mem.2 fun p hp=>by have:=(h p).1 hp;rw[k] at this;cases this)
  obtain⟨a,b,h1,h2,h3,h4⟩:=endM_cases l e
  obtain⟨a',b',k1,k2,k3,k4⟩:=endM_cases l' e'
  have ea:a=a':=by
   rcases ltPq_tri a a' with z | z | z
   ·exact absurd z (k3 a ((h a).1 h1)).1
   ·exact z
   ·exact absurd z (h3 a' ((h a').2 k1)).1
  have eb:b=b':=by
   rcases ltPq_tri b b' with z | z | z
   ·exact absurd z (h3 b' ((h b').2 k2)).2
   ·exact z
   ·exact absurd z (k3 b ((h b).1 h2)).2
  rw[h4,k4,ea,eb]
theorem cross_sym (x1 y1 x2 y2 x3 y3 x4 y4:Rat):crossM x3 y3 x4 y4 x1 y1 x2 y2= - crossM x1 y1 x2 y2 x3 y3 x4 y4:=by
 unfold crossM
 grind
theorem meet_sym (t u:Sq):meetQ t u=meetQ u t:=by
 obtain⟨⟨x1,y1⟩,x2,y2⟩:=t
 obtain⟨⟨x3,y3⟩,x4,y4⟩:=u
 show meetP x1 y1 x2 y2 x3 y3 x4 y4=meetP x3 y3 x4 y4 x1 y1 x2 y2
 have hcs:=cross_sym x1 y1 x2 y2 x3 y3 x4 y4
 unfold meetP
 by_cases hc:crossM x1 y1 x2 y2 x3 y3 x4 y4=0
 ·rw[if_neg (by simpa using hc),if_neg (by rw[hcs,hc];simp)]
  refine endM_same fun p=> ?_
  unfold endsM ends4 on2
  simp only[List.mem_filter,List.mem_cons,List.not_mem_nil,or_false,Bool.and_eq_true]
  grind
 ·have hc':crossM x3 y3 x4 y4 x1 y1 x2 y2≠0:=by rw[hcs];grind
  rw[if_pos hc,if_pos hc']
  have hi:partI x1 y1 x2 y2 x3 y3 x4 y4*crossM x1 y1 x2 y2 x3 y3 x4 y4=(x3-x1)*(y4-y3)-(y3-y1)*(x4-x3):=Rat.div_mul_cancel hc
  have hk:partK x1 y1 x2 y2 x3 y3 x4 y4*crossM x1 y1 x2 y2 x3 y3 x4 y4=(x3-x1)*(y2-y1)-(y3-y1)*(x2-x1):=Rat.div_mul_cancel hc
  have canc:∀ a b:Rat,(a-b)*crossM x1 y1 x2 y2 x3 y3 x4 y4=0→a=b:=fun a b h=>by
   rcases Rat.mul_eq_zero.1 h with h | h
   ·grind
   ·exact absurd h hc
  have hi':partI x3 y3 x4 y4 x1 y1 x2 y2=partK x1 y1 x2 y2 x3 y3 x4 y4:=by
   have h1:partI x3 y3 x4 y4 x1 y1 x2 y2*crossM x3 y3 x4 y4 x1 y1 x2 y2=(x1-x3)*(y2-y1)-(y1-y3)*(x2-x1):=Rat.div_mul_cancel hc'
   rw[hcs] at h1
   generalize partI x3 y3 x4 y4 x1 y1 x2 y2=I at *
   generalize partK x1 y1 x2 y2 x3 y3 x4 y4=K at *
   generalize crossM x1 y1 x2 y2 x3 y3 x4 y4=C at *
   exact canc _ _ (by grind)
  have hk':partK x3 y3 x4 y4 x1 y1 x2 y2=partI x1 y1 x2 y2 x3 y3 x4 y4:=by
   have h1:partK x3 y3 x4 y4 x1 y1 x2 y2*crossM x3 y3 x4 y4 x1 y1 x2 y2=(x1-x3)*(y4-y3)-(y1-y3)*(x4-x3):=Rat.div_mul_cancel hc'
   rw[hcs] at h1
   generalize partK x3 y3 x4 y4 x1 y1 x2 y2=I at *
   generalize partI x1 y1 x2 y2 x3 y3 x4 y4=K at *
   generalize crossM x1 y1 x2 y2 x3 y3 x4 y4=C at *
   exact canc _ _ (by grind)
  rw[hi',hk']
  generalize partI x1 y1 x2 y2 x3 y3 x4 y4=I at *
  generalize partK x1 y1 x2 y2 x3 y3 x4 y4=K at *
  have ex:x1+(x2-x1)*I=x3+(x4-x3)*K:=by
   refine canc _ _ ?_
   have e:((x1+(x2-x1)*I)-(x3+(x4-x3)*K))*crossM x1 y1 x2 y2 x3 y3 x4 y4=(x1-x3)*crossM x1 y1 x2 y2 x3 y3 x4 y4+(x2-x1)*(I*crossM x1 y1 x2 y2 x3 y3 x4 y4)-(x4-x3)*(K*crossM x1 y1 x2 y2 x3 y3 x4 y4):=by grind
   rw[e,hi,hk]
   unfold crossM
   grind
  have ey:y1+(y2-y1)*I=y3+(y4-y3)*K:=by
   refine canc _ _ ?_
   have e:((y1+(y2-y1)*I)-(y3+(y4-y3)*K))*crossM x1 y1 x2 y2 x3 y3 x4 y4=(y1-y3)*crossM x1 y1 x2 y2 x3 y3 x4 y4+(y2-y1)*(I*crossM x1 y1 x2 y2 x3 y3 x4 y4)-(y4-y3)*(K*crossM x1 y1 x2 y2 x3 y3 x4 y4):=by grind
   rw[e,hi,hk]
   unfold crossM
   grind
  rw[ex,ey]
  have hiff:(I<0∨1<I∨K<0∨1<K)↔(K<0∨1<K∨I<0∨1<I):=by grind
  by_cases h:I<0∨1<I∨K<0∨1<K
  ·rw[if_pos h,if_pos (hiff.1 h)]
  ·rw[if_neg h,if_neg (fun z=>h (hiff.2 z))]
theorem meet_le2 (t u:Sq):(meetQ t u).length≤2:=by
 unfold meetQ meetP
 split
 ·split<;>simp
 ·unfold endM
  split
  ·simp
  ·split<;>simp
theorem lo2_le (a b:Rat):(lo2 a b≤a∧lo2 a b≤b)∧a≤hi2 a b∧b≤hi2 a b:=by
 unfold lo2 hi2 bestR ltR gtR
 simp only[List.foldl_cons,List.foldl_nil]
 grind
theorem betw_lo {a b u:Rat} (h:betw a b u):lo2 a b≤u∧u≤hi2 a b:=by
 have:=lo2_le a b
 unfold betw at h
 grind
theorem meet_boxes {t u:Sq} (h:meetQ t u≠[]):meetsQ (boxQ t) (boxQ u)=true∧(boxQ u).1.1≤(boxQ t).2.1:=by
 have h0:0<(meetP t.1.1 t.1.2 t.2.1 t.2.2 u.1.1 u.1.2 u.2.1 u.2.2).length:=List.length_pos_iff.2 h
 obtain⟨x,y,⟨h1,h2⟩,h3,h4⟩:=meet_betw h0
 have h1:=betw_lo h1
 have h2:=betw_lo h2
 have h3:=betw_lo h3
 have h4:=betw_lo h4
 unfold meetsQ boxQ
 simp only[Bool.and_eq_true,decide_eq_true_eq,cmpR_le0]
 grind
end Go.Proofs.YtmagoiniahpofaaGreat
namespace Go.Proofs.YtmagoiniahpofaaGreat
open Go Go.RowKit
def bxL (l:List Sq):List Sq:=l.map boxQ
def Ris (l:List Sq) (r:List Int):Prop:=r.Perm ((List.range l.length).map fun i:Nat=>(i:Int))∧r.Pairwise (fun i j=>¬ keyQ (bxL l) j i<0)
def rhoQ (r:List Int) (a:Nat):Nat:=(r.getD a 0).toNat
def doneQ (n m a b:Nat):Prop:=a≠b∧((a<n∨b<n)∨(a=n∧b<n+1+m)∨(b=n∧a<n+1+m))
def mtQ (l:List Sq) (r:List Int) (n m:Nat):List Pq:=meetQ (l.getD (rhoQ r n) sq0) (l.getD (rhoQ r (n+1+m)) sq0)
structure Cuts (l:List Sq) (r:List Int) (n m q:Nat) (C:Nat→List Pq):Prop where
 mem:∀ a,a<l.length→∀ p,p∈C (rhoQ r a)↔p=(l.getD (rhoQ r a) sq0).1∨p=(l.getD (rhoQ r a) sq0).2∨(∃ b,b<l.length∧doneQ n m a b∧p∈meetQ (l.getD (rhoQ r a) sq0) (l.getD (rhoQ r b) sq0))∨((a=n∨a=n+1+m)∧p∈(mtQ l r n m).take q)
 two:∀ a,a<l.length→2≤(C (rhoQ r a)).length
 sum:((List.range l.length).map fun j=>(C j).length).sum≤2*l.length+4*(n*20000+m)+2*q
def CutS (l:List Sq) (i:Nat) (p:Pq):Prop:=p=(l.getD i sq0).1∨p=(l.getD i sq0).2∨∃ k,k<l.length∧k≠i∧p∈meetQ (l.getD i sq0) (l.getD k sq0)
structure CutF (l:List Sq) (C:Nat→List Pq):Prop where
 mem:∀ i,i<l.length→∀ p,p∈C i↔CutS l i p
 two:∀ i,i<l.length→2≤(C i).length
 sum:((List.range l.length).map fun j=>(C j).length).sum≤10000000000
def PieceQ (c:List Pq) (t:Sq):Prop:=t.1∈c∧t.2∈c∧ltPq t.1 t.2∧∀ p∈c,¬ (ltPq t.1 p∧ltPq p t.2)
structure OutQ (C:Nat→List Pq) (m:Nat) (O:List Sq):Prop where
 mem:∀ t,t∈O↔∃ j,j<m∧PieceQ (C j) t
 len:O.length≤((List.range m).map fun j=>(C j).length).sum
structure OutI (C:Nat→List Pq) (m i:Nat) (c:List Pq) (O:List Sq):Prop where
 perm:c.Perm (C m)
 ris:c.Pairwise (fun p q=>¬ cmpPq q p<0)
 lo:1≤i
 hi:i≤c.length
 mem:∀ t,t∈O↔(∃ j,j<m∧PieceQ (C j) t)∨(PieceQ (C m) t∧∃ k,k+1<i∧t=(c.getD k (0,0),c.getD (k+1) (0,0)))
 len:O.length+1≤((List.range m).map fun j=>(C j).length).sum+i
def IsPc (l:List Sq) (t:Sq):Prop:=∃ i,i<l.length∧CutS l i t.1∧CutS l i t.2∧ltPq t.1 t.2∧∀ p,CutS l i p→¬ (ltPq t.1 p∧ltPq p t.2)
def IsOf (l:List Sq) (O:List Sq):Prop:=O.Pairwise ltSq∧∀ t,t∈O↔l.length≤20000∧IsPc l t
noncomputable def ofP (l:List Sq):List Sq:=@dite _ (∃ O,IsOf l O) (Classical.propDecidable _) (fun h=>Classical.choose h) (fun _=>[])
theorem ris_len {l:List Sq} {r:List Int} (h:Ris l r):r.length=l.length:=by simpa using h.1.length_eq
theorem ris_at {l:List Sq} {r:List Int} (h:Ris l r) {a:Nat} (ha:a<l.length):∃ x,r[a]? =some x∧r.getD a 0=x∧0≤x∧x<(l.length:Int):=by
 have hl:=ris_len h
 have ha':a<r.length:=by omega
 refine⟨r[a],List.getElem?_eq_getElem ha',by simp[List.getD,ha'],?_⟩
 have:=h.1.mem_iff.1 (List.getElem_mem ha')
 simp only[List.mem_map,List.mem_range] at this
 obtain⟨i,h1,h2⟩:=this
 omega
theorem ris_lt {l:List Sq} {r:List Int} (h:Ris l r) {a:Nat} (ha:a<l.length):rhoQ r a<l.length∧r.getD a 0=(rhoQ r a:Int):=by
 obtain⟨x,_,h1,h2,h3⟩:=ris_at h ha
 unfold rhoQ
 rw[h1]
 omega
theorem ris_nodup {l:List Sq} {r:List Int} (h:Ris l r):r.Nodup:=by
 refine h.1.nodup_iff.2 ?_
 refine List.Pairwise.map _ (fun a b hab=> ?_) List.nodup_range
 intro e
 exact hab (by have:(a:Int)=(b:Int):=e;omega)
theorem ris_inj {l:List Sq} {r:List Int} (h:Ris l r) {a b:Nat} (ha:a<l.length) (hb:b<l.length) (e:rhoQ r a=rhoQ r b):a=b:=by
 have h1:=(ris_lt h ha).2
 have h2:=(ris_lt h hb).2
 obtain⟨x,e1,e2,_⟩:=ris_at h ha
 obtain⟨y,e3,e4,_⟩:=ris_at h hb
 have exy:x=y:=by rw[← e2,← e4,h1,h2,e]
 have hl:=ris_len h
 have hn:=ris_nodup h
 have ha':a<r.length:=by omega
 have hb':b<r.length:=by omega
 rw[List.getElem?_eq_getElem ha'] at e1
 rw[List.getElem?_eq_getElem hb'] at e3
 have e5:r[a]=r[b]:=by rw[Option.some.inj e1,Option.some.inj e3,exy]
 rcases Nat.lt_trichotomy a b with k | k | k
 ·exact absurd e5 (List.pairwise_iff_getElem.1 hn a b ha' hb' k)
 ·exact k
 ·exact absurd e5.symm (List.pairwise_iff_getElem.1 hn b a hb' ha' k)
theorem ris_sur {l:List Sq} {r:List Int} (h:Ris l r) {i:Nat} (hi:i<l.length):∃ a,a<l.length∧rhoQ r a=i:=by
 have:(i:Int)∈r:=h.1.mem_iff.2 (by simp only[List.mem_map,List.mem_range];exact⟨i,hi,rfl⟩)
 obtain⟨a,ha,e⟩:=List.mem_iff_getElem.1 this
 have hl:=ris_len h
 refine⟨a,by omega,?_⟩
 simp[rhoQ,List.getD,ha,e]
theorem sum_upd {f g:Nat→Nat} {i d:Nat} : ∀ {n:Nat},i<n→(∀ j,j≠i→g j=f j)→g i=f i+d→((List.range n).map g).sum=((List.range n).map f).sum+d
 |0,h,_,_=>by omega
 |n+1,h,h1,h2=>by
  simp only[List.range_succ,List.map_append,List.sum_append,List.map_cons,List.map_nil,List.sum_cons,List.sum_nil,Nat.add_zero]
  by_cases e:i=n
  ·subst e
   have:((List.range i).map g)=((List.range i).map f):=List.map_congr_left fun j hj=>h1 j (by have:=List.mem_range.1 hj;omega)
   rw[this,h2]
   omega
  ·rw[sum_upd (n:=n) (by omega) h1 h2,h1 n (Ne.symm e)]
   omega
theorem sum_two:∀ (n:Nat),((List.range n).map fun _=>2).sum=2*n
 |0=>rfl
 |n+1=>by
  simp only[List.range_succ,List.map_append,List.sum_append,List.map_cons,List.map_nil,List.sum_cons,List.sum_nil,Nat.add_zero,sum_two n]
  omega
theorem Cuts.start (l:List Sq) (r:List Int):Cuts l r 0 0 0 (fun j=>[(l.getD j sq0).1,(l.getD j sq0).2]):=by
 refine⟨fun a ha p=> ?_,fun a ha=>by simp,?_⟩
 ·simp only[List.mem_cons,List.not_mem_nil,or_false,List.take_zero,and_false]
  constructor
  ·rintro (h | h)
   ·exact .inl h
   ·exact .inr (.inl h)
  ·rintro (h | h | ⟨b,h1,⟨h2,h3⟩,h4⟩)
   ·exact .inl h
   ·exact .inr h
   ·exfalso;omega
 ·show ((List.range l.length).map fun _=>2).sum≤_
  rw[sum_two]
  omega
def pushQ (C:Nat→List Pq) (i k:Nat) (p:Pq):Nat→List Pq:=fun j=>if j=k then C k++[p] else if j=i then C i++[p] else C j
theorem Cuts.step {l:List Sq} {r:List Int} {n m q:Nat} {C:Nat→List Pq} (h:Cuts l r n m q C) (hr:Ris l r) (hm:n+1+m<l.length) (hq:q<(mtQ l r n m).length) :
  Cuts l r n m (q+1) (pushQ C (rhoQ r n) (rhoQ r (n+1+m)) ((mtQ l r n m).getD q (0,0))):=by
 have hn:n<l.length:=by omega
 have hne:rhoQ r n≠rhoQ r (n+1+m):=fun e=>by have:=ris_inj hr hn hm e;omega
 have ht:∀ p,p∈(mtQ l r n m).take (q+1)↔p∈(mtQ l r n m).take q∨p=(mtQ l r n m).getD q (0,0):=fun p=>by
  have e:(mtQ l r n m).getD q (0,0)=(mtQ l r n m)[q]:=by simp[List.getD,hq]
  rw[List.take_succ_eq_append_getElem hq,List.mem_append,e]
  simp only[List.mem_cons,List.not_mem_nil,or_false]
 have len:∀ j,(C j).length≤(pushQ C (rhoQ r n) (rhoQ r (n+1+m)) ((mtQ l r n m).getD q (0,0)) j).length:=fun j=>by
  unfold pushQ
  split
  ·rename_i e;rw[e];simp
  ·split
   ·rename_i e;rw[e];simp
   ·exact Nat.le_refl _
 refine⟨fun a ha p=> ?_,fun a ha=>Nat.le_trans (h.two a ha) (len _),?_⟩
 ·have hma:=h.mem a ha p
  rw[ht]
  unfold pushQ
  split
  ·rename_i e
   have ea:=ris_inj hr ha hm e
   rw[List.mem_append,← e,hma]
   simp only[List.mem_cons,List.not_mem_nil,or_false]
   subst ea
   constructor
   ·rintro ((h | h | h | ⟨h1,h2⟩) | h)
    ·exact .inl h
    ·exact .inr (.inl h)
    ·exact .inr (.inr (.inl h))
    ·exact .inr (.inr (.inr ⟨h1,.inl h2⟩))
    ·exact .inr (.inr (.inr ⟨.inr rfl,.inr h⟩))
   ·rintro (h | h | h | ⟨h1,h2 | h2⟩)
    ·exact .inl (.inl h)
    ·exact .inl (.inr (.inl h))
    ·exact .inl (.inr (.inr (.inl h)))
    ·exact .inl (.inr (.inr (.inr ⟨h1,h2⟩)))
    ·exact .inr h2
  ·rename_i e0
   split
   ·rename_i e
    have ea:=ris_inj hr ha hn e
    rw[List.mem_append,← e,hma]
    simp only[List.mem_cons,List.not_mem_nil,or_false]
    subst ea
    constructor
    ·rintro ((h | h | h | ⟨h1,h2⟩) | h)
     ·exact .inl h
     ·exact .inr (.inl h)
     ·exact .inr (.inr (.inl h))
     ·exact .inr (.inr (.inr ⟨h1,.inl h2⟩))
     ·exact .inr (.inr (.inr ⟨.inl rfl,.inr h⟩))
    ·rintro (h | h | h | ⟨h1,h2 | h2⟩)
     ·exact .inl (.inl h)
     ·exact .inl (.inr (.inl h))
     ·exact .inl (.inr (.inr (.inl h)))
     ·exact .inl (.inr (.inr (.inr ⟨h1,h2⟩)))
     ·exact .inr h2
   ·rename_i e1
    have n1:a≠n:=fun e=>e1 (by rw[e])
    have n2:a≠n+1+m:=fun e=>e0 (by rw[e])
    rw[hma]
    simp[n1,n2]
 ·have s1:((List.range l.length).map fun j=>(if j=rhoQ r n then C (rhoQ r n)++[(mtQ l r n m).getD q (0,0)] else C j).length).sum=((List.range l.length).map fun j=>(C j).length).sum+1:=
   sum_upd (ris_lt hr hn).1 (fun j hj=>by rw[if_neg hj]) (by simp)
  have s2:((List.range l.length).map fun j=>(pushQ C (rhoQ r n) (rhoQ r (n+1+m)) ((mtQ l r n m).getD q (0,0)) j).length).sum=((List.range l.length).map fun j=>(if j=rhoQ r n then C (rhoQ r n)++[(mtQ l r n m).getD q (0,0)] else C j).length).sum+1:=
   sum_upd (ris_lt hr hm).1 (fun j hj=>by unfold pushQ;rw[if_neg hj]) (by unfold pushQ;rw[if_pos rfl,if_neg (Ne.symm hne)];simp)
  have:=h.sum
  omega
theorem Cuts.pair {l:List Sq} {r:List Int} {n m q:Nat} {C:Nat→List Pq} (h:Cuts l r n m q C) (hm:n+1+m<l.length) (hq:q=(mtQ l r n m).length):Cuts l r n (m+1) 0 C:=by
 refine⟨fun a ha p=> ?_,h.two,?_⟩
 ·rw[h.mem a ha p,hq,List.take_length]
  simp only[List.take_zero,List.not_mem_nil,and_false,or_false]
  refine or_congr Iff.rfl (or_congr Iff.rfl ⟨?_,?_⟩)
  ·rintro (⟨b,h1,⟨h2,h3⟩,h4⟩ | ⟨h1 | h1,h2⟩)
   ·exact⟨b,h1,⟨h2,by omega⟩,h4⟩
   ·subst h1
    exact⟨a+1+m,hm,⟨by omega,by omega⟩,h2⟩
   ·subst h1
    refine⟨n,by omega,⟨by omega,by omega⟩,?_⟩
    rw[meet_sym]
    exact h2
  ·rintro⟨b,h1,⟨h2,h3⟩,h4⟩
   by_cases e1:a=n∧b=n+1+m
   ·obtain⟨rfl,rfl⟩:=e1
    exact .inr ⟨.inl rfl,h4⟩
   ·by_cases e2:b=n∧a=n+1+m
    ·obtain⟨rfl,rfl⟩:=e2
     refine .inr ⟨.inr rfl,?_⟩
     unfold mtQ
     rw[meet_sym]
     exact h4
    ·exact .inl ⟨b,h1,⟨h2,by omega⟩,h4⟩
 ·have h1:=h.sum
  have h2:(mtQ l r n m).length≤2:=meet_le2 _ _
  omega
theorem row_sum {S N n m:Nat} (h:S≤2*N+4*(n*20000+m)+2*0) (hm:m≤20000):S≤2*N+4*((n+1)*20000+0)+2*0:=by
 have:S≤2*N+4*(n*20000+20000):=by omega
 rw[Nat.add_mul,Nat.one_mul]
 exact this
theorem Cuts.row {l:List Sq} {r:List Int} {n m:Nat} {C:Nat→List Pq} (h:Cuts l r n m 0 C) (hm:m≤20000) (hb:∀ b,n+1+m≤b→b<l.length→meetQ (l.getD (rhoQ r n) sq0) (l.getD (rhoQ r b) sq0)=[]):Cuts l r (n+1) 0 0 C:=by
 refine⟨fun a ha p=> ?_,h.two,?_⟩
 case refine_2=>exact row_sum h.sum hm
 rw[h.mem a ha p]
 simp only[List.take_zero,List.not_mem_nil,and_false,or_false]
 refine or_congr Iff.rfl (or_congr Iff.rfl ⟨?_,?_⟩)
 ·rintro⟨b,h1,⟨h2,h3⟩,h4⟩
  exact⟨b,h1,⟨h2,by omega⟩,h4⟩
 ·rintro⟨b,h1,⟨h2,h3⟩,h4⟩
  by_cases e1:a=n∧n+1+m≤b
  ·obtain⟨rfl,e⟩:=e1
   rw[hb b e h1] at h4
   cases h4
  ·by_cases e2:b=n∧n+1+m≤a
   ·obtain⟨rfl,e⟩:=e2
    rw[meet_sym,hb a e ha] at h4
    cases h4
   ·exact⟨b,h1,⟨h2,by omega⟩,h4⟩
theorem Cuts.fin {l:List Sq} {r:List Int} {C:Nat→List Pq} (hl:l.length≤20000) (h:Cuts l r l.length 0 0 C) (hr:Ris l r):CutF l C:=by
 refine⟨fun i hi p=> ?_,fun i hi=> ?_,?_⟩
 ·obtain⟨a,ha,rfl⟩:=ris_sur hr hi
  rw[h.mem a ha p]
  simp only[List.take_zero,List.not_mem_nil,and_false,or_false]
  refine or_congr Iff.rfl (or_congr Iff.rfl ⟨?_,?_⟩)
  ·rintro⟨b,h1,⟨h2,h3⟩,h4⟩
   exact⟨rhoQ r b,(ris_lt hr h1).1,fun e=>h2 (ris_inj hr ha h1 e.symm),h4⟩
  ·rintro⟨k,h1,h2,h4⟩
   obtain⟨b,hb,rfl⟩:=ris_sur hr h1
   exact⟨b,hb,⟨fun e=>h2 (by rw[e]),by omega⟩,h4⟩
 ·obtain⟨a,ha,rfl⟩:=ris_sur hr hi
  exact h.two a ha
 ·have:=h.sum
  omega
theorem ris_far {l:List Sq} {r:List Int} (h:Ris l r) {n k b:Nat} (hk:k≤b) (hb:b<l.length) (hf:0<cmpR ((bxL l).getD (rhoQ r k) sq0).1.1 ((bxL l).getD (rhoQ r n) sq0).2.1) (hn:n<l.length) :
  meetQ (l.getD (rhoQ r n) sq0) (l.getD (rhoQ r b) sq0)=[]:=by
 refine Classical.byContradiction fun hne=> ?_
 have h1:=(meet_boxes hne).2
 have bx:∀ a,a<l.length→(bxL l).getD (rhoQ r a) sq0=boxQ (l.getD (rhoQ r a) sq0):=fun a ha=>by
  have:=(ris_lt h ha).1
  simp[bxL,List.getD,this]
 rw[cmpR_g0,bx n hn] at hf
 have hle:((bxL l).getD (rhoQ r k) sq0).1.1≤((bxL l).getD (rhoQ r b) sq0).1.1:=by
  rcases Nat.lt_or_ge k b with hlt | hge
  ·have hl:=ris_len h
   have:=List.pairwise_iff_getElem.1 h.2 k b (by omega) (by omega) hlt
   unfold keyQ at this
   rw[cmpR_l0] at this
   have e1:rhoQ r k=(r[k]'(by omega)).toNat:=by simp[rhoQ,List.getD,show k<r.length by omega]
   have e2:rhoQ r b=(r[b]'(by omega)).toNat:=by simp[rhoQ,List.getD,show b<r.length by omega]
   rw[e1,e2]
   grind
  ·have:k=b:=by omega
   rw[this]
   exact Rat.le_refl
 rw[bx b hb] at hle
 grind
end Go.Proofs.YtmagoiniahpofaaGreat
namespace Go.Proofs.YtmagoiniahpofaaGreat
open Go Go.RowKit
theorem getD_mem {α:Type} {l:List α} {k:Nat} {d:α} (h:k<l.length):l.getD k d∈l:=by
 simp[List.getD,h]
theorem piece_same {c c':List Pq} (h:∀ p,p∈c↔p∈c') (t:Sq):PieceQ c t↔PieceQ c' t:=by
 unfold PieceQ
 simp only[h]
theorem sorted_at {c:List Pq} (hs:c.Pairwise (fun p q=>¬ cmpPq q p<0)) {i j:Nat} (h:i≤j) (hj:j<c.length):¬ ltPq (c.getD j (0,0)) (c.getD i (0,0)):=by
 have e1:c.getD j (0,0)=c[j]:=by simp[List.getD,hj]
 have hi:i<c.length:=by omega
 have e2:c.getD i (0,0)=c[i]:=by simp[List.getD,hi]
 rw[e1,e2]
 rcases Nat.lt_or_ge i j with k | k
 ·have:=List.pairwise_iff_getElem.1 hs i j hi hj k
  rw[cmpPq_lt] at this
  exact this
 ·have:i=j:=by omega
  subst this
  exact ltPq_irrefl _
theorem piece_of_adj {c:List Pq} (hs:c.Pairwise (fun p q=>¬ cmpPq q p<0)) {k:Nat} (hk:k+1<c.length) (hne:c.getD k (0,0)≠c.getD (k+1) (0,0)):PieceQ c (c.getD k (0,0),c.getD (k+1) (0,0)):=by
 refine⟨getD_mem (by omega),getD_mem hk,?_,fun p hp=> ?_⟩
 ·rcases ltPq_tri (c.getD k (0,0)) (c.getD (k+1) (0,0)) with h | h | h
  ·exact h
  ·exact absurd h hne
  ·exact absurd h (sorted_at hs (Nat.le_succ k) hk)
 ·rintro⟨h1,h2⟩
  obtain⟨j,hj,e⟩:=List.mem_iff_getElem.1 hp
  have e1:c.getD j (0,0)=p:=by rw[← e];simp[List.getD,hj]
  rcases Nat.lt_or_ge k j with h | h
  ·exact absurd h2 (by rw[← e1];exact sorted_at hs h hj)
  ·exact absurd h1 (by rw[← e1];exact sorted_at hs h (by omega))
theorem adj_of_piece:∀ {c:List Pq},c.Pairwise (fun p q=>¬ cmpPq q p<0)→∀ {t:Sq},PieceQ c t→∃ k,k+1<c.length∧t=(c.getD k (0,0),c.getD (k+1) (0,0))
 |[],_,t,h=>by have:=h.1;cases this
 |a::r,hs,t,⟨h1,h2,h3,h4⟩=>by
  obtain⟨ha,hr⟩:=List.pairwise_cons.1 hs
  simp only[cmpPq_lt] at ha
  by_cases hm:t.1∈r
  ·have h2':t.2∈r:=by
    rcases List.mem_cons.1 h2 with e | e
    ·exact absurd (e ▸ h3) (ha _ hm)
    ·exact e
   obtain⟨k,k1,k2⟩:=adj_of_piece hr ⟨hm,h2',h3,fun p hp=>h4 p (List.mem_cons_of_mem _ hp)⟩
   exact⟨k+1,by simpa using k1,by simpa using k2⟩
  ·have e1:t.1=a:=(List.mem_cons.1 h1).resolve_right hm
   have h2':t.2∈r:=by
    rcases List.mem_cons.1 h2 with e | e
    ·rw[e1,e] at h3;exact absurd h3 (ltPq_irrefl _)
    ·exact e
   match r,hm,h2',ha,hr,h4 with
   |b::r,hm,h2',ha,hr,h4=>
    obtain⟨hb,_⟩:=List.pairwise_cons.1 hr
    simp only[cmpPq_lt] at hb
    have hab:ltPq a b:=by
     rcases ltPq_tri a b with h | h | h
     ·exact h
     ·exact absurd (by rw[e1,h];exact List.mem_cons_self) hm
     ·exact absurd h (ha b List.mem_cons_self)
    have e2:t.2=b:=by
     rcases List.mem_cons.1 h2' with e | e
     ·exact e
     ·rcases ltPq_tri t.2 b with h | h | h
      ·exact absurd h (hb _ e)
      ·exact h
      ·exact absurd ⟨by rw[e1];exact hab,h⟩ (h4 b (by simp))
    exact⟨0,by simp,Prod.ext (by simpa using e1) (by simpa using e2)⟩
theorem sum_succ (f:Nat→Nat) (m:Nat):((List.range (m+1)).map f).sum=((List.range m).map f).sum+f m:=by
 simp only[List.range_succ,List.map_append,List.sum_append,List.map_cons,List.map_nil,List.sum_cons,List.sum_nil,Nat.add_zero]
theorem sum_mono (f:Nat→Nat) {m n:Nat} (h:m≤n):((List.range m).map f).sum≤((List.range n).map f).sum:=by
 induction n with
 |zero=>
  have:m=0:=by omega
  subst this;exact Nat.le_refl _
 |succ n ih=>
  rw[sum_succ]
  rcases Nat.lt_or_ge m (n+1) with k | k
  ·have:=ih (by omega);omega
  ·have:m=n+1:=by omega
   subst this
   rw[sum_succ]
   exact Nat.le_refl _
theorem le_sum (f:Nat→Nat) {i n:Nat} (h:i<n):f i≤((List.range n).map f).sum:=by
 have h1:=sum_mono f (show i+1≤n from h)
 rw[sum_succ] at h1
 omega
theorem OutQ.start (C:Nat→List Pq):OutQ C 0 []:=⟨fun t=>by simp,by simp⟩
section
variable {C:Nat→List Pq} {m i:Nat} {c:List Pq} {O:List Sq}
theorem OutI.start (h:OutQ C m O) (hp:c.Perm (C m)) (hr:c.Pairwise (fun p q=>¬ cmpPq q p<0)) (h2:2≤(C m).length):OutI C m 1 c O:=by
 refine⟨hp,hr,Nat.le_refl _,by rw[hp.length_eq];omega,fun t=> ?_,by have:=h.len;omega⟩
 rw[h.mem]
 constructor
 ·exact .inl
 ·rintro (h | ⟨_,k,hk,_⟩)
  ·exact h
  ·omega
theorem OutI.push (h:OutI C m i c O) (hi:i<c.length) (hne:c.getD (i-1) (0,0)≠c.getD i (0,0)):OutI C m (i+1) c (O++[(c.getD (i-1) (0,0),c.getD i (0,0))]):=by
 have hlo:=h.lo
 have ei:i-1+1=i:=by omega
 refine⟨h.perm,h.ris,by omega,hi,fun t=> ?_,by have:=h.len;simp;omega⟩
 rw[List.mem_append,h.mem]
 simp only[List.mem_cons,List.not_mem_nil,or_false]
 constructor
 ·rintro ((k | ⟨k1,k,k2,k3⟩) | k)
  ·exact .inl k
  ·exact .inr ⟨k1,k,by omega,k3⟩
  ·refine .inr ⟨?_,i-1,by omega,by rw[ei];exact k⟩
   rw[← piece_same (fun p=>h.perm.mem_iff),k]
   have:=piece_of_adj h.ris (k:=i-1) (by omega) (by rw[ei];exact hne)
   rw[ei] at this
   exact this
 ·rintro (k | ⟨k1,k,k2,k3⟩)
  ·exact .inl (.inl k)
  ·rcases Nat.lt_or_ge (k+1) i with z | z
   ·exact .inl (.inr ⟨k1,k,z,k3⟩)
   ·have:k=i-1:=by omega
    subst this
    rw[ei] at k3
    exact .inr k3
theorem OutI.skip (h:OutI C m i c O) (hi:i<c.length) (he:c.getD (i-1) (0,0)=c.getD i (0,0)):OutI C m (i+1) c O:=by
 have hlo:=h.lo
 have ei:i-1+1=i:=by omega
 refine⟨h.perm,h.ris,by omega,hi,fun t=> ?_,by have:=h.len;omega⟩
 rw[h.mem]
 refine or_congr Iff.rfl (and_congr_right fun hP=>⟨?_,?_⟩)
 ·rintro⟨k,k2,k3⟩
  exact⟨k,by omega,k3⟩
 ·rintro⟨k,k2,k3⟩
  refine⟨k,?_,k3⟩
  rcases Nat.lt_or_ge (k+1) i with z | z
  ·exact z
  ·have:k=i-1:=by omega
   subst this
   rw[ei,he] at k3
   have:=hP.2.2.1
   rw[k3] at this
   exact absurd this (ltPq_irrefl _)
theorem OutI.fin (h:OutI C m i c O) (hi:i=c.length):OutQ C (m+1) O:=by
 subst hi
 refine⟨fun t=> ?_,by rw[sum_succ];have:=h.len;have:=h.perm.length_eq;omega⟩
 rw[h.mem]
 constructor
 ·rintro (⟨j,h1,h2⟩ | ⟨h1,_⟩)
  ·exact⟨j,by omega,h2⟩
  ·exact⟨m,by omega,h1⟩
 ·rintro⟨j,h1,h2⟩
  rcases Nat.lt_or_ge j m with z | z
  ·exact .inl ⟨j,z,h2⟩
  ·have:j=m:=by omega
   subst this
   exact .inr ⟨h2,adj_of_piece h.ris ((piece_same (fun p=>h.perm.mem_iff) t).2 h2)⟩
end
theorem dedF_mem (t:Sq):∀ (r:List Sq) (p:Sq),t∈p::dedF p r↔t∈p::r
 |[],p=>Iff.rfl
 |x::r,p=>by
  have ih:=dedF_mem t r x
  simp only[dedF]
  split
  ·rename_i h
   have e:=(cmpSq_eq x p).1 h
   subst e
   rw[ih]
   simp
  ·rw[List.mem_cons,ih,List.mem_cons (b:=p)]
theorem dedA_mem (t:Sq) (l:List Sq):t∈dedA l↔t∈l:=by
 match l with
 |[]=>exact Iff.rfl
 |a::r=>exact dedF_mem t r a
theorem dedF_sorted:∀ (r:List Sq) (p:Sq),(p::r).Pairwise (fun p q=>¬ cmpSq q p<0)→(p::dedF p r).Pairwise ltSq
 |[],p,_=>by simp[dedF]
 |x::r,p,h=>by
  obtain⟨h1,h2⟩:=List.pairwise_cons.1 h
  have ih:=dedF_sorted r x h2
  simp only[dedF]
  split
  ·rename_i he
   have e:=(cmpSq_eq x p).1 he
   subst e
   exact ih
  ·rename_i he
   have hlt:ltSq p x:=by
    have h3:=h1 x List.mem_cons_self
    rw[cmpSq_lt] at h3
    rcases ltSq_tri p x with k | k | k
    ·exact k
    ·exact absurd ((cmpSq_eq x p).2 k.symm) he
    ·exact absurd k h3
   refine List.pairwise_cons.2 ⟨fun y hy=> ?_,ih⟩
   rcases List.mem_cons.1 hy with rfl | hy
   ·exact hlt
   ·exact ltSq_trans hlt ((List.pairwise_cons.1 ih).1 y hy)
theorem dedA_sorted {l:List Sq} (h:l.Pairwise (fun p q=>¬ cmpSq q p<0)):(dedA l).Pairwise ltSq:=by
 match l,h with
 |[],_=>exact List.Pairwise.nil
 |a::r,h=>exact dedF_sorted r a h
theorem sorted_uniq:∀ {l m:List Sq},l.Pairwise ltSq→m.Pairwise ltSq→(∀ t,t∈l↔t∈m)→l=m
 |[],[],_,_,_=>rfl
 |[],b::m,_,_,h=>by have:=(h b).2 List.mem_cons_self;cases this
 |a::l,[],_,_,h=>by have:=(h a).1 List.mem_cons_self;cases this
 |a::l,b::m,hl,hm,h=>by
  obtain⟨h1,h2⟩:=List.pairwise_cons.1 hl
  obtain⟨k1,k2⟩:=List.pairwise_cons.1 hm
  have e:a=b:=by
   rcases List.mem_cons.1 ((h a).1 List.mem_cons_self) with e | e
   ·exact e
   ·rcases List.mem_cons.1 ((h b).2 List.mem_cons_self) with z | z
    ·exact z.symm
    ·exact absurd (ltSq_trans (h1 b z) (k1 a e)) (ltSq_irrefl _)
  subst e
  rw[sorted_uniq h2 k2 fun t=>⟨fun ht=> ?_,fun ht=> ?_⟩]
  ·rcases List.mem_cons.1 ((h t).1 (List.mem_cons_of_mem _ ht)) with e | e
   ·subst e;exact absurd (h1 t ht) (ltSq_irrefl _)
   ·exact e
  ·rcases List.mem_cons.1 ((h t).2 (List.mem_cons_of_mem _ ht)) with e | e
   ·subst e;exact absurd (k1 t ht) (ltSq_irrefl _)
   ·exact e
theorem ofP_eq {l O:List Sq} (h:IsOf l O):ofP l=O:=by
 have hx:∃ O,IsOf l O:=⟨O,h⟩
 have e:ofP l=Classical.choose hx:=dif_pos hx
 have hc:=Classical.choose_spec hx
 rw[e]
 exact sorted_uniq hc.1 h.1 fun t=>by rw[hc.2,h.2]
theorem IsPc_iff {l:List Sq} {C:Nat→List Pq} (h:∀ i,i<l.length→∀ p,p∈C i↔CutS l i p) (t:Sq):IsPc l t↔∃ j,j<l.length∧PieceQ (C j) t:=by
 constructor
 ·rintro⟨i,h0,h1,h2,h3,h4⟩
  exact⟨i,h0,(h i h0 _).2 h1,(h i h0 _).2 h2,h3,fun p hp=>h4 p ((h i h0 p).1 hp)⟩
 ·rintro⟨i,h0,h1,h2,h3,h4⟩
  exact⟨i,h0,(h i h0 _).1 h1,(h i h0 _).1 h2,h3,fun p hp=>h4 p ((h i h0 p).2 hp)⟩
theorem IsOf.fin {l:List Sq} {C:Nat→List Pq} {O O':List Sq} (hl:l.length≤20000) (hC:∀ i,i<l.length→∀ p,p∈C i↔CutS l i p) (hO:∀ t,t∈O↔∃ j,j<l.length∧PieceQ (C j) t) (hp:O'.Perm O) (hs:O'.Pairwise (fun p q=>¬ cmpSq q p<0)):IsOf l (dedA O'):=by
 refine⟨dedA_sorted hs,fun t=> ?_⟩
 rw[dedA_mem,hp.mem_iff,hO,← IsPc_iff hC]
 exact⟨fun h=>⟨hl,h⟩,fun h=>h.2⟩
theorem IsOf.long {l:List Sq} (h:20000<l.length):IsOf l []:=⟨List.Pairwise.nil,fun t=>⟨fun k=>(List.not_mem_nil k).elim,fun k=>by omega⟩⟩
theorem ofP_is (l:List Sq):IsOf l (ofP l):=by
 rcases Nat.lt_or_ge 20000 l.length with h | h
 ·rw[ofP_eq (IsOf.long h)]
  exact IsOf.long h
 ·let C:Nat→List Pq:=fun i=>(l.getD i sq0).1::(l.getD i sq0).2::(List.range l.length).flatMap fun k=>if k=i then [] else meetQ (l.getD i sq0) (l.getD k sq0)
  have hC:∀ i,i<l.length→∀ p,p∈C i↔CutS l i p:=fun i hi p=>by
   simp only[C,List.mem_cons,List.mem_flatMap,List.mem_range]
   refine or_congr Iff.rfl (or_congr Iff.rfl ⟨?_,?_⟩)
   ·rintro⟨k,h1,h2⟩
    split at h2
    ·cases h2
    ·rename_i e;exact⟨k,h1,e,h2⟩
   ·rintro⟨k,h1,e,h2⟩
    exact⟨k,h1,by rw[if_neg e];exact h2⟩
  let all:List Sq:=(List.range l.length).flatMap fun i=>((C i).flatMap fun p=>(C i).map fun q=>(p,q)).filter fun t=>@decide (PieceQ (C i) t) (Classical.propDecidable _)
  have hO:∀ t,t∈all↔∃ j,j<l.length∧PieceQ (C j) t:=fun t=>by
   simp only[all,List.mem_flatMap,List.mem_range,List.mem_filter,decide_eq_true_eq]
   constructor
   ·rintro⟨i,h1,_,h2⟩
    exact⟨i,h1,h2⟩
   ·rintro⟨i,h1,h2⟩
    exact⟨i,h1,⟨t.1,h2.1,by rw[List.mem_map];exact⟨t.2,h2.2.1,rfl⟩⟩,h2⟩
  let le:Sq→Sq→Bool:=fun p q=>decide (¬ cmpSq q p<0)
  have hs:(all.mergeSort le).Pairwise (fun p q=>¬ cmpSq q p<0):=by
   have:=List.pairwise_mergeSort (le:=le) (fun a b c h1 h2=>by
    simp only[le,decide_eq_true_eq,cmpSq_lt] at h1 h2 ⊢
    intro k
    rcases ltSq_tri b a with z | z | z
    ·exact h1 z
    ·rw[z] at h2;exact h2 k
    ·exact h2 (ltSq_trans k z)) (fun a b=>by
    simp only[le,Bool.or_eq_true,decide_eq_true_eq,cmpSq_lt]
    rcases ltSq_tri a b with z | z | z
    ·exact .inl fun k=>ltSq_irrefl _ (ltSq_trans z k)
    ·rw[z];exact .inl (ltSq_irrefl _)
    ·exact .inr fun k=>ltSq_irrefl _ (ltSq_trans z k)) all
   refine this.imp fun h=> ?_
   simpa only[le,decide_eq_true_eq] using h
  have:=IsOf.fin h hC hO (List.mergeSort_perm all le) hs
  rw[ofP_eq this]
  exact this
end Go.Proofs.YtmagoiniahpofaaGreat
