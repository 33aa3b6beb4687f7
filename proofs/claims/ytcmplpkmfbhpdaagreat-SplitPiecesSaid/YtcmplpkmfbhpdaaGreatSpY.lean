import Derived.Test.YtcmplpkmfbhpdaaGreatSpX
namespace Go.Proofs.YtcmplpkmfbhpdaaGreat
open Go Go.RowKit
theorem al0 (q p:Rat):abg q p<=0↔q<=p:=by
 have:=ahF q p;constructor
 ·intro h;have:¬ p<q:=λk=>by have:=(ahF q p).2 k;omega
  grind
 ·intro h;have:¬ 0<abg q p:=λk=>by have:=(ahF q p).1 k;grind
  omega
def ad9 (a b u:Rat):Prop:=(a<=u/\u<=b)\/(b<=u/\u<=a)
theorem ajj (a b:Rat):ad9 a b a:=by unfold ad9;grind
theorem ahg (a b:Rat):ad9 a b b:=by unfold ad9;grind
theorem acY {a b k:Rat} (h0:0<=k) (h1:k<=1):ad9 a b (a+(b-a)*k):=by
 unfold ad9;rcases Rat.le_total (a:=a) (b:=b) with h | h
 ·have p1:=Rat.mul_nonneg (show 0<=b-a by grind) h0;have p2:=Rat.mul_nonneg (show 0<=b-a by grind) (show 0<=1-k by grind);left;constructor<;>grind
 ·have p1:=Rat.mul_nonneg (show 0<=a-b by grind) h0;have p2:=Rat.mul_nonneg (show 0<=a-b by grind) (show 0<=1-k by grind);right;constructor<;>grind
theorem axQ {S:Rat} (hS:0<S):0<=S⁻¹ :=by
 have h2:S*S⁻¹ =1:=Rat.mul_inv_cancel S (by grind);rcases Rat.le_total (a:=0) (b:=S⁻¹) with h | h
 ·exact h
 ·have p:=Rat.mul_nonneg (Rat.le_of_lt hS) (show 0<=0-S⁻¹ by grind);grind
theorem anG {a S:Rat} (hS:0<S) (h:0<=a):0<=a/S:=by
 rw[Rat.div_def];exact Rat.mul_nonneg h (axQ hS)
theorem aor {a S:Rat} (hS:0<S) (h:a<=S):a/S<=1:=by
 have h1:=anG hS (show 0<=S-a by grind);have h2:S*S⁻¹ =1:=Rat.mul_inv_cancel S (by grind);rw[Rat.div_def] at *;grind
theorem asP {z w S:Rat} (hS:S≠0) (h:z*S=w):z=w/S:=by
 rw[Rat.div_def,<- h,Rat.mul_assoc,Rat.mul_inv_cancel S hS,Rat.mul_one]
theorem al2 {a b c e:Rat} (h:aaW a b c e<=0):a<c\/(a=c/\b<=e):=by
 unfold aaW at h;split at h
 ·rename_i k;have:=afT a c;exact .inl (this.1 (by omega))
 ·rename_i k;have:=(acn a c).1 (by omega);exact .inr ⟨this,(al0 b e).1 h⟩
theorem aj1 {x1 y1 x2 y2 x y:Rat} (h:onB x1 y1 x2 y2 x y=true):ad9 x1 x2 x/\ad9 y1 y2 y:=by
 unfold onB abY at h;simp only[Bool.and_eq_true,decide_eq_true_eq,beq_iff_eq] at h;obtain⟨⟨h1,h2⟩,h3⟩:=h;have h3:=(acn _ _).1 h3;have h1:=al2 h1;have h2:=al2 h2;have bx:ad9 x1 x2 x/\(x1=x2->ad9 y1 y2 y):=by
  unfold ac9 at h1 h2;unfold ad9;split at h1<;>rename_i k<;>simp only[k,if_true,if_false] at h2<;>grind
 refine⟨bx.1,?_⟩;by_cases e:x1=x2
 ·exact bx.2 e
 ·have hne:x2-x1≠0:=by grind
  have hy:y=y1+(y2-y1)*((x-x1)/(x2-x1)):=by
   have hk:(x-x1)/(x2-x1)*(x2-x1)=x-x1:=Rat.div_mul_cancel hne;generalize (x-x1)/(x2-x1)=t at *;have:(y-(y1+(y2-y1)*t))*(x2-x1)=0:=by
    have e:(y-(y1+(y2-y1)*t))*(x2-x1)=(x2-x1)*(y-y1)-(y2-y1)*(t*(x2-x1)):=by grind
    rw[e,hk];grind
   rcases Rat.mul_eq_zero.1 this with h | h
   ·grind
   ·exact absurd h hne
  have hx:=bx.1;rw[hy];refine acY ?_ ?_
  ·rcases hx with ⟨a1,a2⟩ | ⟨a1,a2⟩
   ·exact anG (by grind) (by grind)
   ·have:(x-x1)/(x2-x1)=(x1-x)/(x1-x2):=by
     refine asP (by grind) ?_;have hk:(x-x1)/(x2-x1)*(x2-x1)=x-x1:=Rat.div_mul_cancel hne;generalize (x-x1)/(x2-x1)=t at *;grind
    rw[this];exact anG (by grind) (by grind)
  ·rcases hx with ⟨a1,a2⟩ | ⟨a1,a2⟩
   ·exact aor (by grind) (by grind)
   ·have:(x-x1)/(x2-x1)=(x1-x)/(x1-x2):=by
     refine asP (by grind) ?_;have hk:(x-x1)/(x2-x1)*(x2-x1)=x-x1:=Rat.div_mul_cancel hne;generalize (x-x1)/(x2-x1)=t at *;grind
    rw[this];exact aor (by grind) (by grind)
theorem aph {x1 y1 x2 y2 x3 y3 x4 y4:Rat} (h:0<(ab9 x1 y1 x2 y2 x3 y3 x4 y4).length):∃ x y,(ad9 x1 x2 x/\ad9 y1 y2 y)/\ad9 x3 x4 x/\ad9 y3 y4 y:=by
 unfold ab9 at h;split at h
 ·rename_i hc;split at h
  ·simp at h
  ·rename_i hn;have i0:0<=ab8 x1 y1 x2 y2 x3 y3 x4 y4:=by grind
   have i1:ab8 x1 y1 x2 y2 x3 y3 x4 y4<=1:=by grind
   have k0:0<=acE x1 y1 x2 y2 x3 y3 x4 y4:=by grind
   have k1:acE x1 y1 x2 y2 x3 y3 x4 y4<=1:=by grind
   have hi:ab8 x1 y1 x2 y2 x3 y3 x4 y4*aaJ x1 y1 x2 y2 x3 y3 x4 y4=(x3-x1)*(y4-y3)-(y3-y1)*(x4-x3):=Rat.div_mul_cancel hc;have hk:acE x1 y1 x2 y2 x3 y3 x4 y4*aaJ x1 y1 x2 y2 x3 y3 x4 y4=(x3-x1)*(y2-y1)-(y3-y1)*(x2-x1):=Rat.div_mul_cancel hc;clear hn h;generalize ab8 x1 y1 x2 y2 x3 y3 x4 y4=I at *;generalize acE x1 y1 x2 y2 x3 y3 x4 y4=K at *;have ex:x1+(x2-x1)*I=x3+(x4-x3)*K:=by
    have:((x1+(x2-x1)*I)-(x3+(x4-x3)*K))*aaJ x1 y1 x2 y2 x3 y3 x4 y4=0:=by
     have e:((x1+(x2-x1)*I)-(x3+(x4-x3)*K))*aaJ x1 y1 x2 y2 x3 y3 x4 y4=(x1-x3)*aaJ x1 y1 x2 y2 x3 y3 x4 y4+(x2-x1)*(I*aaJ x1 y1 x2 y2 x3 y3 x4 y4)-(x4-x3)*(K*aaJ x1 y1 x2 y2 x3 y3 x4 y4):=by grind
     rw[e,hi,hk];unfold aaJ;grind
    rcases Rat.mul_eq_zero.1 this with h | h
    ·grind
    ·exact absurd h hc
   have ey:y1+(y2-y1)*I=y3+(y4-y3)*K:=by
    have:((y1+(y2-y1)*I)-(y3+(y4-y3)*K))*aaJ x1 y1 x2 y2 x3 y3 x4 y4=0:=by
     have e:((y1+(y2-y1)*I)-(y3+(y4-y3)*K))*aaJ x1 y1 x2 y2 x3 y3 x4 y4=(y1-y3)*aaJ x1 y1 x2 y2 x3 y3 x4 y4+(y2-y1)*(I*aaJ x1 y1 x2 y2 x3 y3 x4 y4)-(y4-y3)*(K*aaJ x1 y1 x2 y2 x3 y3 x4 y4):=by grind
     rw[e,hi,hk];unfold aaJ;grind
    rcases Rat.mul_eq_zero.1 this with h | h
    ·grind
    ·exact absurd h hc
   refine⟨_,_,⟨acY i0 i1,acY i0 i1⟩,?_,?_⟩
   ·rw[ex];exact acY k0 k1
   ·rw[ey];exact acY k0 k1
 ·match hl:aa4 x1 y1 x2 y2 x3 y3 x4 y4 with
  |[]=>rw[hl] at h;simp[amX] at h
  |p::l=>
   have hp:p∈aa4 x1 y1 x2 y2 x3 y3 x4 y4:=by rw[hl];simp
   have h2:=(List.mem_filter.1 hp).2;unfold on2 at h2;rw[Bool.and_eq_true] at h2;exact⟨p.1,p.2,aj1 h2.1,aj1 h2.2⟩
def acM (t u:Sq):List Pq:=ab9 t.1.1 t.1.2 t.2.1 t.2.2 u.1.1 u.1.2 u.2.1 u.2.2
theorem alD:∀ (l:List Pq) (o:Pq),adU l o∈o::l
 |[],o=>by simp[adU]
 |a::l,o=>by
  have:=alD l (if aaW a.1 a.2 o.1 o.2<0 then a else o);simp only[adU,List.foldl_cons] at this ⊢;split at this<;>simp_all<;>grind
theorem ai8:∀ (l:List Pq) (o:Pq),abU l o∈o::l
 |[],o=>by simp[abU]
 |a::l,o=>by
  have:=ai8 l (if 0<aaW a.1 a.2 o.1 o.2 then a else o);simp only[abU,List.foldl_cons] at this ⊢;split at this<;>simp_all<;>grind
theorem afq (p q:Pq):0<abL p q↔ab7 q p:=by
 have h1:=abP p q;have h2:=abD p q;have h3:=aa8 p q;have h4:=aaB q;constructor
 ·intro h;rcases h3 with k | k | k
  ·have:=h1.2 k;omega
  ·have:=h2.2 k;omega
  ·exact k
 ·intro h;have n1:¬ abL p q<0:=λk=>h4 (aaT h (h1.1 k));have n2:abL p q≠0:=λk=>by have:=h2.1 k;subst this;exact h4 h
  omega
theorem aoj:∀ (l:List Pq) (o q:Pq),q∈o::l->¬ ab7 q (adU l o)
 |[],o,q,h=>by
  simp only[List.mem_cons,List.not_mem_nil,or_false] at h;subst h;exact aaB _
 |a::l,o,q,h=>by
  show ¬ ab7 q (adU l (if aaW a.1 a.2 o.1 o.2<0 then a else o));have ih:=aoj l;have hc:=abP a o;unfold abL at hc;by_cases hk:aaW a.1 a.2 o.1 o.2<0
  ·rw[if_pos hk];have h0:=ih a a List.mem_cons_self;rcases List.mem_cons.1 h with rfl | h
   ·intro k;exact h0 (aaT (hc.1 hk) k)
   ·exact ih a q h
  ·rw[if_neg hk];have h0:=ih o o List.mem_cons_self;have hn:¬ ab7 a o:=λe=>hk (hc.2 e);rcases List.mem_cons.1 h with rfl | h
   ·exact h0
   ·rcases List.mem_cons.1 h with rfl | h
    ·intro k;rcases aa8 q o with e | e | e
     ·exact hn e
     ·rw[e] at k;exact h0 k
     ·exact h0 (aaT e k)
    ·exact ih o q (List.mem_cons_of_mem _ h)
theorem alN:∀ (l:List Pq) (o q:Pq),q∈o::l->¬ ab7 (abU l o) q
 |[],o,q,h=>by
  simp only[List.mem_cons,List.not_mem_nil,or_false] at h;subst h;exact aaB _
 |a::l,o,q,h=>by
  show ¬ ab7 (abU l (if 0<aaW a.1 a.2 o.1 o.2 then a else o)) q;have ih:=alN l;have hc:=afq a o;unfold abL at hc;by_cases hk:0<aaW a.1 a.2 o.1 o.2
  ·rw[if_pos hk];have h0:=ih a a List.mem_cons_self;rcases List.mem_cons.1 h with rfl | h
   ·intro k;exact h0 (aaT k (hc.1 hk))
   ·exact ih a q h
  ·rw[if_neg hk];have h0:=ih o o List.mem_cons_self;have hn:¬ ab7 o a:=λe=>hk (hc.2 e);rcases List.mem_cons.1 h with rfl | h
   ·exact h0
   ·rcases List.mem_cons.1 h with rfl | h
    ·intro k;rcases aa8 o q with e | e | e
     ·exact hn e
     ·rw[<- e] at k;exact h0 k
     ·exact h0 (aaT k e)
    ·exact ih o q (List.mem_cons_of_mem _ h)
theorem adK (l:List Pq) (h:l≠[]):∃ a b,a∈l/\b∈l/\(∀ q∈l,¬ ab7 q a/\¬ ab7 b q)/\amX l=if a=b then [a] else [a,b]:=by
 have e:(l.getD 0 (0,0))::l.tail=l:=by cases l with | nil=>exact absurd rfl h | cons a r=>rfl
 have m0:∀ q:Pq,q∈l.getD 0 (0,0)::l->q∈l:=λq hq=>by
  rcases List.mem_cons.1 hq with rfl | hq
  ·rw[<- e];simp
  ·exact hq
 refine⟨adU l (l.getD 0 (0,0)),abU l (l.getD 0 (0,0)),m0 _ (alD _ _),m0 _ (ai8 _ _),λq hq=>⟨aoj _ _ _ (List.mem_cons_of_mem _ hq),alN _ _ _ (List.mem_cons_of_mem _ hq)⟩,?_⟩;unfold amX;rw[if_neg h];have hc:=abD (adU l (l.getD 0 (0,0))) (abU l (l.getD 0 (0,0)));unfold abL at hc;by_cases k:adU l (l.getD 0 (0,0))=abU l (l.getD 0 (0,0))
 ·rw[if_pos (hc.2 k),if_pos k]
 ·rw[if_neg (λz=>k (hc.1 z)),if_neg k]
theorem apz {l l':List Pq} (h:∀ p,p∈l↔p∈l'):amX l=amX l':=by
 by_cases e:l=[]
 ·have:l'=[]:=List.eq_nil_iff_forall_not_mem.2 λp hp=>by have:=(h p).2 hp;rw[e] at this;cases this
  rw[e,this]
 ·have e':l'≠[]:=λk=>e (List.eq_nil_iff_forall_not_mem.2 λp hp=>by have:=(h p).1 hp;rw[k] at this;cases this);obtain⟨a,b,h1,h2,h3,h4⟩:=adK l e;obtain⟨a',b',k1,k2,k3,k4⟩:=adK l' e';have ea:a=a':=by
   rcases aa8 a a' with z | z | z
   ·exact absurd z (k3 a ((h a).1 h1)).1
   ·exact z
   ·exact absurd z (h3 a' ((h a').2 k1)).1
  have eb:b=b':=by
   rcases aa8 b b' with z | z | z
   ·exact absurd z (h3 b' ((h b').2 k2)).2
   ·exact z
   ·exact absurd z (k3 b ((h b).1 h2)).2
  rw[h4,k4,ea,eb]
theorem apH (x1 y1 x2 y2 x3 y3 x4 y4:Rat):aaJ x3 y3 x4 y4 x1 y1 x2 y2= - aaJ x1 y1 x2 y2 x3 y3 x4 y4:=by
 unfold aaJ;grind
theorem ahT (t u:Sq):acM t u=acM u t:=by
 obtain⟨⟨x1,y1⟩,x2,y2⟩:=t;obtain⟨⟨x3,y3⟩,x4,y4⟩:=u;show ab9 x1 y1 x2 y2 x3 y3 x4 y4=ab9 x3 y3 x4 y4 x1 y1 x2 y2;have hcs:=apH x1 y1 x2 y2 x3 y3 x4 y4;unfold ab9;by_cases hc:aaJ x1 y1 x2 y2 x3 y3 x4 y4=0
 ·rw[if_neg (by simpa using hc),if_neg (by rw[hcs,hc];simp)];refine apz λp=> ?_;unfold aa4 adf on2;simp only[List.mem_filter,List.mem_cons,List.not_mem_nil,or_false,Bool.and_eq_true];grind
 ·have hc':aaJ x3 y3 x4 y4 x1 y1 x2 y2≠0:=by rw[hcs];grind
  rw[if_pos hc,if_pos hc'];have hi:ab8 x1 y1 x2 y2 x3 y3 x4 y4*aaJ x1 y1 x2 y2 x3 y3 x4 y4=(x3-x1)*(y4-y3)-(y3-y1)*(x4-x3):=Rat.div_mul_cancel hc;have hk:acE x1 y1 x2 y2 x3 y3 x4 y4*aaJ x1 y1 x2 y2 x3 y3 x4 y4=(x3-x1)*(y2-y1)-(y3-y1)*(x2-x1):=Rat.div_mul_cancel hc;have canc:∀ a b:Rat,(a-b)*aaJ x1 y1 x2 y2 x3 y3 x4 y4=0->a=b:=λa b h=>by
   rcases Rat.mul_eq_zero.1 h with h | h
   ·grind
   ·exact absurd h hc
  have hi':ab8 x3 y3 x4 y4 x1 y1 x2 y2=acE x1 y1 x2 y2 x3 y3 x4 y4:=by
   have h1:ab8 x3 y3 x4 y4 x1 y1 x2 y2*aaJ x3 y3 x4 y4 x1 y1 x2 y2=(x1-x3)*(y2-y1)-(y1-y3)*(x2-x1):=Rat.div_mul_cancel hc';rw[hcs] at h1;generalize ab8 x3 y3 x4 y4 x1 y1 x2 y2=I at *;generalize acE x1 y1 x2 y2 x3 y3 x4 y4=K at *;generalize aaJ x1 y1 x2 y2 x3 y3 x4 y4=C at *;exact canc _ _ (by grind)
  have hk':acE x3 y3 x4 y4 x1 y1 x2 y2=ab8 x1 y1 x2 y2 x3 y3 x4 y4:=by
   have h1:acE x3 y3 x4 y4 x1 y1 x2 y2*aaJ x3 y3 x4 y4 x1 y1 x2 y2=(x1-x3)*(y4-y3)-(y1-y3)*(x4-x3):=Rat.div_mul_cancel hc';rw[hcs] at h1;generalize acE x3 y3 x4 y4 x1 y1 x2 y2=I at *;generalize ab8 x1 y1 x2 y2 x3 y3 x4 y4=K at *;generalize aaJ x1 y1 x2 y2 x3 y3 x4 y4=C at *;exact canc _ _ (by grind)
  rw[hi',hk'];generalize ab8 x1 y1 x2 y2 x3 y3 x4 y4=I at *;generalize acE x1 y1 x2 y2 x3 y3 x4 y4=K at *;have ex:x1+(x2-x1)*I=x3+(x4-x3)*K:=by
   refine canc _ _ ?_;have e:((x1+(x2-x1)*I)-(x3+(x4-x3)*K))*aaJ x1 y1 x2 y2 x3 y3 x4 y4=(x1-x3)*aaJ x1 y1 x2 y2 x3 y3 x4 y4+(x2-x1)*(I*aaJ x1 y1 x2 y2 x3 y3 x4 y4)-(x4-x3)*(K*aaJ x1 y1 x2 y2 x3 y3 x4 y4):=by grind
   rw[e,hi,hk];unfold aaJ;grind
  have ey:y1+(y2-y1)*I=y3+(y4-y3)*K:=by
   refine canc _ _ ?_;have e:((y1+(y2-y1)*I)-(y3+(y4-y3)*K))*aaJ x1 y1 x2 y2 x3 y3 x4 y4=(y1-y3)*aaJ x1 y1 x2 y2 x3 y3 x4 y4+(y2-y1)*(I*aaJ x1 y1 x2 y2 x3 y3 x4 y4)-(y4-y3)*(K*aaJ x1 y1 x2 y2 x3 y3 x4 y4):=by grind
   rw[e,hi,hk];unfold aaJ;grind
  rw[ex,ey];have hiff:(I<0\/1<I\/K<0\/1<K)↔(K<0\/1<K\/I<0\/1<I):=by grind
  by_cases h:I<0\/1<I\/K<0\/1<K
  ·rw[if_pos h,if_pos (hiff.1 h)]
  ·rw[if_neg h,if_neg (λz=>h (hiff.2 z))]
theorem ahU (t u:Sq):(acM t u).length<=2:=by
 unfold acM ab9;split
 ·split<;>simp
 ·unfold amX;split
  ·simp
  ·split<;>simp
theorem axG (a b:Rat):(lo2 a b<=a/\lo2 a b<=b)/\a<=hi2 a b/\b<=hi2 a b:=by
 unfold lo2 hi2 abn ltR gtR;simp only[List.foldl_cons,List.foldl_nil];grind
theorem ahG {a b u:Rat} (h:ad9 a b u):lo2 a b<=u/\u<=hi2 a b:=by
 have:=axG a b;unfold ad9 at h;grind
theorem ag3 {t u:Sq} (h:acM t u≠[]):adT (akC t) (akC u)=true/\(akC u).1.1<=(akC t).2.1:=by
 have h0:0<(ab9 t.1.1 t.1.2 t.2.1 t.2.2 u.1.1 u.1.2 u.2.1 u.2.2).length:=List.length_pos_iff.2 h;obtain⟨x,y,⟨h1,h2⟩,h3,h4⟩:=aph h0;have h1:=ahG h1;have h2:=ahG h2;have h3:=ahG h3;have h4:=ahG h4;unfold adT akC;simp only[Bool.and_eq_true,decide_eq_true_eq,al0];grind
end Go.Proofs.YtcmplpkmfbhpdaaGreat
namespace Go.Proofs.YtcmplpkmfbhpdaaGreat
open Go Go.RowKit
def bxL (l:List Sq):List Sq:=l.map akC
def Ris (l:List Sq) (r:List Int):Prop:=r.Perm ((List.range l.length).map λi:Nat=>(i:Int))/\r.Pairwise (λi j=>¬ ajv (bxL l) j i<0)
def rhoQ (r:List Int) (a:Nat):Nat:=(r.getD a 0).toNat
def az2 (n m a b:Nat):Prop:=a≠b/\((a<n\/b<n)\/(a=n/\b<n+1+m)\/(b=n/\a<n+1+m))
def mtQ (l:List Sq) (r:List Int) (n m:Nat):List Pq:=acM (l.getD (rhoQ r n) sq0) (l.getD (rhoQ r (n+1+m)) sq0)
structure aeY (l:List Sq) (r:List Int) (n m q:Nat) (C:Nat->List Pq):Prop where
 mem:∀ a,a<l.length->∀ p,p∈C (rhoQ r a)↔p=(l.getD (rhoQ r a) sq0).1\/p=(l.getD (rhoQ r a) sq0).2\/(∃ b,b<l.length/\az2 n m a b/\p∈acM (l.getD (rhoQ r a) sq0) (l.getD (rhoQ r b) sq0))\/((a=n\/a=n+1+m)/\p∈(mtQ l r n m).take q)
 two:∀ a,a<l.length->2<=(C (rhoQ r a)).length
 sum:((List.range l.length).map λj=>(C j).length).sum<=2*l.length+4*(n*20000+m)+2*q
def apW (l:List Sq) (i:Nat) (p:Pq):Prop:=p=(l.getD i sq0).1\/p=(l.getD i sq0).2\/∃ k,k<l.length/\k≠i/\p∈acM (l.getD i sq0) (l.getD k sq0)
structure ap0 (l:List Sq) (C:Nat->List Pq):Prop where
 mem:∀ i,i<l.length->∀ p,p∈C i↔apW l i p
 two:∀ i,i<l.length->2<=(C i).length
 sum:((List.range l.length).map λj=>(C j).length).sum<=10000000000
def abX (c:List Pq) (t:Sq):Prop:=t.1∈c/\t.2∈c/\ab7 t.1 t.2/\∀ p∈c,¬ (ab7 t.1 p/\ab7 p t.2)
structure apZ (C:Nat->List Pq) (m:Nat) (O:List Sq):Prop where
 mem:∀ t,t∈O↔∃ j,j<m/\abX (C j) t
 len:O.length<=((List.range m).map λj=>(C j).length).sum
structure ajw (C:Nat->List Pq) (m i:Nat) (c:List Pq) (O:List Sq):Prop where
 perm:c.Perm (C m)
 ris:c.Pairwise (λp q=>¬ abL q p<0)
 lo:1<=i
 hi:i<=c.length
 mem:∀ t,t∈O↔(∃ j,j<m/\abX (C j) t)\/(abX (C m) t/\∃ k,k+1<i/\t=(c.getD k (0,0),c.getD (k+1) (0,0)))
 len:O.length+1<=((List.range m).map λj=>(C j).length).sum+i
def aAA (l:List Sq) (t:Sq):Prop:=∃ i,i<l.length/\apW l i t.1/\apW l i t.2/\ab7 t.1 t.2/\∀ p,apW l i p->¬ (ab7 t.1 p/\ab7 p t.2)
def amT (l:List Sq) (O:List Sq):Prop:=O.Pairwise agA/\∀ t,t∈O↔l.length<=20000/\aAA l t
noncomputable def ofP (l:List Sq):List Sq:=@dite _ (∃ O,amT l O) (Classical.propDecidable _) (λh=>Classical.choose h) (λ_=>[])
theorem ahw {l:List Sq} {r:List Int} (h:Ris l r):r.length=l.length:=by simpa using h.1.length_eq
theorem ank {l:List Sq} {r:List Int} (h:Ris l r) {a:Nat} (ha:a<l.length):∃ x,r[a]? =some x/\r.getD a 0=x/\0<=x/\x<(l.length:Int):=by
 have hl:=ahw h;have ha':a<r.length:=by omega
 refine⟨r[a],List.getElem?_eq_getElem ha',by simp[List.getD,ha'],?_⟩;have:=h.1.mem_iff.1 (List.getElem_mem ha');simp only[List.mem_map,List.mem_range] at this;obtain⟨i,h1,h2⟩:=this;omega
theorem adi {l:List Sq} {r:List Int} (h:Ris l r) {a:Nat} (ha:a<l.length):rhoQ r a<l.length/\r.getD a 0=(rhoQ r a:Int):=by
 obtain⟨x,_,h1,h2,h3⟩:=ank h ha;unfold rhoQ;rw[h1];omega
theorem aoY {l:List Sq} {r:List Int} (h:Ris l r):r.Nodup:=by
 refine h.1.nodup_iff.2 ?_;refine List.Pairwise.map _ (λa b hab=> ?_) List.nodup_range;intro e;exact hab (by have:(a:Int)=(b:Int):=e;omega)
theorem afI {l:List Sq} {r:List Int} (h:Ris l r) {a b:Nat} (ha:a<l.length) (hb:b<l.length) (e:rhoQ r a=rhoQ r b):a=b:=by
 have h1:=(adi h ha).2;have h2:=(adi h hb).2;obtain⟨x,e1,e2,_⟩:=ank h ha;obtain⟨y,e3,e4,_⟩:=ank h hb;have exy:x=y:=by rw[<- e2,<- e4,h1,h2,e]
 have hl:=ahw h;have hn:=aoY h;have ha':a<r.length:=by omega
 have hb':b<r.length:=by omega
 rw[List.getElem?_eq_getElem ha'] at e1;rw[List.getElem?_eq_getElem hb'] at e3;have e5:r[a]=r[b]:=by rw[Option.some.inj e1,Option.some.inj e3,exy]
 rcases Nat.lt_trichotomy a b with k | k | k
 ·exact absurd e5 (List.pairwise_iff_getElem.1 hn a b ha' hb' k)
 ·exact k
 ·exact absurd e5.symm (List.pairwise_iff_getElem.1 hn b a hb' ha' k)
theorem ajR {l:List Sq} {r:List Int} (h:Ris l r) {i:Nat} (hi:i<l.length):∃ a,a<l.length/\rhoQ r a=i:=by
 have:(i:Int)∈r:=h.1.mem_iff.2 (by simp only[List.mem_map,List.mem_range];exact⟨i,hi,rfl⟩);obtain⟨a,ha,e⟩:=List.mem_iff_getElem.1 this;have hl:=ahw h;refine⟨a,by omega,?_⟩;simp[rhoQ,List.getD,ha,e]
theorem ajI {f g:Nat->Nat} {i d:Nat} : ∀ {n:Nat},i<n->(∀ j,j≠i->g j=f j)->g i=f i+d->((List.range n).map g).sum=((List.range n).map f).sum+d
 |0,h,_,_=>by omega
 |n+1,h,h1,h2=>by
  simp only[List.range_succ,List.map_append,List.sum_append,List.map_cons,List.map_nil,List.sum_cons,List.sum_nil,Nat.add_zero];by_cases e:i=n
  ·subst e;have:((List.range i).map g)=((List.range i).map f):=List.map_congr_left λj hj=>h1 j (by have:=List.mem_range.1 hj;omega);rw[this,h2];omega
  ·rw[ajI (n:=n) (by omega) h1 h2,h1 n (Ne.symm e)];omega
theorem anR:∀ (n:Nat),((List.range n).map λ_=>2).sum=2*n
 |0=>rfl
 |n+1=>by
  simp only[List.range_succ,List.map_append,List.sum_append,List.map_cons,List.map_nil,List.sum_cons,List.sum_nil,Nat.add_zero,anR n];omega
theorem aeY.start (l:List Sq) (r:List Int):aeY l r 0 0 0 (λj=>[(l.getD j sq0).1,(l.getD j sq0).2]):=by
 refine⟨λa ha p=> ?_,λa ha=>by simp,?_⟩
 ·simp only[List.mem_cons,List.not_mem_nil,or_false,List.take_zero,and_false];constructor
  ·rintro (h | h)
   ·exact .inl h
   ·exact .inr (.inl h)
  ·rintro (h | h | ⟨b,h1,⟨h2,h3⟩,h4⟩)
   ·exact .inl h
   ·exact .inr h
   ·exfalso;omega
 ·show ((List.range l.length).map λ_=>2).sum<=_;rw[anR];omega
def afy (C:Nat->List Pq) (i k:Nat) (p:Pq):Nat->List Pq:=λj=>if j=k then C k++[p] else if j=i then C i++[p] else C j
theorem aeY.step {l:List Sq} {r:List Int} {n m q:Nat} {C:Nat->List Pq} (h:aeY l r n m q C) (hr:Ris l r) (hm:n+1+m<l.length) (hq:q<(mtQ l r n m).length) :
  aeY l r n m (q+1) (afy C (rhoQ r n) (rhoQ r (n+1+m)) ((mtQ l r n m).getD q (0,0))):=by
 have hn:n<l.length:=by omega
 have hne:rhoQ r n≠rhoQ r (n+1+m):=λe=>by have:=afI hr hn hm e;omega
 have ht:∀ p,p∈(mtQ l r n m).take (q+1)↔p∈(mtQ l r n m).take q\/p=(mtQ l r n m).getD q (0,0):=λp=>by
  have e:(mtQ l r n m).getD q (0,0)=(mtQ l r n m)[q]:=by simp[List.getD,hq]
  rw[List.take_succ_eq_append_getElem hq,List.mem_append,e];simp only[List.mem_cons,List.not_mem_nil,or_false]
 have len:∀ j,(C j).length<=(afy C (rhoQ r n) (rhoQ r (n+1+m)) ((mtQ l r n m).getD q (0,0)) j).length:=λj=>by
  unfold afy;split
  ·rename_i e;rw[e];simp
  ·split
   ·rename_i e;rw[e];simp
   ·exact Nat.le_refl _
 refine⟨λa ha p=> ?_,λa ha=>Nat.le_trans (h.two a ha) (len _),?_⟩
 ·have hma:=h.mem a ha p;rw[ht];unfold afy;split
  ·rename_i e;have ea:=afI hr ha hm e;rw[List.mem_append,<- e,hma];simp only[List.mem_cons,List.not_mem_nil,or_false];subst ea;constructor
   ·rintro ((h | h | h | ⟨h1,h2⟩) | h)
    ·exact .inl h
    ·exact .inr (.inl h)
    ·exact .inr (.inr (.inl h))
    ·exact .inr (.inr (.inr ⟨h1,.inl h2⟩))
    ·exact .inr (.inr (.inr ⟨.inr rfl,.inr h⟩))
   ·rintro (h | h | h | ⟨h1,h2 | h2⟩)
    ·exact .inl (.inl h)
    ·exact .inl (.inr (.inl h))
    ·exact .inl (.inr (.inr (.inl h)))
    ·exact .inl (.inr (.inr (.inr ⟨h1,h2⟩)))
    ·exact .inr h2
  ·rename_i e0;split
   ·rename_i e;have ea:=afI hr ha hn e;rw[List.mem_append,<- e,hma];simp only[List.mem_cons,List.not_mem_nil,or_false];subst ea;constructor
    ·rintro ((h | h | h | ⟨h1,h2⟩) | h)
     ·exact .inl h
     ·exact .inr (.inl h)
     ·exact .inr (.inr (.inl h))
     ·exact .inr (.inr (.inr ⟨h1,.inl h2⟩))
     ·exact .inr (.inr (.inr ⟨.inl rfl,.inr h⟩))
    ·rintro (h | h | h | ⟨h1,h2 | h2⟩)
     ·exact .inl (.inl h)
     ·exact .inl (.inr (.inl h))
     ·exact .inl (.inr (.inr (.inl h)))
     ·exact .inl (.inr (.inr (.inr ⟨h1,h2⟩)))
     ·exact .inr h2
   ·rename_i e1;have n1:a≠n:=λe=>e1 (by rw[e]);have n2:a≠n+1+m:=λe=>e0 (by rw[e]);rw[hma];simp[n1,n2]
 ·have s1:((List.range l.length).map λj=>(if j=rhoQ r n then C (rhoQ r n)++[(mtQ l r n m).getD q (0,0)] else C j).length).sum=((List.range l.length).map λj=>(C j).length).sum+1:=
   ajI (adi hr hn).1 (λj hj=>by rw[if_neg hj]) (by simp)
  have s2:((List.range l.length).map λj=>(afy C (rhoQ r n) (rhoQ r (n+1+m)) ((mtQ l r n m).getD q (0,0)) j).length).sum=((List.range l.length).map λj=>(if j=rhoQ r n then C (rhoQ r n)++[(mtQ l r n m).getD q (0,0)] else C j).length).sum+1:=
   ajI (adi hr hm).1 (λj hj=>by unfold afy;rw[if_neg hj]) (by unfold afy;rw[if_pos rfl,if_neg (Ne.symm hne)];simp)
  have:=h.sum;omega
theorem aeY.pair {l:List Sq} {r:List Int} {n m q:Nat} {C:Nat->List Pq} (h:aeY l r n m q C) (hm:n+1+m<l.length) (hq:q=(mtQ l r n m).length):aeY l r n (m+1) 0 C:=by
 refine⟨λa ha p=> ?_,h.two,?_⟩
 ·rw[h.mem a ha p,hq,List.take_length];simp only[List.take_zero,List.not_mem_nil,and_false,or_false];refine or_congr Iff.rfl (or_congr Iff.rfl ⟨?_,?_⟩)
  ·rintro (⟨b,h1,⟨h2,h3⟩,h4⟩ | ⟨h1 | h1,h2⟩)
   ·exact⟨b,h1,⟨h2,by omega⟩,h4⟩
   ·subst h1;exact⟨a+1+m,hm,⟨by omega,by omega⟩,h2⟩
   ·subst h1;refine⟨n,by omega,⟨by omega,by omega⟩,?_⟩;rw[ahT];exact h2
  ·rintro⟨b,h1,⟨h2,h3⟩,h4⟩;by_cases e1:a=n/\b=n+1+m
   ·obtain⟨rfl,rfl⟩:=e1;exact .inr ⟨.inl rfl,h4⟩
   ·by_cases e2:b=n/\a=n+1+m
    ·obtain⟨rfl,rfl⟩:=e2;refine .inr ⟨.inr rfl,?_⟩;unfold mtQ;rw[ahT];exact h4
    ·exact .inl ⟨b,h1,⟨h2,by omega⟩,h4⟩
 ·have h1:=h.sum;have h2:(mtQ l r n m).length<=2:=ahU _ _;omega
theorem aul {S N n m:Nat} (h:S<=2*N+4*(n*20000+m)+2*0) (hm:m<=20000):S<=2*N+4*((n+1)*20000+0)+2*0:=by
 have:S<=2*N+4*(n*20000+20000):=by omega
 rw[Nat.add_mul,Nat.one_mul];exact this
theorem aeY.row {l:List Sq} {r:List Int} {n m:Nat} {C:Nat->List Pq} (h:aeY l r n m 0 C) (hm:m<=20000) (hb:∀ b,n+1+m<=b->b<l.length->acM (l.getD (rhoQ r n) sq0) (l.getD (rhoQ r b) sq0)=[]):aeY l r (n+1) 0 0 C:=by
 refine⟨λa ha p=> ?_,h.two,?_⟩;case refine_2=>exact aul h.sum hm
 rw[h.mem a ha p];simp only[List.take_zero,List.not_mem_nil,and_false,or_false];refine or_congr Iff.rfl (or_congr Iff.rfl ⟨?_,?_⟩)
 ·rintro⟨b,h1,⟨h2,h3⟩,h4⟩;exact⟨b,h1,⟨h2,by omega⟩,h4⟩
 ·rintro⟨b,h1,⟨h2,h3⟩,h4⟩;by_cases e1:a=n/\n+1+m<=b
  ·obtain⟨rfl,e⟩:=e1;rw[hb b e h1] at h4;cases h4
  ·by_cases e2:b=n/\n+1+m<=a
   ·obtain⟨rfl,e⟩:=e2;rw[ahT,hb a e ha] at h4;cases h4
   ·exact⟨b,h1,⟨h2,by omega⟩,h4⟩
theorem aeY.fin {l:List Sq} {r:List Int} {C:Nat->List Pq} (hl:l.length<=20000) (h:aeY l r l.length 0 0 C) (hr:Ris l r):ap0 l C:=by
 refine⟨λi hi p=> ?_,λi hi=> ?_,?_⟩
 ·obtain⟨a,ha,rfl⟩:=ajR hr hi;rw[h.mem a ha p];simp only[List.take_zero,List.not_mem_nil,and_false,or_false];refine or_congr Iff.rfl (or_congr Iff.rfl ⟨?_,?_⟩)
  ·rintro⟨b,h1,⟨h2,h3⟩,h4⟩;exact⟨rhoQ r b,(adi hr h1).1,λe=>h2 (afI hr ha h1 e.symm),h4⟩
  ·rintro⟨k,h1,h2,h4⟩;obtain⟨b,hb,rfl⟩:=ajR hr h1;exact⟨b,hb,⟨λe=>h2 (by rw[e]),by omega⟩,h4⟩
 ·obtain⟨a,ha,rfl⟩:=ajR hr hi;exact h.two a ha
 ·have:=h.sum;omega
theorem aun {l:List Sq} {r:List Int} (h:Ris l r) {n k b:Nat} (hk:k<=b) (hb:b<l.length) (hf:0<abg ((bxL l).getD (rhoQ r k) sq0).1.1 ((bxL l).getD (rhoQ r n) sq0).2.1) (hn:n<l.length) :
  acM (l.getD (rhoQ r n) sq0) (l.getD (rhoQ r b) sq0)=[]:=by
 refine Classical.byContradiction λhne=> ?_;have h1:=(ag3 hne).2;have bx:∀ a,a<l.length->(bxL l).getD (rhoQ r a) sq0=akC (l.getD (rhoQ r a) sq0):=λa ha=>by
  have:=(adi h ha).1;simp[bxL,List.getD,this]
 rw[ahF,bx n hn] at hf;have hle:((bxL l).getD (rhoQ r k) sq0).1.1<=((bxL l).getD (rhoQ r b) sq0).1.1:=by
  rcases Nat.lt_or_ge k b with hlt | hge
  ·have hl:=ahw h;have:=List.pairwise_iff_getElem.1 h.2 k b (by omega) (by omega) hlt;unfold ajv at this;rw[afT] at this;have e1:rhoQ r k=(r[k]'(by omega)).toNat:=by simp[rhoQ,List.getD,show k<r.length by omega]
   have e2:rhoQ r b=(r[b]'(by omega)).toNat:=by simp[rhoQ,List.getD,show b<r.length by omega]
   rw[e1,e2];grind
  ·have:k=b:=by omega
   rw[this];exact Rat.le_refl
 rw[bx b hb] at hle;grind
end Go.Proofs.YtcmplpkmfbhpdaaGreat
namespace Go.Proofs.YtcmplpkmfbhpdaaGreat
open Go Go.RowKit
theorem alQ {α:Type} {l:List α} {k:Nat} {d:α} (h:k<l.length):l.getD k d∈l:=by
 simp[List.getD,h]
theorem agZ {c c':List Pq} (h:∀ p,p∈c↔p∈c') (t:Sq):abX c t↔abX c' t:=by
 unfold abX;simp only[h]
theorem af1 {c:List Pq} (hs:c.Pairwise (λp q=>¬ abL q p<0)) {i j:Nat} (h:i<=j) (hj:j<c.length):¬ ab7 (c.getD j (0,0)) (c.getD i (0,0)):=by
 have e1:c.getD j (0,0)=c[j]:=by simp[List.getD,hj]
 have hi:i<c.length:=by omega
 have e2:c.getD i (0,0)=c[i]:=by simp[List.getD,hi]
 rw[e1,e2];rcases Nat.lt_or_ge i j with k | k
 ·have:=List.pairwise_iff_getElem.1 hs i j hi hj k;rw[abP] at this;exact this
 ·have:i=j:=by omega
  subst this;exact aaB _
theorem ae5 {c:List Pq} (hs:c.Pairwise (λp q=>¬ abL q p<0)) {k:Nat} (hk:k+1<c.length) (hne:c.getD k (0,0)≠c.getD (k+1) (0,0)):abX c (c.getD k (0,0),c.getD (k+1) (0,0)):=by
 refine⟨alQ (by omega),alQ hk,?_,λp hp=> ?_⟩
 ·rcases aa8 (c.getD k (0,0)) (c.getD (k+1) (0,0)) with h | h | h
  ·exact h
  ·exact absurd h hne
  ·exact absurd h (af1 hs (Nat.le_succ k) hk)
 ·rintro⟨h1,h2⟩;obtain⟨j,hj,e⟩:=List.mem_iff_getElem.1 hp;have e1:c.getD j (0,0)=p:=by rw[<- e];simp[List.getD,hj]
  rcases Nat.lt_or_ge k j with h | h
  ·exact absurd h2 (by rw[<- e1];exact af1 hs h hj)
  ·exact absurd h1 (by rw[<- e1];exact af1 hs h (by omega))
theorem adw:∀ {c:List Pq},c.Pairwise (λp q=>¬ abL q p<0)->∀ {t:Sq},abX c t->∃ k,k+1<c.length/\t=(c.getD k (0,0),c.getD (k+1) (0,0))
 |[],_,t,h=>by have:=h.1;cases this
 |a::r,hs,t,⟨h1,h2,h3,h4⟩=>by
  obtain⟨ha,hr⟩:=List.pairwise_cons.1 hs;simp only[abP] at ha;by_cases hm:t.1∈r
  ·have h2':t.2∈r:=by
    rcases List.mem_cons.1 h2 with e | e
    ·exact absurd (e ▸ h3) (ha _ hm)
    ·exact e
   obtain⟨k,k1,k2⟩:=adw hr ⟨hm,h2',h3,λp hp=>h4 p (List.mem_cons_of_mem _ hp)⟩;exact⟨k+1,by simpa using k1,by simpa using k2⟩
  ·have e1:t.1=a:=(List.mem_cons.1 h1).resolve_right hm;have h2':t.2∈r:=by
    rcases List.mem_cons.1 h2 with e | e
    ·rw[e1,e] at h3;exact absurd h3 (aaB _)
    ·exact e
   match r,hm,h2',ha,hr,h4 with
   |b::r,hm,h2',ha,hr,h4=>
    obtain⟨hb,_⟩:=List.pairwise_cons.1 hr;simp only[abP] at hb;have hab:ab7 a b:=by
     rcases aa8 a b with h | h | h
     ·exact h
     ·exact absurd (by rw[e1,h];exact List.mem_cons_self) hm
     ·exact absurd h (ha b List.mem_cons_self)
    have e2:t.2=b:=by
     rcases List.mem_cons.1 h2' with e | e
     ·exact e
     ·rcases aa8 t.2 b with h | h | h
      ·exact absurd h (hb _ e)
      ·exact h
      ·exact absurd ⟨by rw[e1];exact hab,h⟩ (h4 b (by simp))
    exact⟨0,by simp,Prod.ext (by simpa using e1) (by simpa using e2)⟩
theorem aeh (f:Nat->Nat) (m:Nat):((List.range (m+1)).map f).sum=((List.range m).map f).sum+f m:=by
 simp only[List.range_succ,List.map_append,List.sum_append,List.map_cons,List.map_nil,List.sum_cons,List.sum_nil,Nat.add_zero]
theorem ak3 (f:Nat->Nat) {m n:Nat} (h:m<=n):((List.range m).map f).sum<=((List.range n).map f).sum:=by
 induction n with
 |zero=>
  have:m=0:=by omega
  subst this;exact Nat.le_refl _
 |succ n ih=>
  rw[aeh];rcases Nat.lt_or_ge m (n+1) with k | k
  ·have:=ih (by omega);omega
  ·have:m=n+1:=by omega
   subst this;rw[aeh];exact Nat.le_refl _
theorem anx (f:Nat->Nat) {i n:Nat} (h:i<n):f i<=((List.range n).map f).sum:=by
 have h1:=ak3 f (show i+1<=n from h);rw[aeh] at h1;omega
theorem apZ.start (C:Nat->List Pq):apZ C 0 []:=⟨λt=>by simp,by simp⟩
section
variable {C:Nat->List Pq} {m i:Nat} {c:List Pq} {O:List Sq}
theorem ajw.start (h:apZ C m O) (hp:c.Perm (C m)) (hr:c.Pairwise (λp q=>¬ abL q p<0)) (h2:2<=(C m).length):ajw C m 1 c O:=by
 refine⟨hp,hr,Nat.le_refl _,by rw[hp.length_eq];omega,λt=> ?_,by have:=h.len;omega⟩;rw[h.mem];constructor
 ·exact .inl
 ·rintro (h | ⟨_,k,hk,_⟩)
  ·exact h
  ·omega
theorem ajw.push (h:ajw C m i c O) (hi:i<c.length) (hne:c.getD (i-1) (0,0)≠c.getD i (0,0)):ajw C m (i+1) c (O++[(c.getD (i-1) (0,0),c.getD i (0,0))]):=by
 have hlo:=h.lo;have ei:i-1+1=i:=by omega
 refine⟨h.perm,h.ris,by omega,hi,λt=> ?_,by have:=h.len;simp;omega⟩;rw[List.mem_append,h.mem];simp only[List.mem_cons,List.not_mem_nil,or_false];constructor
 ·rintro ((k | ⟨k1,k,k2,k3⟩) | k)
  ·exact .inl k
  ·exact .inr ⟨k1,k,by omega,k3⟩
  ·refine .inr ⟨?_,i-1,by omega,by rw[ei];exact k⟩;rw[<- agZ (λp=>h.perm.mem_iff),k];have:=ae5 h.ris (k:=i-1) (by omega) (by rw[ei];exact hne);rw[ei] at this;exact this
 ·rintro (k | ⟨k1,k,k2,k3⟩)
  ·exact .inl (.inl k)
  ·rcases Nat.lt_or_ge (k+1) i with z | z
   ·exact .inl (.inr ⟨k1,k,z,k3⟩)
   ·have:k=i-1:=by omega
    subst this;rw[ei] at k3;exact .inr k3
theorem ajw.skip (h:ajw C m i c O) (hi:i<c.length) (he:c.getD (i-1) (0,0)=c.getD i (0,0)):ajw C m (i+1) c O:=by
 have hlo:=h.lo;have ei:i-1+1=i:=by omega
 refine⟨h.perm,h.ris,by omega,hi,λt=> ?_,by have:=h.len;omega⟩;rw[h.mem];refine or_congr Iff.rfl (and_congr_right λhP=>⟨?_,?_⟩)
 ·rintro⟨k,k2,k3⟩;exact⟨k,by omega,k3⟩
 ·rintro⟨k,k2,k3⟩;refine⟨k,?_,k3⟩;rcases Nat.lt_or_ge (k+1) i with z | z
  ·exact z
  ·have:k=i-1:=by omega
   subst this;rw[ei,he] at k3;have:=hP.2.2.1;rw[k3] at this;exact absurd this (aaB _)
theorem ajw.fin (h:ajw C m i c O) (hi:i=c.length):apZ C (m+1) O:=by
 subst hi;refine⟨λt=> ?_,by rw[aeh];have:=h.len;have:=h.perm.length_eq;omega⟩;rw[h.mem];constructor
 ·rintro (⟨j,h1,h2⟩ | ⟨h1,_⟩)
  ·exact⟨j,by omega,h2⟩
  ·exact⟨m,by omega,h1⟩
 ·rintro⟨j,h1,h2⟩;rcases Nat.lt_or_ge j m with z | z
  ·exact .inl ⟨j,z,h2⟩
  ·have:j=m:=by omega
   subst this;exact .inr ⟨h2,adw h.ris ((agZ (λp=>h.perm.mem_iff) t).2 h2)⟩
end
theorem alX (t:Sq):∀ (r:List Sq) (p:Sq),t∈p::al7 p r↔t∈p::r
 |[],p=>Iff.rfl
 |x::r,p=>by
  have ih:=alX t r x;simp only[al7];split
  ·rename_i h;have e:=(afp x p).1 h;subst e;rw[ih];simp
  ·rw[List.mem_cons,ih,List.mem_cons (b:=p)]
theorem arG (t:Sq) (l:List Sq):t∈ady l↔t∈l:=by
 match l with
 |[]=>exact Iff.rfl
 |a::r=>exact alX t r a
theorem agt:∀ (r:List Sq) (p:Sq),(p::r).Pairwise (λp q=>¬ aa5 q p<0)->(p::al7 p r).Pairwise agA
 |[],p,_=>by simp[al7]
 |x::r,p,h=>by
  obtain⟨h1,h2⟩:=List.pairwise_cons.1 h;have ih:=agt r x h2;simp only[al7];split
  ·rename_i he;have e:=(afp x p).1 he;subst e;exact ih
  ·rename_i he;have hlt:agA p x:=by
    have h3:=h1 x List.mem_cons_self;rw[ac5] at h3;rcases aen p x with k | k | k
    ·exact k
    ·exact absurd ((afp x p).2 k.symm) he
    ·exact absurd k h3
   refine List.pairwise_cons.2 ⟨λy hy=> ?_,ih⟩;rcases List.mem_cons.1 hy with rfl | hy
   ·exact hlt
   ·exact abc hlt ((List.pairwise_cons.1 ih).1 y hy)
theorem akv {l:List Sq} (h:l.Pairwise (λp q=>¬ aa5 q p<0)):(ady l).Pairwise agA:=by
 match l,h with
 |[],_=>exact List.Pairwise.nil
 |a::r,h=>exact agt r a h
theorem agl:∀ {l m:List Sq},l.Pairwise agA->m.Pairwise agA->(∀ t,t∈l↔t∈m)->l=m
 |[],[],_,_,_=>rfl
 |[],b::m,_,_,h=>by have:=(h b).2 List.mem_cons_self;cases this
 |a::l,[],_,_,h=>by have:=(h a).1 List.mem_cons_self;cases this
 |a::l,b::m,hl,hm,h=>by
  obtain⟨h1,h2⟩:=List.pairwise_cons.1 hl;obtain⟨k1,k2⟩:=List.pairwise_cons.1 hm;have e:a=b:=by
   rcases List.mem_cons.1 ((h a).1 List.mem_cons_self) with e | e
   ·exact e
   ·rcases List.mem_cons.1 ((h b).2 List.mem_cons_self) with z | z
    ·exact z.symm
    ·exact absurd (abc (h1 b z) (k1 a e)) (aa0 _)
  subst e;rw[agl h2 k2 λt=>⟨λht=> ?_,λht=> ?_⟩]
  ·rcases List.mem_cons.1 ((h t).1 (List.mem_cons_of_mem _ ht)) with e | e
   ·subst e;exact absurd (h1 t ht) (aa0 _)
   ·exact e
  ·rcases List.mem_cons.1 ((h t).2 (List.mem_cons_of_mem _ ht)) with e | e
   ·subst e;exact absurd (k1 t ht) (aa0 _)
   ·exact e
theorem aiu {l O:List Sq} (h:amT l O):ofP l=O:=by
 have hx:∃ O,amT l O:=⟨O,h⟩
 have e:ofP l=Classical.choose hx:=dif_pos hx;have hc:=Classical.choose_spec hx;rw[e];exact agl hc.1 h.1 λt=>by rw[hc.2,h.2]
theorem ah7 {l:List Sq} {C:Nat->List Pq} (h:∀ i,i<l.length->∀ p,p∈C i↔apW l i p) (t:Sq):aAA l t↔∃ j,j<l.length/\abX (C j) t:=by
 constructor
 ·rintro⟨i,h0,h1,h2,h3,h4⟩;exact⟨i,h0,(h i h0 _).2 h1,(h i h0 _).2 h2,h3,λp hp=>h4 p ((h i h0 p).1 hp)⟩
 ·rintro⟨i,h0,h1,h2,h3,h4⟩;exact⟨i,h0,(h i h0 _).1 h1,(h i h0 _).1 h2,h3,λp hp=>h4 p ((h i h0 p).2 hp)⟩
theorem amT.fin {l:List Sq} {C:Nat->List Pq} {O O':List Sq} (hl:l.length<=20000) (hC:∀ i,i<l.length->∀ p,p∈C i↔apW l i p) (hO:∀ t,t∈O↔∃ j,j<l.length/\abX (C j) t) (hp:O'.Perm O) (hs:O'.Pairwise (λp q=>¬ aa5 q p<0)):amT l (ady O'):=by
 refine⟨akv hs,λt=> ?_⟩;rw[arG,hp.mem_iff,hO,<- ah7 hC];exact⟨λh=>⟨hl,h⟩,λh=>h.2⟩
theorem amT.long {l:List Sq} (h:20000<l.length):amT l []:=⟨List.Pairwise.nil,λt=>⟨λk=>(List.not_mem_nil k).elim,λk=>by omega⟩⟩
theorem anp (l:List Sq):amT l (ofP l):=by
 rcases Nat.lt_or_ge 20000 l.length with h | h
 ·rw[aiu (amT.long h)];exact amT.long h
 ·let C:Nat->List Pq:=λi=>(l.getD i sq0).1::(l.getD i sq0).2::(List.range l.length).flatMap λk=>if k=i then [] else acM (l.getD i sq0) (l.getD k sq0)
  have hC:∀ i,i<l.length->∀ p,p∈C i↔apW l i p:=λi hi p=>by
   simp only[C,List.mem_cons,List.mem_flatMap,List.mem_range];refine or_congr Iff.rfl (or_congr Iff.rfl ⟨?_,?_⟩)
   ·rintro⟨k,h1,h2⟩;split at h2
    ·cases h2
    ·rename_i e;exact⟨k,h1,e,h2⟩
   ·rintro⟨k,h1,e,h2⟩;exact⟨k,h1,by rw[if_neg e];exact h2⟩
  let all:List Sq:=(List.range l.length).flatMap λi=>((C i).flatMap λp=>(C i).map λq=>(p,q)).filter λt=>@decide (abX (C i) t) (Classical.propDecidable _)
  have hO:∀ t,t∈all↔∃ j,j<l.length/\abX (C j) t:=λt=>by
   simp only[all,List.mem_flatMap,List.mem_range,List.mem_filter,decide_eq_true_eq];constructor
   ·rintro⟨i,h1,_,h2⟩;exact⟨i,h1,h2⟩
   ·rintro⟨i,h1,h2⟩;exact⟨i,h1,⟨t.1,h2.1,by rw[List.mem_map];exact⟨t.2,h2.2.1,rfl⟩⟩,h2⟩
  let le:Sq->Sq->Bool:=λp q=>decide (¬ aa5 q p<0)
  have hs:(all.mergeSort le).Pairwise (λp q=>¬ aa5 q p<0):=by
   have:=List.pairwise_mergeSort (le:=le) (λa b c h1 h2=>by
    simp only[le,decide_eq_true_eq,ac5] at h1 h2 ⊢;intro k;rcases aen b a with z | z | z
    ·exact h1 z
    ·rw[z] at h2;exact h2 k
    ·exact h2 (abc k z)) (λa b=>by
    simp only[le,Bool.or_eq_true,decide_eq_true_eq,ac5];rcases aen a b with z | z | z
    ·exact .inl λk=>aa0 _ (abc z k)
    ·rw[z];exact .inl (aa0 _)
    ·exact .inr λk=>aa0 _ (abc z k)) all
   refine this.imp λh=> ?_;simpa only[le,decide_eq_true_eq] using h
  have:=amT.fin h hC hO (List.mergeSort_perm all le) hs;rw[aiu this];exact this
end Go.Proofs.YtcmplpkmfbhpdaaGreat
