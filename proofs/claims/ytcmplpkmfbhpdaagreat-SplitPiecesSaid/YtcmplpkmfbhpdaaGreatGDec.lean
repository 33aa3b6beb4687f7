namespace Go.Proofs.YtcmplpkmfbhpdaaGreat.Dec
def limbs (n:Nat):List Nat:=if h:n=0 then [] else n%10000::limbs (n/10000)
termination_by n
decreasing_by omega
def valL:List Nat->Nat
 |[]=>0
 |x::r=>x+10000*valL r
def Limb (l:List Nat):Prop:=∀ x∈l,x<10000
theorem limbs_zero:limbs 0=[]:=by rw[limbs];rfl
theorem limbs_pos {n:Nat} (h:n≠0):limbs n=n%10000::limbs (n/10000):=by rw[limbs,dif_neg h]
theorem val_limbs (n:Nat):valL (limbs n)=n:=by
 induction n using Nat.strongRecOn with
 |ind n ih=>
  by_cases h:n=0
  ·subst h;rw[limbs_zero];rfl
  ·rw[limbs_pos h,valL,ih _ (by omega)];omega
theorem limbs_limb (n:Nat):Limb (limbs n):=by
 induction n using Nat.strongRecOn with
 |ind n ih=>
  by_cases h:n=0
  ·subst h;rw[limbs_zero];intro x hx;cases hx
  ·rw[limbs_pos h];intro x hx;rcases List.mem_cons.1 hx with rfl | hx
   ·omega
   ·exact ih _ (by omega) x hx
theorem ajG {l:List Nat} (h:l≠[]) (ht:l.getLast h≠0):0<valL l:=by
 induction l with
 |nil=>exact absurd rfl h
 |cons x r ih=>
  cases r with
  |nil=>simp at ht;simp[valL];omega
  |cons y r=>
   have:=ih (by simp) (by rwa [List.getLast_cons (by simp)] at ht);rw[valL];omega
theorem af8 {l:List Nat} (hl:Limb l) (ht:∀ h:l≠[],l.getLast h≠0):limbs (valL l)=l:=by
 induction l with
 |nil=>exact limbs_zero
 |cons x r ih=>
  have hx:=hl x (List.mem_cons_self ..);have hp:=ajG (l:=x::r) (by simp) (ht (by simp));rw[limbs_pos (by omega)];have e1:valL (x::r)%10000=x:=by rw[valL];omega
  have e2:valL (x::r)/10000=valL r:=by rw[valL];omega
  rw[e1,e2,ih (λy hy=>hl y (List.mem_cons_of_mem _ hy)) ?_];intro h;have:=ht (by simp);rwa [List.getLast_cons h] at this
theorem acb (a b:List Nat):valL (a++b)=valL a+10000 ^ a.length*valL b:=by
 induction a with
 |nil=>simp[valL]
 |cons x r ih=>
  rw[List.cons_append,valL,valL,ih,List.length_cons,Nat.pow_succ,Nat.mul_add];rw[Nat.mul_comm (10000 ^ r.length) 10000,Nat.mul_assoc];omega
theorem val_lt {l:List Nat} (h:Limb l):valL l<10000 ^ l.length:=by
 induction l with
 |nil=>simp[valL]
 |cons x r ih=>
  have:=ih (λy hy=>h y (List.mem_cons_of_mem _ hy));have:=h x (List.mem_cons_self ..);rw[valL,List.length_cons,Nat.pow_succ];omega
theorem ads (n:Nat):valL (List.replicate n 0)=0:=by
 induction n with
 |zero=>rfl
 |succ n ih=>rw[List.replicate_succ,valL,ih]
theorem cut_limbs {l:List Nat} (hl:Limb l) (k:Nat) (hk:k<=l.length) (hz:∀ j,k<=j->∀ x,l[j]? =some x->x=0) (ht:k=0\/l[k-1]? ≠ some 0):l.take k=limbs (valL l):=by
 have e:l=l.take k++List.replicate (l.length-k) 0:=by
  apply List.ext_getElem?;intro j;by_cases h:j<k
  ·rw[List.getElem?_append_left (by simp;omega),List.getElem?_take,if_pos h]
  ·rw[List.getElem?_append_right (by simp;omega),List.length_take,Nat.min_eq_left hk];by_cases h2:j<l.length
   ·rw[List.getElem?_replicate,if_pos (by omega),List.getElem?_eq_getElem h2];exact congrArg some (hz j (by omega) _ (List.getElem?_eq_getElem h2))
   ·rw[List.getElem?_replicate,if_neg (by omega),List.getElem?_eq_none (by omega)]
 have ev:valL l=valL (l.take k):=by
  conv=>lhs;rw[e]
  rw[acb,ads];rfl
 rw[ev,af8]
 ·intro x hx;exact hl x (List.mem_of_mem_take hx)
 ·intro h h0;rcases ht with rfl | ht
  ·exact h (by simp)
  ·apply ht;have hkp:0<k:=by
    rcases Nat.eq_zero_or_pos k with rfl | h'
    ·exact absurd (by simp) h
    ·exact h'
   rw[List.getLast_eq_getElem,List.getElem_take] at h0;rw[<- h0];simp only[List.length_take,Nat.min_eq_left hk];exact (List.getElem?_eq_getElem _)
theorem limbs_len (n k:Nat):(limbs n).length<=k↔n<10000 ^ k:=by
 constructor
 ·intro h;have:=val_lt (limbs_limb n);rw[val_limbs] at this;exact Nat.lt_of_lt_of_le this (Nat.pow_le_pow_right (by decide) h)
 ·intro h;induction k generalizing n with
  |zero=>simp at h;subst h;rw[limbs_zero];simp
  |succ k ih=>
   by_cases h0:n=0
   ·subst h0;rw[limbs_zero];simp
   ·rw[limbs_pos h0,List.length_cons];have:=ih (n/10000) (by rw[Nat.pow_succ] at h;exact Nat.div_lt_of_lt_mul (by rw[Nat.mul_comm];exact h));omega
theorem acp {n:Nat} : limbs n=[]↔n=0:=by
 constructor
 ·intro h;have:=val_limbs n;rw[h] at this;exact this.symm
 ·rintro rfl;exact limbs_zero
theorem limbs_mono {a b:Nat} (h:a<=b):(limbs a).length<=(limbs b).length:=
 (limbs_len a _).2 (Nat.lt_of_le_of_lt h ((limbs_len b _).1 (Nat.le_refl _)))
theorem lt_of_len {a b:Nat} (h:(limbs a).length<(limbs b).length):a<b:=by
 apply Nat.lt_of_not_le;intro h2;have:=limbs_mono h2;omega
theorem val_cmp {l m:List Nat} (hl:Limb l) (hlen:l.length=m.length) (k:Nat) (hk:l.drop (k+1)=m.drop (k+1)) {x y:Nat} (hx:l[k]? =some x) (hy:m[k]? =some y) (h:x<y):valL l<valL m:=by
 have hkl:k<l.length:=by
  rcases Nat.lt_or_ge k l.length with h | h
  ·exact h
  ·rw[List.getElem?_eq_none h] at hx;cases hx
 have el:l=l.take k++x::l.drop (k+1):=by
  have:=List.getElem?_eq_some_iff.1 hx;obtain⟨h1,rfl⟩:=this;rw[<- List.drop_eq_getElem_cons h1,List.take_append_drop]
 have em:m=m.take k++y::m.drop (k+1):=by
  have:=List.getElem?_eq_some_iff.1 hy;obtain⟨h1,rfl⟩:=this;rw[<- List.drop_eq_getElem_cons h1,List.take_append_drop]
 have v1:valL l=valL (l.take k)+10000 ^ k*(x+10000*valL (l.drop (k+1))):=by
  conv=>lhs;rw[el]
  rw[acb,valL,List.length_take,Nat.min_eq_left (by omega)]
 have v2:valL m=valL (m.take k)+10000 ^ k*(y+10000*valL (m.drop (k+1))):=by
  conv=>lhs;rw[em]
  rw[acb,valL,List.length_take,Nat.min_eq_left (by omega)]
 have b1:valL (l.take k)<10000 ^ k:=by
  have:=val_lt (l:=l.take k) (λz hz=>hl z (List.mem_of_mem_take hz));rwa [List.length_take,Nat.min_eq_left (by omega)] at this
 rw[v1,v2,hk];have:10000 ^ k*(x+10000*valL (m.drop (k+1)))+10000 ^ k<=10000 ^ k*(y+10000*valL (m.drop (k+1))):=by
  rw[<- Nat.mul_succ];exact Nat.mul_le_mul_left _ (by omega)
 omega
theorem val_take_succ {l:List Nat} {i x:Nat} (h:l[i]? =some x):valL (l.take (i+1))=valL (l.take i)+10000 ^ i*x:=by
 obtain⟨h1,rfl⟩:=List.getElem?_eq_some_iff.1 h;rw[List.take_succ_eq_append_getElem h1,acb,List.length_take,Nat.min_eq_left (by omega)];simp[valL]
theorem val_drop {l:List Nat} {i x:Nat} (h:l[i]? =some x):valL (l.drop i)=x+10000*valL (l.drop (i+1)):=by
 obtain⟨h1,rfl⟩:=List.getElem?_eq_some_iff.1 h;rw[List.drop_eq_getElem_cons h1,valL]
theorem val_snoc (l:List Nat) (x:Nat):valL (l++[x])=valL l+10000 ^ l.length*x:=by
 rw[acb];simp[valL]
theorem adq {l:List Nat} {j y:Nat} (z:Nat) (h:l[j]? =some y):valL (l.set j z)+10000 ^ j*y=valL l+10000 ^ j*z:=by
 induction l generalizing j with
 |nil=>cases h
 |cons x r ih=>
  cases j with
  |zero=>simp at h;subst h;simp[valL];omega
  |succ j=>
   simp only[List.getElem?_cons_succ] at h;rw[List.set_cons_succ,valL,valL];have:=ih h;rw[Nat.pow_succ,Nat.mul_comm (10000 ^ j),Nat.mul_assoc,Nat.mul_assoc];omega
theorem limb_snoc {l:List Nat} (h:Limb l) {x:Nat} (hx:x<10000):Limb (l++[x]):=by
 intro y hy;rcases List.mem_append.1 hy with h' | h'
 ·exact h y h'
 ·rw[List.mem_singleton.1 h'];exact hx
theorem limb_set {l:List Nat} (h:Limb l) {x:Nat} (j:Nat) (hx:x<10000):Limb (l.set j x):=by
 intro y hy;rcases List.mem_or_eq_of_mem_set hy with h' | h'
 ·exact h y h'
 ·rw[h'];exact hx
theorem limb_zeros (n:Nat):Limb (List.replicate n 0):=by
 intro y hy;rw[(List.mem_replicate.1 hy).2];decide
theorem abK (P s:Nat):P*(s%10000)+P*10000*(s/10000)=P*s:=by
 rw[Nat.mul_assoc,<- Nat.mul_add,Nat.add_comm,Nat.div_add_mod]
theorem add_step {P V A c x y:Nat} (h:V+P*c=A):V+P*((c+x+y)%10000)+P*10000*((c+x+y)/10000)=A+P*x+P*y:=by
 have:=abK P (c+x+y);rw[Nat.mul_add,Nat.mul_add] at this;omega
theorem agR {P V A c x d:Nat} (h:V+P*c=A*d):V+P*((c+x*d)%10000)+P*10000*((c+x*d)/10000)=(A+P*x)*d:=by
 have:=abK P (c+x*d);rw[Nat.mul_add] at this;rw[Nat.add_mul,Nat.mul_assoc P x d];omega
theorem adu {P V A D b x y z b':Nat} (h:V+D=A+P*b) (hz:z+y+b=x+10000*b'):V+P*z+(D+P*y)=A+P*x+P*10000*b':=by
 have:=congrArg (P * ·) hz;simp only[Nat.mul_add] at this;rw[<- Nat.mul_assoc] at this;omega
theorem ahW {n V A D b:Nat} (hV:V<10000 ^ n) (h:V+D=A+10000 ^ n*b) (hD:D<=A):V=A-D:=by
 cases b with
 |zero=>simp at h;omega
 |succ b=>
  have:10000 ^ n<=10000 ^ n*(b+1):=Nat.le_mul_of_pos_right _ (by omega);omega
theorem aox {A Q d r x:Nat} (h:A=d*Q+r):x+10000*A=d*((r*10000+x)/d+10000*Q)+(r*10000+x)%d:=by
 have:=Nat.div_add_mod (r*10000+x) d;subst h;rw[Nat.mul_add,Nat.mul_add];have e:d*(10000*Q)=10000*(d*Q):=by rw[<- Nat.mul_assoc,Nat.mul_comm d,Nat.mul_assoc]
 omega
theorem ahS {P V c D x y o:Nat} (h:V+P*c=D):V+P*((c+(x*y+o))%10000)+P*10000*((c+(x*y+o))/10000)=D+P*(x*y)+P*o:=by
 have:=abK P (c+(x*y+o));rw[Nat.mul_add,Nat.mul_add] at this;omega
end Go.Proofs.YtcmplpkmfbhpdaaGreat.Dec
