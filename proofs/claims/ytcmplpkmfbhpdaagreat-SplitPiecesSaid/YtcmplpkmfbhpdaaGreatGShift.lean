namespace Go.Proofs.YtcmplpkmfbhpdaaGreat
theorem arE {x y S U B:Nat} (hS:0<S) (hB:B=S*U) (hx:x<B):((x+y*B)/S)%B=x/S+(y%S)*U:=by
 subst hB;have e:x+y*(S*U)=x+S*(y*U):=by rw[Nat.mul_left_comm]
 rw[e,Nat.add_mul_div_left _ _ hS];have h1:x/S<U:=Nat.div_lt_of_lt_mul hx;have h2:y*U=S*U*(y/S)+(y%S)*U:=by
  have:=Nat.div_add_mod y S;calc y*U=(S*(y/S)+y%S)*U:=by rw[this]
   _=_:=by grind
 rw[h2,<- Nat.add_assoc,Nat.add_right_comm,Nat.add_mul_mod_self_left,Nat.mod_eq_of_lt];have h3:y%S<S:=Nat.mod_lt _ hS;have h4:(y%S+1)*U<=S*U:=Nat.mul_le_mul_right _ h3;rw[Nat.add_mul,Nat.one_mul] at h4;omega
theorem apB {P V A r x y S U B:Nat} (hB:B=S*U) (h:A+P*(x%S)=S*V+r):A+P*x+P*B*(y%S)=S*(V+P*(x/S+(y%S)*U))+r:=by
 subst hB;have h1:=Nat.div_add_mod x S;have h2:S*(V+P*(x/S+(y%S)*U))=S*V+P*(S*(x/S))+P*(S*U)*(y%S):=by grind
 have h3:P*x=P*(S*(x/S))+P*(x%S):=by rw[<- Nat.mul_add,h1]
 omega
theorem arF {V r S n:Nat} (hr:r<S) (h:n=S*V+r):V=n/S:=by
 subst h;rw[Nat.mul_add_div (by omega),Nat.div_eq_of_lt hr,Nat.add_zero]
theorem aqv {c x S B:Nat} (hc:c<S) (hx:x<B):(c+x*S)/B<S:=by
 apply Nat.div_lt_of_lt_mul;have:(x+1)*S<=B*S:=Nat.mul_le_mul_right _ hx;rw[Nat.add_mul,Nat.one_mul] at this;omega
end Go.Proofs.YtcmplpkmfbhpdaaGreat
