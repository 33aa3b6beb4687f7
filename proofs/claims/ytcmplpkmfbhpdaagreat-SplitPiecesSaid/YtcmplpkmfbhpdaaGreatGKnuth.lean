namespace Go.Proofs.YtcmplpkmfbhpdaaGreat
section
variable {B P top next two r2 rl dl guess left:Nat}
theorem apw (hg:guess*top+left=two) (h:left*B+r2<guess*next) (hrl:rl<P) :
  P*(two*B+r2)+rl<guess*(P*(top*B+next)+dl):=by
 have h1:P*(left*B+r2+1)<=P*(guess*next):=Nat.mul_le_mul_left _ h;subst hg;have h2:guess*(P*(top*B+next)+dl)=P*(guess*top*B)+P*(guess*next)+guess*dl:=by grind
 have h3:P*((guess*top+left)*B+r2)=P*(guess*top*B)+P*(left*B+r2):=by grind
 rw[h2,h3];rw[Nat.mul_add,Nat.mul_one] at h1;omega
theorem age (hB:guess<B) (hg:guess*top+left=two) (h:guess*next<=left*B+r2) (htop:0<top) (hdl:dl<P) :
  guess*(P*(top*B+next)+dl)<P*(two*B+r2)+rl+(P*(top*B+next)+dl):=by
 have h1:P*(guess*next)<=P*(left*B+r2):=Nat.mul_le_mul_left _ h;subst hg;have h2:guess*(P*(top*B+next)+dl)=P*(guess*top*B)+P*(guess*next)+guess*dl:=by grind
 have h3:P*((guess*top+left)*B+r2)=P*(guess*top*B)+P*(left*B+r2):=by grind
 rw[h2,h3];have h4:guess*dl<=guess*P:=Nat.mul_le_mul_left _ (Nat.le_of_lt hdl);have h5:guess*P<B*P:=Nat.mul_lt_mul_of_pos_right hB (by omega);have h6:B*P<=top*(B*P):=Nat.le_mul_of_pos_left _ htop;have h7:P*(top*B+next)=top*(B*P)+P*next:=by grind
 rw[h7];omega
theorem aks (htop:0<top) (hg:guess=two/top) (hr2:r2<B) (hrl:rl<P) :
  P*(two*B+r2)+rl<(guess+1)*(P*(top*B+next)+dl):=by
 have h0:two<(guess+1)*top:=by
  subst hg;have:=Nat.div_add_mod two top;have:=Nat.mod_lt two htop;grind
 have h1:P*B*(two+1)<=P*B*((guess+1)*top):=Nat.mul_le_mul_left _ h0;have h2:(guess+1)*(P*(top*B+next)+dl)=P*B*((guess+1)*top)+(guess+1)*(P*next+dl):=by grind
 have h3:P*(r2+1)<=P*B:=Nat.mul_le_mul_left _ hr2;have h4:P*(two*B+r2)=P*B*two+P*r2:=by grind
 rw[h2,h4];rw[Nat.mul_add] at h1 h3;omega
theorem awY (h:P*(two*B+r2)+rl<(P*(top*B+next)+dl)*B) (hn:next<B) (hdl:dl<P):two<top*B+B:=by
 apply Nat.lt_of_not_le;intro hc;have hB:0<B:=by omega
 have h1:P*((top*B+B)*B)<=P*(two*B):=Nat.mul_le_mul_left _ (Nat.mul_le_mul_right _ hc);have h2:P*(next+1)<=P*B:=Nat.mul_le_mul_left _ hn;have h3:(P*(top*B+next)+dl)*B=P*(top*B*B)+(P*next+dl)*B:=by grind
 have h4:(P*next+dl)*B<=P*B*B:=Nat.mul_le_mul_right _ (by rw[Nat.mul_add] at h2;omega);have h5:P*((top*B+B)*B)=P*(top*B*B)+P*B*B:=by grind
 have h6:P*(two*B+r2)=P*(two*B)+P*r2:=by grind
 omega
theorem ars (hg:guess*top<=two) (h2:two<top*B+B) (htop:B<=2*top):guess<B+2:=by
 apply Nat.lt_of_not_le;intro hc;have h1:(B+2)*top<=guess*top:=Nat.mul_le_mul_right _ hc;have h3:(B+2)*top=top*B+2*top:=by grind
 omega
theorem ai9 (hg:guess*top+left=two) (hl:B<=left) (h2:two<top*B+B) (hn:next<B):guess<B/\guess*next<=left*B+r2:=by
 have h1:guess<B:=by
  apply Nat.lt_of_not_le;intro hc;have h1:B*top<=guess*top:=Nat.mul_le_mul_right _ hc;have h3:B*top=top*B:=Nat.mul_comm _ _;omega
 refine⟨h1,?_⟩;have h3:guess*next<=B*B:=Nat.mul_le_mul (Nat.le_of_lt h1) (Nat.le_of_lt hn)
 have h4:B*B<=left*B:=Nat.mul_le_mul_right _ hl;omega
theorem aqx {V G Dk A c b d x r b':Nat} (h:V+G*Dk=A+P*(c+b)) (hx:x+(c+G*d)%B+b=r+B*b') :
  V+P*x+G*(Dk+P*d)=A+P*r+P*B*((c+G*d)/B+b'):=by
 have h1:=Nat.div_add_mod (c+G*d) B;have h2:P*(x+(c+G*d)%B+b)=P*(r+B*b'):=by rw[hx]
 have h3:G*(Dk+P*d)=G*Dk+P*(G*d):=by grind
 have h4:P*B*((c+G*d)/B+b')=P*(B*((c+G*d)/B))+P*(B*b'):=by grind
 have h5:P*(c+G*d)=P*(B*((c+G*d)/B))+P*((c+G*d)%B):=by rw[<- Nat.mul_add,h1]
 rw[h3,h4];rw[Nat.mul_add] at h h5;rw[Nat.mul_add,Nat.mul_add,Nat.mul_add] at h2;omega
end
end Go.Proofs.YtcmplpkmfbhpdaaGreat
