namespace Go.Proofs.YtcmplpkmfbhpdaaGreat
def abe (a b:Int):Int:=if a<b then -1 else if b<a then 1 else 0
def abg (a b:Rat):Int:=if a<b then -1 else if b<a then 1 else 0
theorem arN (a b:Rat):abe (a.num*b.den) (b.num*a.den)=abg a b:=by
 unfold abe abg;simp only[Rat.lt_iff]
theorem acH (n d:Int) (g:Nat) (hg:g=Nat.gcd n.natAbs d.natAbs) (hd:d≠0):(Rat.divInt n d).num=(if d/g<0 then -(n/g) else n/g)/\((Rat.divInt n d).den:Int)=(if d/g<0 then -(d/g) else d/g):=by
 have e:d.gcd n=g:=by rw[hg,Int.gcd,Nat.gcd_comm]
 have hgd:(g:Int) ∣ d:=by rw[<- e];exact Int.gcd_dvd_left ..
 have hgn:(g:Int) ∣ n:=by rw[<- e];exact Int.gcd_dvd_right ..
 have hg0:0<g:=by
  rw[<- e];exact Int.gcd_pos_of_ne_zero_left n hd
 rw[Rat.num_divInt,Rat.den_divInt,e,if_neg hd];obtain⟨x,rfl⟩:=hgd;obtain⟨y,rfl⟩:=hgn;clear hg e;rw[Int.mul_ediv_cancel_left _ (by omega),Int.mul_ediv_cancel_left _ (by omega),Int.natAbs_mul,Int.natAbs_natCast,Nat.mul_div_cancel_left _ hg0];have hx:x≠0:=by rintro rfl;simp at hd
 have hs:((g:Int)*x).sign=x.sign:=by rw[Int.sign_mul,Int.sign_eq_one_of_pos (by omega),Int.one_mul]
 rw[hs];rcases Int.lt_or_gt_of_ne hx with h | h
 ·rw[if_pos h,if_pos h,Int.sign_eq_neg_one_of_neg h];constructor
  ·rw[show (-1:Int)*((g:Int)*y)=g*(-y) by grind,Int.mul_ediv_cancel_left _ (by omega)]
  ·omega
 ·rw[if_neg (by omega),if_neg (by omega),Int.sign_eq_one_of_pos h,Int.one_mul,Int.mul_ediv_cancel_left _ (by omega)];constructor
  ·rfl
  ·omega
theorem acN (a:Rat):(a.den:Int)≠0:=by have:=a.den_pos;omega
theorem aeK (a:Rat):Rat.divInt a.num a.den=a:=Rat.num_divInt_den a
theorem al5 (a b:Rat):Rat.divInt (a.num*b.den+b.num*a.den) (a.den*b.den)=a+b:=by
 rw[<- Rat.divInt_add_divInt _ _ (acN a) (acN b),aeK,aeK]
theorem alr (a b:Rat):Rat.divInt (a.num*b.num) (a.den*b.den)=a*b:=by
 rw[<- Rat.divInt_mul_divInt,aeK,aeK]
theorem alW (a b:Rat):Rat.divInt (a.num*b.den) (a.den*b.num)=a/b:=by
 rw[<- Rat.divInt_mul_divInt,aeK,Rat.div_def,<- Rat.inv_divInt,aeK]
end Go.Proofs.YtcmplpkmfbhpdaaGreat
