import Derived.Test.YtcmplpkmfbhpdaaGreatGPlain
import Derived.Test.YtcmplpkmfbhpdaaGreatGKnuth
namespace Go.Proofs.YtcmplpkmfbhpdaaGreat
theorem aa9 (l:List Nat) (i:Nat) (h:i<=l.length):valL l=valL (l.take i)+4294967296 ^ i*valL (l.drop i):=by
 conv=>lhs;rw[<- List.take_append_drop i l]
 rw[acb,List.length_take,Nat.min_eq_left h]
theorem aex {l:List Nat} (h:Limb l) (i:Nat):Limb (l.drop i):=λx hx=>h x (List.mem_of_mem_drop hx)
theorem acO {l:List Nat} (h:Limb l) (i:Nat):Limb (l.take i):=λx hx=>h x (List.mem_of_mem_take hx)
theorem ah9 {l:List Nat} {i n:Nat} (hi:i+n<=l.length) (h:valL (l.drop i)<4294967296 ^ n):valL (l.drop (i+n))=0:=by
 have h1:=aa9 (l.drop i) n (by rw[List.length_drop];omega);rw[List.drop_drop] at h1;rcases Nat.eq_zero_or_pos (valL (l.drop (i+n))) with h0 | h0
 ·exact h0
 ·have:4294967296 ^ n*1<=4294967296 ^ n*valL (l.drop (i+n)):=Nat.mul_le_mul_left _ h0;omega
theorem adm {l:List Nat} (hl:Limb l) {i x:Nat} (h:l[i]? =some x):x<4294967296:=hl x (List.mem_of_getElem? h)
structure afB (d:List Nat) (U m i:Nat) (q r:List Nat):Prop where
 rl:r.length=m
 ql:q.length=m-d.length
 lr:Limb r
 lq:Limb q
 eq:U=valL r+valL d*(4294967296 ^ i*valL (q.drop i))
 lt:valL (r.drop i)<valL d
theorem awZ {d:List Nat} {n t:Nat} (hl:d.length=n+1) (ht:d[n]? =some t):4294967296 ^ n*t<=valL d:=by
 have h1:=aa9 d n (by omega);rw[val_drop ht] at h1;have:4294967296 ^ n*t<=4294967296 ^ n*(t+4294967296*valL (d.drop (n+1))):=Nat.mul_le_mul_left _ (by omega);omega
theorem apD {d u:List Nat} {n t:Nat} (hu:Limb u) (hl:d.length=n+1) (ht:d[n]? =some t) (ht0:0<t) (hm:n+1<=u.length) :
  afB d (valL u) (u.length+1) (u.length-n) (List.replicate (u.length-n) 0) (u++[0]) where
 rl:=by simp
 ql:=by simp[hl]
 lr:=limb_snoc hu (by decide)
 lq:=limb_zeros _
 eq:=by rw[val_snoc,List.drop_of_length_le (by simp)];simp[valL]
 lt:=by
  have h1:=awZ hl ht;have h2:4294967296 ^ n*1<=4294967296 ^ n*t:=Nat.mul_le_mul_left _ ht0;have h3:(u++[0]).drop (u.length-n)=u.drop (u.length-n)++[0]:=by rw[List.drop_append_of_le_length (by omega)]
  have h4:=val_lt (aex hu (u.length-n));rw[List.length_drop,show u.length-(u.length-n)=n by omega] at h4;rw[h3,val_snoc];omega
theorem amM {d:List Nat} {U m i n:Nat} {q r:List Nat} (h:afB d U m (i+1) q r) (hd:Limb d) (hn:d.length=n+2) (him:i+n+2<m) :
  ∃ r0 r1 r2 rl t nx dl,r[i+n+2]? =some r0/\r[i+n+1]? =some r1/\r[i+n]? =some r2/\d[n+1]? =some t/\d[n]? =some nx/\rl<4294967296 ^ n/\dl<4294967296 ^ n/\
   r0<4294967296/\r1<4294967296/\r2<4294967296/\t<4294967296/\nx<4294967296/\
   valL (r.drop i)=4294967296 ^ n*((r0*4294967296+r1)*4294967296+r2)+rl/\valL d=4294967296 ^ n*(t*4294967296+nx)+dl/\valL (r.drop i)<valL d*4294967296/\valL (r.drop (i+n+3))=0:=by
 have hr:∀ j,j<m->∃ x,r[j]? =some x/\x<4294967296:=λj hj=>⟨_,List.getElem?_eq_getElem (by rw[h.rl];exact hj),h.lr _ (List.getElem_mem _)⟩
 obtain⟨r0,e0,b0⟩:=hr (i+n+2) him;obtain⟨r1,e1,b1⟩:=hr (i+n+1) (by omega);obtain⟨r2,e2,b2⟩:=hr (i+n) (by omega);have hdd:∀ j,j<n+2->∃ x,d[j]? =some x/\x<4294967296:=λj hj=>⟨_,List.getElem?_eq_getElem (by rw[hn];exact hj),hd _ (List.getElem_mem _)⟩
 obtain⟨t,et,bt⟩:=hdd (n+1) (by omega);obtain⟨nx,en,bn⟩:=hdd n (by omega);have hz:valL (r.drop (i+1+(n+2)))=0:=ah9 (by rw[h.rl];omega) (Nat.lt_of_lt_of_le h.lt (by have:=Nat.le_of_lt (val_lt hd);rwa [hn] at this));rw[show i+1+(n+2)=i+n+3 by omega] at hz;refine⟨r0,r1,r2,valL ((r.drop i).take n),t,nx,valL (d.take n),e0,e1,e2,et,en,?_,?_,b0,b1,b2,bt,bn,?_,?_,?_,hz⟩
 ·have:=val_lt (acO (aex h.lr i) n);rwa [List.length_take,List.length_drop,h.rl,Nat.min_eq_left (by omega)] at this
 ·have:=val_lt (acO hd n);rwa [List.length_take,hn,Nat.min_eq_left (by omega)] at this
 ·have h1:=aa9 (r.drop i) n (by rw[List.length_drop,h.rl];omega);rw[List.drop_drop,val_drop e2,val_drop e1,val_drop e0,hz] at h1;rw[h1,Nat.mul_zero,Nat.add_zero,Nat.add_comm];congr 2
  omega
 ·have h1:=aa9 d n (by omega);rw[val_drop en,val_drop et,List.drop_of_length_le (show d.length<=n+1+1 by omega)] at h1;rw[h1,Nat.add_comm];congr 2
  simp only[valL];omega
 ·have hi:∃ x,r[i]? =some x/\x<4294967296:=hr i (by omega);obtain⟨x,ex,bx⟩:=hi;rw[val_drop ex];have:=h.lt;omega
structure adM (d r:List Nat) (i G k:Nat) (o:List Nat) (c b:Nat):Prop where
 len:o.length=r.length
 lo:Limb o
 low:o.take i=r.take i
 cl:c<4294967296
 bl:b<2
 eq:valL (o.drop i)+G*valL (d.take k)=valL (r.drop i)+4294967296 ^ k*(c+b)
 high:o.drop (i+k)=r.drop (i+k)
theorem afZ {d r:List Nat} (i G:Nat) (hr:Limb r):adM d r i G 0 r 0 0:=⟨rfl,hr,rfl,by decide,by decide,by simp[valL],rfl⟩
theorem aeI {d r:List Nat} {i G k:Nat} {o:List Nat} {c b x y x' b':Nat} (h:adM d r i G k o c b) (hG:G<4294967296) (hy:d[k]? =some y) (hyb:y<4294967296) (hx:o[i+k]? =some x) (hx':x'<4294967296) (hb':b'<2)
  (he:x'+(c+G*y)%4294967296+b=x+4294967296*b'):adM d r i G (k+1) (o.set (i+k) x') ((c+G*y)/4294967296) b' where
 len:=by simp[h.len]
 lo:=limb_set h.lo _ hx'
 low:=by rw[List.take_set_of_le (by omega)];exact h.low
 cl:=by
  have:G*y<=4294967295*4294967295:=Nat.mul_le_mul (by omega) (by omega);have:=h.cl;omega
 bl:=hb'
 eq:=by
  have e1:(o.set (i+k) x').drop i=(o.drop i).set k x':=by rw[List.drop_set,if_neg (by omega)];congr 1;omega
  have e2:=adq (l:=o.drop i) (j:=k) (y:=x) x' (by rw[List.getElem?_drop];exact hx);have e3:=aqx h.eq he;rw[e1,val_take_succ hy,Nat.pow_succ];omega
 high:=by
  have e:∀ l:List Nat,l.drop (i+k+1)=(l.drop (i+k)).drop 1:=λl=>by rw[List.drop_drop]
  rw[List.drop_set_of_lt (by omega),show i+(k+1)=i+k+1 from rfl,e,e,h.high]
theorem aei {d r:List Nat} {i G:Nat} {o:List Nat} {c b x:Nat} (h:adM d r i G d.length o c b) (hx:o[i+d.length]? =some x) (hz:valL (r.drop (i+d.length+1))=0) :
  valL ((o.drop i).take d.length)+4294967296 ^ d.length*x+G*valL d=valL (r.drop i)+4294967296 ^ d.length*(c+b)/\valL ((o.drop i).take d.length)<4294967296 ^ d.length:=by
 have hl:i+d.length<o.length:=(List.getElem?_eq_some_iff.1 hx).1;have h1:=aa9 (o.drop i) d.length (by rw[List.length_drop];omega);rw[List.drop_drop,val_drop hx,<- List.drop_drop (i:=1),h.high,List.drop_drop,hz] at h1;have h2:=h.eq;rw[aaE (Nat.le_refl _)] at h2;refine⟨by rw[Nat.mul_zero,Nat.add_zero] at h1;omega,?_⟩;have:=val_lt (acO (aex h.lo i) d.length);rwa [List.length_take,List.length_drop,Nat.min_eq_left (by omega)] at this
theorem akb {d:List Nat} {U m i:Nat} {q r:List Nat} (h:afB d U m (i+1) q r) {G:Nat} {o:List Nat} {c b x:Nat} (hs:adM d r i G d.length o c b) (him:i+d.length<m) (hx:o[i+d.length]? =some x)
  (hz:valL (r.drop (i+d.length+1))=0) (hfit:c+b<=x) (hG:G<4294967296) (hup:valL (r.drop i)<(G+1)*valL d):afB d U m i (q.set i G) (o.set (i+d.length) (x-(c+b))):=by
 obtain⟨h1,h2⟩:=aei hs hx hz;have hxb:=adm hs.lo hx;have hl:i+d.length<o.length:=(List.getElem?_eq_some_iff.1 hx).1;have hw:valL ((o.set (i+d.length) (x-(c+b))).drop i)=valL (r.drop i)-G*valL d/\G*valL d<=valL (r.drop i):=by
  have e1:(o.set (i+d.length) (x-(c+b))).drop i=(o.drop i).set d.length (x-(c+b)):=by rw[List.drop_set,if_neg (by omega)];congr 1;omega
  have e2:=adq (l:=o.drop i) (j:=d.length) (y:=x) (x-(c+b)) (by rw[List.getElem?_drop];exact hx);have h3:=hs.eq;rw[aaE (Nat.le_refl _)] at h3;have e4:4294967296 ^ d.length*x=4294967296 ^ d.length*(x-(c+b))+4294967296 ^ d.length*(c+b):=by rw[<- Nat.mul_add];congr 1;omega
  rw[e1];omega
 obtain⟨hw1,hw2⟩:=hw;have hql:i<q.length:=by rw[h.ql];omega
 refine⟨by simp[hs.len,h.rl],by simp[h.ql],limb_set hs.lo _ (by omega),limb_set h.lq _ hG,?_,?_⟩
 ·have e1:=aa9 (o.set (i+d.length) (x-(c+b))) i (by simp;omega);rw[hw1,List.take_set_of_le (by omega),hs.low] at e1;have e2:=aa9 r i (by have:=hs.len;omega);have e3:valL ((q.set i G).drop i)=G+4294967296*valL (q.drop (i+1)):=by
   rw[val_drop (x:=G) (by rw[List.getElem?_set_self hql]),List.drop_set_of_lt (by omega)]
  rw[e1,e3,h.eq,e2,Nat.pow_succ];have e5:4294967296 ^ i*valL (r.drop i)=4294967296 ^ i*(valL (r.drop i)-G*valL d)+4294967296 ^ i*(G*valL d):=by rw[<- Nat.mul_add];congr 1;omega
  rw[e5];grind
 ·rw[hw1];rw[Nat.add_mul,Nat.one_mul] at hup;omega
structure adp (d r:List Nat) (i k:Nat) (o:List Nat) (s:Nat):Prop where
 len:o.length=r.length
 lo:Limb o
 low:o.take i=r.take i
 sl:s<2
 eq:valL (o.drop i)+4294967296 ^ k*s=valL (r.drop i)+valL (d.take k)
 high:o.drop (i+k)=r.drop (i+k)
theorem aeX {d r:List Nat} (i:Nat) (hr:Limb r):adp d r i 0 r 0:=⟨rfl,hr,rfl,by decide,by simp[valL],rfl⟩
theorem ah6 {d r:List Nat} {i k:Nat} {o:List Nat} {s x y:Nat} (h:adp d r i k o s) (hy:d[k]? =some y) (hyb:y<4294967296) (hx:o[i+k]? =some x) :
  adp d r i (k+1) (o.set (i+k) ((s+(x+y))%4294967296)) ((s+(x+y))/4294967296) where
 len:=by simp[h.len]
 lo:=limb_set h.lo _ (acz _)
 low:=by rw[List.take_set_of_le (by omega)];exact h.low
 sl:=by have:=adm h.lo hx;have:=h.sl;omega
 eq:=by
  have e1:∀ z,(o.set (i+k) z).drop i=(o.drop i).set k z:=λz=>by rw[List.drop_set,if_neg (by omega)];congr 1;omega
  have e2:=adq (l:=o.drop i) (j:=k) (y:=x) ((s+(x+y))%4294967296) (by rw[List.getElem?_drop];exact hx);have e3:=abK (4294967296 ^ k) (s+(x+y));have h3:=h.eq;rw[e1,val_take_succ hy,Nat.pow_succ];rw[Nat.mul_add,Nat.mul_add] at e3;omega
 high:=by
  have e:∀ l:List Nat,l.drop (i+k+1)=(l.drop (i+k)).drop 1:=λl=>by rw[List.drop_drop]
  rw[List.drop_set_of_lt (by omega),show i+(k+1)=i+k+1 from rfl,e,e,h.high]
theorem ah2 {d:List Nat} {U m i:Nat} {q r:List Nat} (h:afB d U m (i+1) q r) (hd:Limb d) {G:Nat} {o o2:List Nat} {c b x z s:Nat} (hs:adM d r i G d.length o c b) (him:i+d.length<m) (hx:o[i+d.length]? =some x)
  (hz:valL (r.drop (i+d.length+1))=0) (hfit:x<c+b) (hG:G<4294967296) (hup:G*valL d<valL (r.drop i)+valL d) (hzz:z+(c+b)=x+4294967296) (hb:adp d (o.set (i+d.length) z) i d.length o2 s) :
  o2[i+d.length]? =some z/\0<G/\afB d U m i (q.set i (G-1)) (o2.set (i+d.length) ((z+s)%4294967296)):=by
 obtain⟨h1,h2⟩:=aei hs hx hz;have hl:i+d.length<o.length:=(List.getElem?_eq_some_iff.1 hx).1;have hl2:i+d.length<o2.length:=by rw[hb.len];simpa using hl
 have hz2:o2[i+d.length]? =some z:=by
  have:=congrArg (λl:List Nat=>l[0]?) hb.high;simp only[List.getElem?_drop,Nat.add_zero] at this;rw[this,List.getElem?_set_self hl]
 have hdl:=val_lt hd
 -- the window
 have hlow:valL ((o2.drop i).take d.length)+4294967296 ^ d.length*s=valL ((o.drop i).take d.length)+valL d:=by
  have h3:=hb.eq;have e1:(o.set (i+d.length) z).drop i=(o.drop i).set d.length z:=by rw[List.drop_set,if_neg (by omega)];congr 1;omega
  have a1:=aa9 (o2.drop i) d.length (by rw[List.length_drop];omega);have a2:=aa9 ((o.drop i).set d.length z) d.length (by simp;omega);rw[e1,aaE (Nat.le_refl _),a1,a2,List.take_set_of_le (Nat.le_refl _)] at h3;have a3:(o2.drop i).drop d.length=((o.drop i).set d.length z).drop d.length:=by
   rw[List.drop_drop,hb.high,<- e1,List.drop_drop]
  rw[a3] at h3;omega
 have hlt2:valL ((o2.drop i).take d.length)<4294967296 ^ d.length:=by
  have:=val_lt (acO (aex hb.lo i) d.length);rwa [List.length_take,List.length_drop,Nat.min_eq_left (by omega)] at this
 have hG0:0<G:=by
  rcases Nat.eq_zero_or_pos G with rfl | hg
  ·have:4294967296 ^ d.length*(x+1)<=4294967296 ^ d.length*(c+b):=Nat.mul_le_mul_left _ hfit;rw[Nat.mul_add] at this;omega
  ·exact hg
 -- s makes good what was lacking
 have hsb:=hb.sl;have hsum:s+x=c+b:=by
  have e1:4294967296 ^ d.length*x+4294967296 ^ d.length*s=4294967296 ^ d.length*(x+s):=by rw[Nat.mul_add]
  rcases Nat.lt_trichotomy (s+x) (c+b) with hc | hc | hc
  ·have:4294967296 ^ d.length*(x+s+1)<=4294967296 ^ d.length*(c+b):=Nat.mul_le_mul_left _ (by omega);rw[Nat.mul_add,Nat.mul_add] at this;omega
  ·exact hc
  ·have:4294967296 ^ d.length*(c+b+1)<=4294967296 ^ d.length*(x+s):=Nat.mul_le_mul_left _ (by omega);rw[Nat.mul_add,Nat.mul_add] at this;have:valL (r.drop i)<G*valL d:=by
    have:4294967296 ^ d.length*(x+1)<=4294967296 ^ d.length*(c+b):=Nat.mul_le_mul_left _ hfit;rw[Nat.mul_add] at this;omega
   omega
 have hzs:(z+s)%4294967296=0:=by omega
 refine⟨hz2,hG0,?_⟩;rw[hzs];obtain⟨g,rfl⟩:∃ g,G=g+1:=⟨G-1,by omega⟩
 have hgg:(g+1)*valL d=g*valL d+valL d:=by rw[Nat.add_mul,Nat.one_mul]
 have hw:valL ((o2.set (i+d.length) 0).drop i)=valL (r.drop i)-g*valL d/\g*valL d<=valL (r.drop i):=by
  have e1:(o2.set (i+d.length) 0).drop i=(o2.drop i).set d.length 0:=by rw[List.drop_set,if_neg (by omega)];congr 1;omega
  have e2:=aa9 ((o2.drop i).set d.length 0) d.length (by simp;omega);have e3:valL (((o2.drop i).set d.length 0).drop d.length)=0:=by
   rw[val_drop (x:=0) (by rw[List.getElem?_set_self (by rw[List.length_drop];omega)]),List.drop_set_of_lt (by omega),List.drop_drop,<- Nat.add_assoc,<- List.drop_drop (i:=1),hb.high,List.drop_drop,List.drop_set_of_lt (by omega),<- List.drop_drop (i:=1),hs.high,List.drop_drop,hz]
  rw[e3,List.take_set_of_le (Nat.le_refl _)] at e2;rw[e1,e2];have e5:4294967296 ^ d.length*x+4294967296 ^ d.length*s=4294967296 ^ d.length*(c+b):=by rw[<- Nat.mul_add,Nat.add_comm x s,hsum]
  omega
 obtain⟨hw1,hw2⟩:=hw;have hql:i<q.length:=by rw[h.ql];omega
 refine⟨by simp[hb.len,hs.len,h.rl],by simp[h.ql],limb_set hb.lo _ (by decide),limb_set h.lq _ (by omega),?_,?_⟩
 ·have e1:=aa9 (o2.set (i+d.length) 0) i (by simp;omega);rw[hw1,List.take_set_of_le (by omega),hb.low,List.take_set_of_le (by omega),hs.low] at e1;have e2:=aa9 r i (by have:=hs.len;omega);have e3:valL ((q.set i (g+1-1)).drop i)=g+4294967296*valL (q.drop (i+1)):=by
   rw[val_drop (x:=g) (by rw[List.getElem?_set_self hql];rfl),List.drop_set_of_lt (by omega)]
  rw[e1,e3,h.eq,e2,Nat.pow_succ];have e5:4294967296 ^ i*valL (r.drop i)=4294967296 ^ i*(valL (r.drop i)-g*valL d)+4294967296 ^ i*(g*valL d):=by rw[<- Nat.mul_add];congr 1;omega
  rw[e5];grind
 ·rw[hw1];have:4294967296 ^ d.length*(x+1)<=4294967296 ^ d.length*(c+b):=Nat.mul_le_mul_left _ hfit;rw[Nat.mul_add] at this;omega
theorem avt {d:List Nat} {U m:Nat} {q r:List Nat} (h:afB d U m 0 q r):valL q=U/valL d/\valL r=U%valL d:=by
 have h1:=h.eq;have h2:=h.lt;simp only[List.drop_zero,Nat.pow_zero,Nat.one_mul] at h1 h2;have hp:0<valL d:=by omega
 rw[h1,Nat.add_mul_div_left _ _ hp,Nat.div_eq_of_lt h2,Nat.zero_add,Nat.add_mul_mod_self_left,Nat.mod_eq_of_lt h2];exact⟨rfl,rfl⟩
end Go.Proofs.YtcmplpkmfbhpdaaGreat
