import Derived.Test.YtcmplpkmfbhpdaaGreatGNat
import Derived.Test.YtcmplpkmfbhpdaaGreatGShift
namespace Go.Proofs.YtcmplpkmfbhpdaaGreat
theorem aaE {l:List Nat} {i:Nat} (h:l.length<=i):valL (l.take i)=valL l:=by rw[List.take_of_length_le h]
theorem acf {l:List Nat} {i:Nat} (h:l.length<=i):valL (l.take (i+1))=valL (l.take i):=by rw[List.take_of_length_le h,List.take_of_length_le (by omega)]
theorem acz (n:Nat):n%4294967296<4294967296:=Nat.mod_lt _ (by decide)
def afC (l m:List Nat) (i:Nat) (o:List Nat) (c:Nat):Prop:=o.length=i/\Limb o/\c<2/\valL o+4294967296 ^ i*c=valL (l.take i)+valL (m.take i)
theorem ajk (l m:List Nat):afC l m 0 [] 0:=⟨rfl,(λ_ h=>by cases h),by decide,by simp[valL]⟩
theorem al6 {l m:List Nat} {i:Nat} {o:List Nat} {c x y:Nat} (h:afC l m i o c) (hx:l[i]? =some x) (hy:m[i]? =some y) (hxb:x<4294967296) (hyb:y<4294967296) :
  afC l m (i+1) (o++[(c+x+y)%4294967296]) ((c+x+y)/4294967296):=by
 obtain⟨h1,h2,h3,h4⟩:=h;refine⟨by simp[h1],limb_snoc h2 (acz _),by omega,?_⟩;rw[val_snoc,h1,val_take_succ hx,val_take_succ hy,Nat.pow_succ];have:=add_step (x:=x) (y:=y) h4;omega
theorem aoB {l m:List Nat} {i:Nat} {o:List Nat} {c x:Nat} (h:afC l m i o c) (hx:l[i]? =some x) (hm:m.length<=i) (hxb:x<4294967296) :
  afC l m (i+1) (o++[(c+x)%4294967296]) ((c+x)/4294967296):=by
 obtain⟨h1,h2,h3,h4⟩:=h;refine⟨by simp[h1],limb_snoc h2 (acz _),by omega,?_⟩;rw[val_snoc,h1,val_take_succ hx,acf hm,Nat.pow_succ];have:=add_step (x:=x) (y:=0) h4;simp only[Nat.add_zero,Nat.mul_zero] at this;omega
theorem aoC {l m o:List Nat} {c:Nat} (h:afC l m l.length o c) (hml:m.length<=l.length):Limb (o++[c])/\(o++[c]).length=l.length+1/\valL (o++[c])=valL l+valL m:=by
 obtain⟨h1,h2,h3,h4⟩:=h;refine⟨limb_snoc h2 (by omega),by simp[h1],?_⟩;rw[val_snoc,h1,h4,aaE (Nat.le_refl _),aaE hml]
def LessAt (l m:List Nat) (i:Nat) (o:List Nat) (b:Nat):Prop:=o.length=i/\Limb o/\b<2/\valL o+valL (m.take i)=valL (l.take i)+4294967296 ^ i*b
theorem less_start (l m:List Nat):LessAt l m 0 [] 0:=⟨rfl,(λ_ h=>by cases h),by decide,by simp[valL]⟩
theorem less_both {l m:List Nat} {i:Nat} {o:List Nat} {b x y z b':Nat} (h:LessAt l m i o b) (hx:l[i]? =some x) (hy:m[i]? =some y) (hz:z<4294967296) (hb:b'<2) (he:z+y+b=x+4294967296*b') :
  LessAt l m (i+1) (o++[z]) b':=by
 obtain⟨h1,h2,h3,h4⟩:=h;refine⟨by simp[h1],limb_snoc h2 hz,hb,?_⟩;rw[val_snoc,h1,val_take_succ hx,val_take_succ hy,Nat.pow_succ];have:=adu h4 he;omega
theorem less_one {l m:List Nat} {i:Nat} {o:List Nat} {b x z b':Nat} (h:LessAt l m i o b) (hx:l[i]? =some x) (hm:m.length<=i) (hz:z<4294967296) (hb:b'<2) (he:z+b=x+4294967296*b') :
  LessAt l m (i+1) (o++[z]) b':=by
 obtain⟨h1,h2,h3,h4⟩:=h;refine⟨by simp[h1],limb_snoc h2 hz,hb,?_⟩;rw[val_snoc,h1,val_take_succ hx,acf hm,Nat.pow_succ];have:=adu (y:=0) h4 (by omega:z+0+b=x+4294967296*b');simp only[Nat.mul_zero,Nat.add_zero] at this;omega
theorem less_done {l m o:List Nat} {b:Nat} (h:LessAt l m l.length o b) (hml:m.length<=l.length) (hle:valL m<=valL l):Limb o/\o.length=l.length/\valL o=valL l-valL m:=by
 obtain⟨h1,h2,h3,h4⟩:=h;rw[aaE (Nat.le_refl _),aaE hml] at h4;refine⟨h2,h1,?_⟩;have hv:=val_lt h2;rw[h1] at hv;exact ahW hv h4 hle
def aeO (d:Nat) (l:List Nat) (i:Nat) (o:List Nat) (c:Nat):Prop:=o.length=i/\Limb o/\c<d/\valL o+4294967296 ^ i*c=valL (l.take i)*d
theorem aki {d:Nat} (l:List Nat) (hd:0<d):aeO d l 0 [] 0:=⟨rfl,(λ_ h=>by cases h),hd,by simp[valL]⟩
theorem aoL {d:Nat} {l:List Nat} {i:Nat} {o:List Nat} {c x:Nat} (h:aeO d l i o c) (hx:l[i]? =some x) (hxb:x<4294967296) :
  aeO d l (i+1) (o++[(c+x*d)%4294967296]) ((c+x*d)/4294967296):=by
 obtain⟨h1,h2,h3,h4⟩:=h;refine⟨by simp[h1],limb_snoc h2 (acz _),aqv h3 hxb,?_⟩;rw[val_snoc,h1,val_take_succ hx,Nat.pow_succ];have:=agR (x:=x) h4;omega
theorem aoM {d:Nat} {l o:List Nat} {c:Nat} (h:aeO d l l.length o c) (hd:d<=4294967296):Limb (o++[c])/\(o++[c]).length=l.length+1/\valL (o++[c])=valL l*d:=by
 obtain⟨h1,h2,h3,h4⟩:=h;refine⟨limb_snoc h2 (by omega),by simp[h1],?_⟩;rw[val_snoc,h1,h4,aaE (Nat.le_refl _)]
def afG (S:Nat) (l:List Nat) (i:Nat) (o:List Nat):Prop:=o.length=i/\Limb o/\valL (l.take i)+4294967296 ^ i*((l[i]?.getD 0)%S)=S*valL o+(l[0]?.getD 0)%S
theorem amL (S:Nat) (l:List Nat):afG S l 0 []:=⟨rfl,(λ_ h=>by cases h),by simp[valL]⟩
theorem alV {S U:Nat} {l:List Nat} {i:Nat} {o:List Nat} {x:Nat} (h:afG S l i o) (hx:l[i]? =some x) (hxb:x<4294967296) (hS:0<S) (hB:4294967296=S*U) :
  afG S l (i+1) (o++[((x+l[i+1]?.getD 0*4294967296)/S)%4294967296]):=by
 obtain⟨h1,h2,h4⟩:=h;refine⟨by simp[h1],limb_snoc h2 (acz _),?_⟩;rw[hx,Option.getD_some] at h4;rw[val_snoc,h1,val_take_succ hx,arE hS hB hxb,Nat.pow_succ];exact apB hB h4
theorem apC {S:Nat} {l o:List Nat} (h:afG S l l.length o) (hS:0<S):Limb o/\o.length=l.length/\valL o=valL l/S:=by
 obtain⟨h1,h2,h4⟩:=h;refine⟨h2,h1,?_⟩;rw[List.getElem?_eq_none (Nat.le_refl _),aaE (Nat.le_refl _)] at h4;simp only[Option.getD_none,Nat.zero_mod,Nat.mul_zero,Nat.add_zero] at h4;exact arF (Nat.mod_lt _ hS) h4
def MulAt (l m:List Nat) (i:Nat) (o:List Nat):Prop:=o.length=l.length+m.length/\Limb o/\valL o=valL (l.take i)*valL m/\∀ j,i+m.length<=j->j<l.length+m.length->o[j]? =some 0
def MulIn (l m:List Nat) (i x k:Nat) (o:List Nat) (c:Nat):Prop:=o.length=l.length+m.length/\Limb o/\c<4294967296/\valL o+4294967296 ^ (i+k)*c=valL (l.take i)*valL m+4294967296 ^ i*x*valL (m.take k)/\∀ j,i+m.length<=j->j<l.length+m.length->o[j]? =some 0
theorem mul_start (l m:List Nat):MulAt l m 0 (List.replicate (l.length+m.length) 0):=
 ⟨by simp,limb_zeros _,by rw[ads];simp[valL],λj h1 h2=>by rw[List.getElem?_replicate,if_pos h2]⟩
theorem mul_in {l m:List Nat} {i x:Nat} {o:List Nat} (h:MulAt l m i o):MulIn l m i x 0 o 0:=
 ⟨h.1,h.2.1,by decide,by rw[h.2.2.1];simp[valL],h.2.2.2⟩
theorem mul_one {l m:List Nat} {i x k:Nat} {o:List Nat} {c y v:Nat} (h:MulIn l m i x k o c) (hx:x<4294967296) (hy:m[k]? =some y) (hyb:y<4294967296) (hv:o[i+k]? =some v) :
  MulIn l m i x (k+1) (o.set (i+k) ((c+(x*y+v))%4294967296)) ((c+(x*y+v))/4294967296):=by
 obtain⟨h1,h2,h3,h4,h5⟩:=h;have hvb:=h2 v (List.mem_of_getElem? hv);have hkm:k<m.length:=(List.getElem?_eq_some_iff.1 hy).1;refine⟨by simp[h1],limb_set h2 _ (acz _),?_,?_,?_⟩
 ·have:x*y<=4294967295*4294967295:=Nat.mul_le_mul (by omega) (by omega);omega
 ·have e1:=adq ((c+(x*y+v))%4294967296) hv;have e2:=ahS (x:=x) (y:=y) (o:=v) h4;rw[val_take_succ hy,show i+(k+1)=i+k+1 from rfl,Nat.pow_succ];have e3:4294967296 ^ i*x*(valL (m.take k)+4294967296 ^ k*y)=4294967296 ^ i*x*valL (m.take k)+4294967296 ^ (i+k)*(x*y):=by
   rw[Nat.pow_add];grind
  rw[e3];omega
 ·intro j hj1 hj2;rw[List.getElem?_set_ne (by omega)];exact h5 j hj1 hj2
theorem mul_out {l m:List Nat} {i x:Nat} {o:List Nat} {c:Nat} (h:MulIn l m i x m.length o c) (hx:l[i]? =some x):MulAt l m (i+1) (o.set (i+m.length) c):=by
 obtain⟨h1,h2,h3,h4,h5⟩:=h;have hil:i<l.length:=(List.getElem?_eq_some_iff.1 hx).1;refine⟨by simp[h1],limb_set h2 _ h3,?_,?_⟩
 ·have e1:=adq c (h5 (i+m.length) (Nat.le_refl _) (by omega));rw[val_take_succ hx,Nat.add_mul];rw[aaE (Nat.le_refl _)] at h4;omega
 ·intro j hj1 hj2;rw[List.getElem?_set_ne (by omega)];exact h5 j (by omega) hj2
theorem mul_end {l m o:List Nat} (h:MulAt l m l.length o):Limb o/\o.length=l.length+m.length/\valL o=valL l*valL m:=
 ⟨h.2.1,h.1,by rw[h.2.2.1,aaE (Nat.le_refl _)]⟩
theorem mul_at {l m:List Nat} {i x k:Nat} {o:List Nat} {c:Nat} (h:MulIn l m i x k o c) (hi:i<l.length) (hk:k<m.length):∃ v,o[i+k]? =some v/\v<4294967296:=by
 have hl:i+k<o.length:=by rw[h.1];omega
 exact⟨_,List.getElem?_eq_getElem hl,h.2.1 _ (List.getElem_mem hl)⟩
theorem aku {l m:List Nat} (h:l.drop 0=m.drop 0):l=m:=by simpa using h
theorem apA {l m:List Nat} {i x:Nat} (h:l.drop (i+1)=m.drop (i+1)) (hx:l[i]? =some x) (hy:m[i]? =some x):l.drop i=m.drop i:=by
 obtain⟨h1,e1⟩:=List.getElem?_eq_some_iff.1 hx;obtain⟨h2,e2⟩:=List.getElem?_eq_some_iff.1 hy;rw[List.drop_eq_getElem_cons h1,List.drop_eq_getElem_cons h2,e1,e2,h]
end Go.Proofs.YtcmplpkmfbhpdaaGreat
