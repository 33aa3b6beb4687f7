import Derived.Test.YtcmplpkmfbhpdaaGreatGDec
import Derived.Test.YtcmplpkmfbhpdaaGreatSyE
import Derived.Test.YtcmplpkmfbhpdaaGreatRfN
import Derived.Test.YtcmplpkmfbhpdaaGreatSyD
namespace Go.Proofs.YtcmplpkmfbhpdaaGreat.Dec
theorem aaE {l:List Nat} {i:Nat} (h:l.length<=i):valL (l.take i)=valL l:=by rw[List.take_of_length_le h]
theorem acf {l:List Nat} {i:Nat} (h:l.length<=i):valL (l.take (i+1))=valL (l.take i):=by rw[List.take_of_length_le h,List.take_of_length_le (by omega)]
theorem acz (n:Nat):n%10000<10000:=Nat.mod_lt _ (by decide)
def LessAt (l m:List Nat) (i:Nat) (o:List Nat) (b:Nat):Prop:=o.length=i/\Limb o/\b<2/\valL o+valL (m.take i)=valL (l.take i)+10000 ^ i*b
theorem less_start (l m:List Nat):LessAt l m 0 [] 0:=⟨rfl,(λ_ h=>by cases h),by decide,by simp[valL]⟩
theorem less_both {l m:List Nat} {i:Nat} {o:List Nat} {b x y z b':Nat} (h:LessAt l m i o b) (hx:l[i]? =some x) (hy:m[i]? =some y) (hz:z<10000) (hb:b'<2) (he:z+y+b=x+10000*b') :
  LessAt l m (i+1) (o++[z]) b':=by
 obtain⟨h1,h2,h3,h4⟩:=h;refine⟨by simp[h1],limb_snoc h2 hz,hb,?_⟩;rw[val_snoc,h1,val_take_succ hx,val_take_succ hy,Nat.pow_succ];have:=adu h4 he;omega
theorem less_one {l m:List Nat} {i:Nat} {o:List Nat} {b x z b':Nat} (h:LessAt l m i o b) (hx:l[i]? =some x) (hm:m.length<=i) (hz:z<10000) (hb:b'<2) (he:z+b=x+10000*b') :
  LessAt l m (i+1) (o++[z]) b':=by
 obtain⟨h1,h2,h3,h4⟩:=h;refine⟨by simp[h1],limb_snoc h2 hz,hb,?_⟩;rw[val_snoc,h1,val_take_succ hx,acf hm,Nat.pow_succ];have:=adu (y:=0) h4 (by omega:z+0+b=x+10000*b');simp only[Nat.mul_zero,Nat.add_zero] at this;omega
theorem less_done {l m o:List Nat} {b:Nat} (h:LessAt l m l.length o b) (hml:m.length<=l.length) (hle:valL m<=valL l):Limb o/\o.length=l.length/\valL o=valL l-valL m:=by
 obtain⟨h1,h2,h3,h4⟩:=h;rw[aaE (Nat.le_refl _),aaE hml] at h4;refine⟨h2,h1,?_⟩;have hv:=val_lt h2;rw[h1] at hv;exact ahW hv h4 hle
def MulAt (l m:List Nat) (i:Nat) (o:List Nat):Prop:=o.length=l.length+m.length+1/\Limb o/\valL o=valL (l.take i)*valL m/\∀ j,i+m.length<=j->j<l.length+m.length+1->o[j]? =some 0
def MulIn (l m:List Nat) (i x k:Nat) (o:List Nat) (c:Nat):Prop:=o.length=l.length+m.length+1/\Limb o/\c<10000/\valL o+10000 ^ (i+k)*c=valL (l.take i)*valL m+10000 ^ i*x*valL (m.take k)/\∀ j,i+m.length<=j->j<l.length+m.length+1->o[j]? =some 0
theorem mul_start (l m:List Nat):MulAt l m 0 (List.replicate (l.length+m.length+1) 0):=
 ⟨by simp,limb_zeros _,by rw[ads];simp[valL],λj h1 h2=>by rw[List.getElem?_replicate,if_pos h2]⟩
theorem mul_in {l m:List Nat} {i x:Nat} {o:List Nat} (h:MulAt l m i o):MulIn l m i x 0 o 0:=
 ⟨h.1,h.2.1,by decide,by rw[h.2.2.1];simp[valL],h.2.2.2⟩
theorem mul_one {l m:List Nat} {i x k:Nat} {o:List Nat} {c y v:Nat} (h:MulIn l m i x k o c) (hx:x<10000) (hy:m[k]? =some y) (hyb:y<10000) (hv:o[i+k]? =some v) :
  MulIn l m i x (k+1) (o.set (i+k) ((c+(x*y+v))%10000)) ((c+(x*y+v))/10000):=by
 obtain⟨h1,h2,h3,h4,h5⟩:=h;have hvb:=h2 v (List.mem_of_getElem? hv);have hkm:k<m.length:=(List.getElem?_eq_some_iff.1 hy).1;refine⟨by simp[h1],limb_set h2 _ (acz _),?_,?_,?_⟩
 ·have:x*y<=9999*9999:=Nat.mul_le_mul (by omega) (by omega);omega
 ·have e1:=adq ((c+(x*y+v))%10000) hv;have e2:=ahS (x:=x) (y:=y) (o:=v) h4;rw[val_take_succ hy,show i+(k+1)=i+k+1 from rfl,Nat.pow_succ];have e3:10000 ^ i*x*(valL (m.take k)+10000 ^ k*y)=10000 ^ i*x*valL (m.take k)+10000 ^ (i+k)*(x*y):=by
   rw[Nat.pow_add];grind
  rw[e3];omega
 ·intro j hj1 hj2;rw[List.getElem?_set_ne (by omega)];exact h5 j hj1 hj2
theorem mul_out {l m:List Nat} {i x:Nat} {o:List Nat} {c:Nat} (h:MulIn l m i x m.length o c) (hx:l[i]? =some x):MulAt l m (i+1) (o.set (i+m.length) c):=by
 obtain⟨h1,h2,h3,h4,h5⟩:=h;have hil:i<l.length:=(List.getElem?_eq_some_iff.1 hx).1;refine⟨by simp[h1],limb_set h2 _ h3,?_,?_⟩
 ·have e1:=adq c (h5 (i+m.length) (Nat.le_refl _) (by omega));rw[val_take_succ hx,Nat.add_mul];rw[aaE (Nat.le_refl _)] at h4;omega
 ·intro j hj1 hj2;rw[List.getElem?_set_ne (by omega)];exact h5 j (by omega) hj2
theorem mul_end {l m o:List Nat} (h:MulAt l m l.length o):Limb o/\o.length=l.length+m.length+1/\valL o=valL l*valL m:=
 ⟨h.2.1,h.1,by rw[h.2.2.1,aaE (Nat.le_refl _)]⟩
theorem mul_at {l m:List Nat} {i x k:Nat} {o:List Nat} {c:Nat} (h:MulIn l m i x k o c) (hi:i<l.length) (hk:k<m.length):∃ v,o[i+k]? =some v/\v<10000:=by
 have hl:i+k<o.length:=by rw[h.1];omega
 exact⟨_,List.getElem?_eq_getElem hl,h.2.1 _ (List.getElem_mem hl)⟩
theorem limbs_inj {x y:Nat} (h:limbs x=limbs y):x=y:=by
 rw[<- val_limbs x,h,val_limbs]
theorem getD_of {l:List Nat} {i:Nat} (h:i<l.length):l[i]? =some (l.getD i 0):=by
 simp[List.getD,h]
theorem getD_lt {l:List Nat} (hl:Limb l) (i:Nat):l.getD i 0<10000:=by
 rcases Nat.lt_or_ge i l.length with h | h
 ·rw[List.getD,List.getElem?_eq_getElem h];exact hl _ (List.getElem_mem h)
 ·rw[List.getD,List.getElem?_eq_none h];decide
theorem limbs_le (x k:Nat) (h:x<10000 ^ k):(limbs x).length<=k:=(limbs_len x k).2 h
theorem set_same {o:List Nat} {j x:Nat} (h:o[j]? =some x):o.set j x=o:=by
 apply List.ext_getElem?;intro i;rw[List.getElem?_set];split
 ·rename_i e;subst e;have:=(List.getElem?_eq_some_iff.1 h).1;rw[if_pos this,h]
 ·rfl
def dg (x:Nat):Nat:=(limbs x).length
theorem dg_add (x y:Nat):dg (x+y)<=dg x+dg y+1:=by
 refine limbs_le _ _ ?_;have h1:=(limbs_len x _).1 (Nat.le_refl _);have h2:=(limbs_len y _).1 (Nat.le_refl _);rw[Nat.pow_succ,Nat.pow_add];have h5:10000 ^ (limbs x).length<=10000 ^ (limbs x).length*10000 ^ (limbs y).length:=Nat.le_mul_of_pos_right _ (Nat.pow_pos (by omega));have h6:10000 ^ (limbs y).length<=10000 ^ (limbs x).length*10000 ^ (limbs y).length:=Nat.le_mul_of_pos_left _ (Nat.pow_pos (by omega));unfold dg;omega
theorem dg_mul (x y:Nat):dg (x*y)<=dg x+dg y:=by
 refine limbs_le _ _ ?_;have h1:=(limbs_len x _).1 (Nat.le_refl _);have h2:=(limbs_len y _).1 (Nat.le_refl _);rw[Nat.pow_add];exact Nat.mul_lt_mul'' h1 h2
theorem dg_mono {x y:Nat} (h:x<=y):dg x<=dg y:=limbs_mono h
end Go.Proofs.YtcmplpkmfbhpdaaGreat.Dec
namespace Go.Proofs.YtcmplpkmfbhpdaaGreat
open Go Go.RowKit
set_option maxRecDepth 1000000
def prd (a0 a1:List Adj):abW:=⟨Unit,λ_=>True,λ_=>⟨[],[]⟩,λ_=>0,a0,a1,none⟩
structure PW (p:Prop):Prop where
 h:p
abbrev adO (l:List Nat):aaa:= .row 1 l.length (acv l)
def alw (l:List Nat):abW:=⟨Nat,λk=>k<=l.length/\∀ j,k<=j->j<l.length->l.getD j 0=0,λk=>⟨[(0,.s false [adO l]),(2,.s false [.own 2 0]),(3,.s false [.v (.int .i64 (k:Nat))])],[(2,.st 58 [.v (.slice none 0 0)])]⟩,λk=>k,[],[],none⟩
structure DI where
 i:Nat
 j:Nat
 c:Nat
 v:Nat
 o:List Nat
def aoa (n:Nat):abW:=⟨DI,λp=>p.o++Dec.limbs p.i=Dec.limbs n/\p.i<=n,λp=>⟨[(0,.s false [.v (.int .u64 (p.i:Nat))]),(2,.s false [.own 2 0]),(3,.s false [.hd 900])],[(2,.st 58 [.v (.slice none 0 0)]),(900,.row 3 1 p.o.length (acv p.o))]⟩,λp=>p.i,[.nil 3 900 3 1],[.ren 11 900],none⟩
def ayy (x y:Nat):List (Nat × aae):=[(2,.st 58 [adO (Dec.limbs x)]),(3,.st 58 [adO (Dec.limbs y)])]
def alB (x y:Nat):abW:=⟨DI,λp=>aij x y p.i p.o p.c,λp=>⟨[(2,.s false [.own 2 0]),(3,.s false [.own 3 0]),(4,.s false [.own 4 0]),(5,.s false [.hd 900]),(6,.s false [.v (.int .i64 (p.c:Nat))]),(7,.s false [.v (.int .i64 (p.i:Nat))])],ayy x y++[(4,.st 58 [.v (.slice none 0 0)]),(900,.row 3 1 p.o.length (acv p.o))]⟩,λp=>(Dec.limbs x).length+(Dec.limbs y).length+2-p.i,[.nil 5 900 3 1],[.ren 54 900],none⟩
def aiU (x y:Nat):abW:=⟨DI,λp=>p.i<=(Dec.limbs x).length/\PW (Dec.LessAt (Dec.limbs x) (Dec.limbs y) p.i p.o p.c),λp=>⟨[(2,.s false [.own 2 0]),(3,.s false [.own 3 0]),(4,.s false [.own 4 0]),(5,.s false [.hd 900]),(6,.s false [.v (.int .i64 (p.c:Nat))]),(7,.s false [.v (.int .i64 (p.i:Nat))])],ayy x y++[(4,.st 58 [.v (.slice none 0 0)]),(900,.row 3 1 p.o.length (acv p.o))]⟩,λp=>(Dec.limbs x).length-p.i,[.nil 5 900 3 1],[.ren 42 900],none⟩
def alx (x y:Nat):abW:=⟨Nat,λk=>k<=(Dec.limbs x).length/\(Dec.limbs x).drop k=(Dec.limbs y).drop k,λk=>⟨[(2,.s false [.own 2 0]),(3,.s false [.own 3 0]),(5,.s false [.v (.int .i64 ((k:Nat)-1:Int))])],ayy x y⟩,λk=>k,[],[],none⟩
def atr (x y:Nat) (o:List Nat):List (Nat × aae):=ayy x y++[(4,.st 58 [.v (.slice none 0 0)]),(18,.row 3 1 ((Dec.limbs x).length+(Dec.limbs y).length+1) (acv o))]
def atp (i:Nat):List (Nat × AV):=[(2,.s false [.own 2 0]),(3,.s false [.own 3 0]),(4,.s false [.own 4 0]),(5,.s false [.hd 18]),(6,.s false [.v (.int .i64 (i:Nat))])]
def aiT (x y:Nat):abW:=⟨DI,λp=>p.i<=(Dec.limbs x).length/\PW (Dec.MulAt (Dec.limbs x) (Dec.limbs y) p.i p.o),λp=>⟨atp p.i,atr x y p.o⟩,λp=>(Dec.limbs x).length-p.i,[],[],none⟩
def aiS (x y:Nat):abW:=⟨DI,λp=>p.i<(Dec.limbs x).length/\p.j<=(Dec.limbs y).length/\PW (Dec.MulIn (Dec.limbs x) (Dec.limbs y) p.i ((Dec.limbs x).getD p.i 0) p.j p.o p.c),λp=>⟨atp p.i++[(7,.s false [.v (.int .i64 (p.c:Nat))]),(8,.s false [.v (.int .i64 (p.j:Nat))])],atr x y p.o⟩,λp=>(Dec.limbs y).length-p.j,[],[],some λp=>p.i⟩
def aiR (x y:Nat):abW:=⟨DI,λp=>p.i<(Dec.limbs x).length/\p.c<10000/\PW ((p.j=0/\Dec.MulIn (Dec.limbs x) (Dec.limbs y) p.i ((Dec.limbs x).getD p.i 0) (Dec.limbs y).length p.o p.c)\/(p.j=1/\p.c=0/\Dec.MulAt (Dec.limbs x) (Dec.limbs y) (p.i+1) p.o)),λp=>⟨atp p.i++[(7,.s false [.v (.int .i64 (p.c:Nat))]),(9,.s false [.v (.int .i64 ((p.i+(Dec.limbs y).length+p.j:Nat):Int))])],atr x y p.o⟩,λp=>1-p.j,[],[],some λp=>p.i⟩
theorem aac.ik {k:IntKind} {x y:Int} (h:x=y):aac (.s false [.v (.int k x)]) (.s false [.v (.int k y)]):=by subst h;exact aac.refl _
theorem CLe.m_row (x:Nat):CLe (.m x) (adO (Dec.limbs x)):=by
 refine⟨λG F w v hv=> ?_⟩;have hv':COk F w (.m x) v:=hv;cases hv' with
 |m h=>exact GOk.of h
theorem ajO {F:Nat->Prop} {w:World} {sz n:Nat} {e e':Nat->List aaa} {v:Value} (h:COk F w (.row sz n e) v) (k:∀ i,i<n->aan (e i) (e' i)) (hcl:∀ i,i<n->(e' i).all aaa.cl=true):COk F w (.row sz n e') v:=by
 cases h with
 |row0=>exact .row0
 |row vals hF hn hl hc ho=>
  refine .row vals hF hn (λi hi=>by rw[<- (k i hi).len];exact hl i hi) hc λi j c hi hj=> ?_;have hjl:j<(e i).length:=by rw[(k i hi).len];exact (List.getElem?_eq_some_iff.1 hj).1
  have h1:=List.getElem?_eq_getElem hjl;have h2:=((k i hi).h j _ c h1 hj).h (λ_=>⟨undef,λ_=>False⟩) F w _ (GOk.of (ho i j _ hi h1));exact COk.of h2 (List.all_eq_true.1 (hcl i hi) c (List.mem_of_getElem? hj))
theorem CLe.row_m {n x:Nat} {e:Nat->List aaa} (h:n=(Dec.limbs x).length) (k:∀ i,i<n->aan (e i) (acv (Dec.limbs x) i)):CLe (.row 1 n e) (.m x):=by
 refine⟨λG F w v hv=> ?_⟩;have hv':COk F w (.row 1 n e) v:=hv;have h2:=ajO hv' k λ_ _=>rfl;rw[h] at h2;exact GOk.of (.m h2)
theorem CLe.row2d {n:Nat} {l:List Nat} {e:Nat->List aaa} (h:n=l.length) (k:∀ i,i<n->aan (e i) (acv l i)):CLe (.row 1 n e) (adO l):=by
 refine⟨λG F w v hv=> ?_⟩;have hv':COk F w (.row 1 n e) v:=hv;have h2:=ajO hv' k λ_ _=>rfl;rw[h] at h2;exact GOk.of h2
theorem CLe.nil_m:CLe (.v (.slice none 0 0)) (.m 0):=by
 refine⟨λG F w v hv=> ?_⟩;obtain⟨rfl,_⟩:=abm hv;refine GOk.of (.m ?_);rw[Dec.limbs_zero];exact .row0
theorem ae4 {l:List Nat} {i:Nat} {x:Int} (h:x=((l.getD i 0:Nat):Int)):aan [.v (.int .i64 x)] (acv l i):=by
 subst h;exact aan.refl _
theorem ace {T:TypeId} {l:List Nat} {z:Int} {x:Nat} (h:z=(x:Int)):aaf (.row T 1 (l.length+1) λj=>if j<l.length then [.v (.int .i64 ((l.getD j 0:Nat):Int))] else [[aaa.v (.int .i64 z)]].getD (j-l.length) []) (.row T 1 (l++[x]).length (acv (l++[x]))):=by
 subst h;refine aaf.row (by simp) (λj hj=> ?_) (λ_ _=>rfl);by_cases hjl:j<l.length
 ·rw[if_pos hjl];refine ae4 ?_;simp[List.getD,List.getElem?_append_left hjl]
 ·have:j=l.length:=by omega
  subst this;rw[if_neg hjl,Nat.sub_self];exact ae4 (by simp[List.getD])
theorem akc {T:TypeId} {l:List Nat} {n j:Nat} {z:Int} {x:Nat} (hn:n=l.length) (h:z=(x:Int)):aaf (.row T 1 n λi=>if i=j then [.v (.int .i64 z)] else [.v (.int .i64 ((l.getD i 0:Nat):Int))]) (.row T 1 n (acv (l.set j x))):=by
 subst h;refine aaf.row rfl (λi hi=> ?_) (λ_ _=>rfl);rw[hn] at hi;by_cases e:i=j
 ·subst e;rw[if_pos rfl];exact ae4 (by simp[List.getD,hi])
 ·rw[if_neg e];exact ae4 (by simp[List.getD,List.getElem?_set_ne (Ne.symm e)])
theorem akd {T:TypeId} : aaf (.row T 1 0 λ_=>[]) (.row T 1 ([]:List Nat).length (acv [])):=aaf.row rfl (λ_j hj=>absurd hj (Nat.not_lt_zero _)) (λ_ _=>rfl)
theorem al9 {x:Nat} (h:x<9223372036854775808):IntKind.i64.wrap (x:Int)=(x:Int):=by rw[IntKind.wrap_i64];omega
theorem aik (a b:Nat):Int.tmod (a:Int) (b:Int)=((a%b:Nat):Int):=(Int.ofNat_tmod a b).symm
theorem afw (a b:Nat):Int.tdiv (a:Int) (b:Int)=((a/b:Nat):Int):=(Int.ofNat_tdiv a b).symm
abbrev ast (l:List Nat):Prop:=vc Tryz.prog (lk []) Tryz.f215.ntmps [(2,alw l)] (Tryz.f215.body.getD .skip) ⟨aao [.s false [adO l]] 0,[]⟩ (aaH Tryz.prog Tryz.f215.results.toList (.s true [.m (Dec.valL l)]))
theorem auV (l:List Nat):ast l=(let p0:=λ(i:Nat)=>((0:Int)<=(0:Int)/\(0:Int)<=(↑i:Int)/\(↑i:Int)<=(↑l.length:Int))/\aac (AV.s true [aaa.row 1 ((↑i:Int).toNat-(0:Int).toNat) λ(i:Nat)=>[aaa.v (Value.int IntKind.i64 (↑(List.getD l (i+(0:Int).toNat) 0):Int))]]) (AV.s true [aaa.m (Dec.valL l)]);let p1:=SmB (aae.st 58 [aaa.v (Value.slice none 0 0)])/\True;let p2:=λ(Z:Prop)=>SmA (AV.s false [aaa.row 1 l.length (acv l)])/\SmA (AV.s false [aaa.own 2 0])/\Z;(Exists λ(i:Nat)=>(i<=l.length/\∀ (j:Nat),i<=j->j<l.length->List.getD l j 0=0)/\(p2 (aac (AV.s false [aaa.v (Value.int IntKind.i64 (↑l.length:Int))]) (AV.s false [aaa.v (Value.int IntKind.i64 (↑i:Int))])/\True))/\p1)/\∀ (i:Nat),(i<=l.length/\∀ (j:Nat),i<=j->j<l.length->List.getD l j 0=0)->(decide ((↑i:Int)>(0:Int))=true->decide ((↑i:Int)>(0:Int))=true/\((0:Int)<=IntKind.wrap IntKind.i64 ((↑i:Int)-(1:Int))/\IntKind.wrap IntKind.i64 ((↑i:Int)-(1:Int))<(↑l.length:Int))/\(((↑(List.getD l (IntKind.wrap IntKind.i64 ((↑i:Int)-(1:Int))).toNat 0):Int) == (0:Int))=true->Exists λ(i':Nat)=>(i'<=l.length/\∀ (j:Nat),i'<=j->j<l.length->List.getD l j 0=0)/\i'<i/\(p2 (aac (AV.s false [aaa.v (Value.int IntKind.i64 (IntKind.wrap IntKind.i64 ((↑i:Int)-(1:Int))))]) (AV.s false [aaa.v (Value.int IntKind.i64 (↑i':Int))])/\True))/\p1)/\(((↑(List.getD l (IntKind.wrap IntKind.i64 ((↑i:Int)-(1:Int))).toNat 0):Int) == (0:Int))=false->(p0 i)))/\(decide ((↑i:Int)>(0:Int))=false->decide ((↑i:Int)>(0:Int))=false/\(p0 i))):=by kernel_rfl
theorem apj (l:List Nat) (hl:Dec.Limb l) (hn:l.length<=10000000):ast l:=by
 rw[auV];simp only[SmA,SmB,aaP,abj,true_and,and_true,decide_eq_true_eq,decide_eq_false_iff_not];have fin:∀ k,k<=l.length->(∀ j,k<=j->j<l.length->l.getD j 0=0)->(k=0\/l.getD (k-1) 0≠0)->aac (.s true [.row 1 (Int.toNat (k:Int)-Int.toNat (0:Int)) λi=>[.v (.int .i64 ((l.getD (i+Int.toNat (0:Int)) 0:Nat):Int))]]) (.s true [.m (Dec.valL l)]):=by
  intro k hk hz ht;have e:=Dec.cut_limbs hl k hk (λj hj x hx=>by
   have hjl:=(List.getElem?_eq_some_iff.1 hx).1;have:=hz j hj hjl;rw[List.getD,hx] at this;exact this) (ht.imp id λh hx=>h (by rw[List.getD,hx];rfl))
  have hlen:(Dec.limbs (Dec.valL l)).length=k:=by rw[<- e,List.length_take];omega
  refine aac.s (aan.cons (CLe.row_m (by rw[hlen];rfl) λi hi=>ae4 ?_) aan.nil);have hi':i<k:=hi;rw[<- e,List.getD,List.getD,List.getElem?_take,if_pos hi'];rfl
 refine⟨⟨l.length,⟨Nat.le_refl _,λj h1 h2=>by omega⟩,aac.ik rfl⟩,λk ⟨h1,h2⟩=>⟨λhk=>⟨?_,?_,λhz=>⟨k-1,⟨by omega,λj h3 h4=> ?_⟩,by omega,?_⟩,λhz=>⟨by omega,?_⟩⟩,λhk=>⟨by omega,by omega,?_⟩⟩⟩
 ·omega
 ·rw[IntKind.wrap_i64];omega
 ·rcases Nat.lt_or_ge j k with h5 | h5
  ·have:j=k-1:=by omega
   subst this;have e:(IntKind.i64.wrap ((k:Int)-1)).toNat=k-1:=by rw[IntKind.wrap_i64];omega
   rw[e,beq_iff_eq] at hz;omega
  ·exact h2 j h5 h4
 ·exact aac.ik (by rw[IntKind.wrap_i64];omega)
 ·have e:(IntKind.i64.wrap ((k:Int)-1)).toNat=k-1:=by rw[IntKind.wrap_i64];omega
  rw[e] at hz;refine fin k h1 h2 (.inr λh0=> ?_);rw[h0] at hz;cases hz
 ·exact fin k h1 h2 (.inl (by omega))
abbrev aww (n:Nat):Prop:=vc Tryz.prog (lk []) Tryz.f168.ntmps [(2,aoa n)] (Tryz.f168.body.getD .skip) ⟨aao [.s false [.v (.int .u64 (n:Nat))]] 0,[]⟩ (aaH Tryz.prog Tryz.f168.results.toList (.s true [.m n]))
theorem axD (n:Nat):aww n=(let p0:=SmA (AV.s false [aaa.own 2 0])/\SmA (AV.s false [aaa.hd 900])/\True;let p1:=λ(Z:Prop)=>SmB (aae.st 58 [aaa.v (Value.slice none 0 0)])/\Z;let p2:=λ(i:DI)=>DI.o i++Dec.limbs (DI.i i)=Dec.limbs n/\DI.i i<=n;(Exists λ(i:DI)=>((p2 i))/\(aac (AV.s false [aaa.v (Value.int IntKind.u64 (↑n:Int))]) (AV.s false [aaa.v (Value.int IntKind.u64 (↑(DI.i i):Int))])/\p0)/\p1 (aaf (aae.row 3 1 0 λ(_x:Nat)=>[]) (aae.row 3 1 (DI.o i).length (acv (DI.o i)))/\True))/\∀ (i:DI),(p2 i)->(decide ((↑(DI.i i):Int)>(0:Int))=true->(10000:Int)≠(0:Int)/\(0<=1/\((DI.o i).length+1)*8<=140737488355328)/\(10000:Int)≠(0:Int)/\Exists λ(i':DI)=>(DI.o i'++Dec.limbs (DI.i i')=Dec.limbs n/\DI.i i'<=n)/\DI.i i'<DI.i i/\(aac (AV.s false [aaa.v (Value.int IntKind.u64 (IntKind.wrap IntKind.u64 (Int.tdiv (↑(DI.i i):Int) (10000:Int))))]) (AV.s false [aaa.v (Value.int IntKind.u64 (↑(DI.i i'):Int))])/\p0)/\p1 (aaf (aae.row 3 1 ((DI.o i).length+1) λ(j:Nat)=>if j<(DI.o i).length then [aaa.v (Value.int IntKind.i64 (↑(List.getD (DI.o i) j 0):Int))] else List.getD [[aaa.v (Value.int IntKind.i64 (IntKind.wrap IntKind.i64 (Int.tmod (↑(DI.i i):Int) (10000:Int))))]] (j-(DI.o i).length) []) (aae.row 3 1 (DI.o i').length (acv (DI.o i')))/\True))/\(decide ((↑(DI.i i):Int)>(0:Int))=false->aac (AV.s true [aaa.row 1 (DI.o i).length (acv (DI.o i))]) (AV.s true [aaa.m n]))):=by kernel_rfl
theorem ard (n:Nat) (hn:n<18446744073709551616):aww n:=by
 rw[axD];simp only[SmA,SmB,aaP,abj,true_and,and_true,decide_eq_true_eq,decide_eq_false_iff_not];have h5:(Dec.limbs n).length<=5:=Dec.limbs_le n 5 (by rw[show (10000:Nat) ^ 5=100000000000000000000 by decide];omega);refine⟨⟨⟨n,0,0,0,[]⟩,⟨rfl,Nat.le_refl _⟩,aac.refl _,akd⟩,λ⟨y,_,_,_,o⟩ ⟨h1,h2⟩=> ?_⟩;dsimp only at h1 h2 ⊢;have hol:o.length<=5:=by
  have:=congrArg List.length h1;simp only[List.length_append] at this;omega
 refine⟨λhy=>⟨by decide,⟨by omega,by omega⟩,by decide,⟨y/10000,0,0,0,o++[y%10000]⟩,⟨?_,?_⟩,?_,aac.ik ?_,ace ?_⟩,λhy=> ?_⟩
 ·rw[<- h1,Dec.limbs_pos (n:=y) (by omega),List.append_assoc];rfl
 ·show y/10000<=n;omega
 ·show y/10000<y;omega
 ·have:Int.tdiv (y:Int) 10000=((y/10000:Nat):Int):=afw y 10000;show IntKind.u64.wrap (Int.tdiv (y:Int) 10000)=((y/10000:Nat):Int);rw[this,IntKind.wrap_u64];omega
 ·have:Int.tmod (y:Int) 10000=((y%10000:Nat):Int):=aik y 10000;rw[this,IntKind.wrap_i64];omega
 ·have h0:y=0:=by omega
  subst h0;rw[Dec.limbs_zero,List.append_nil] at h1;subst h1;exact aac.s (aan.cons (CLe.row_m rfl λi _=>aan.refl _) aan.nil)
abbrev asx (x y:Nat):Prop:=vc Tryz.prog (lk []) Tryz.f167.ntmps [(4,alB x y)] (Tryz.f167.body.getD .skip) ⟨aao [.s true [adO (Dec.limbs x)],.s true [adO (Dec.limbs y)]] 0,[]⟩ (aaH Tryz.prog Tryz.f167.results.toList (.s true [.m (x+y)]))
theorem auX (x y:Nat):asx x y=(let k3:=λ(zz:DI)=>(↑(DI.i zz):Int);let k4:=aae.st 58 [aaa.v (Value.slice none 0 0)];let k7:=λ(zz:DI)=>(aae.row 3 1 (DI.o zz).length (acv (DI.o zz)));let k8:=λ(zz:DI)=>(AV.s false [aaa.v (Value.int IntKind.i64 (k3 zz))]);let k10:=(10000:Int);let k11:=λ(zz:DI)=>((DI.o zz).length+1);let k13:=AV.s false [aaa.own 2 0];let k14:=AV.s false [aaa.own 3 0];let k15:=AV.s false [aaa.own 4 0];let k16:=AV.s false [aaa.hd 900];let k18:=Dec.limbs y;let k19:=(0:Int);let k20:=λ(zz:DI)=>(↑(DI.c zz):Int);let k21:=λ(zz:Nat)=>(Dec.limbs zz);let k22:=λ(zz:DI)=>(AV.s false [aaa.v (Value.int IntKind.i64 (IntKind.wrap IntKind.i64 (Int.tdiv (k20 zz) k10)))]);let k24:=λ(zz:DI)=>(k3 zz).toNat;let k26:=λ(zz:DI)=>(Value.int IntKind.i64 (Int.tmod (k20 zz) k10));let k27:=AV.s false [aaa.v (Value.int IntKind.i64 k19)];let k0:=aae.st 58 [aaa.row 1 k18.length (acv k18)];let k1:=λ(zz:DI)=>(AV.s false [aaa.v (Value.int IntKind.i64 (IntKind.wrap IntKind.i64 ((k3 zz)+(1:Int))))]);let k2:=λ(zz:Nat)=>(aae.st 58 [aaa.row 1 (k21 zz).length (acv (k21 zz))]);let k5:=(↑k18.length:Int);let k6:=λ(zz:DI)=>(AV.s false [aaa.v (Value.int IntKind.i64 (k20 zz))]);let k9:=λ(zz:DI)=>(↑(List.getD k18 (k24 zz) 0):Int);let k12:=λ(zz:Nat)=>(↑(k21 zz).length:Int);let k17:=λ(zz:DI)=>(AV.s false [aaa.v (Value.int IntKind.i64 (IntKind.wrap IntKind.i64 (Int.tdiv (IntKind.wrap IntKind.i64 ((k20 zz)+(k9 zz))) k10)))]);let k23:=λ(zz:DI)=>(Value.int IntKind.i64 (Int.tmod (IntKind.wrap IntKind.i64 ((k20 zz)+(k9 zz))) k10));let k25:=λ(zz:DI)=>((k3 zz)<k5);let p2:=λ(i:DI)(i':DI)(Z:Prop)=>aij x y (DI.i i') (DI.o i') (DI.c i')/\(k21 x).length+k18.length+2-DI.i i'<(k21 x).length+k18.length+2-DI.i i/\Z;let p3:=λ(i:DI)(Z:Prop)=>k10≠k19/\(0<=1/\(k11 i)*8<=140737488355328)/\k10≠k19/\Z;let p4:=λ(Z:Prop)=>SmA k13/\SmA k14/\SmA k15/\SmA k16/\Z;let p5:=λ(Z:Prop)=>SmB (k2 x)/\SmB k0/\SmB k4/\Z;let p7:=λ(i:DI)(i':DI)=>aac (k1 i) (k8 i')/\True;let p0:=λ(i:DI)(Z:Prop)=>(decide ((k3 i)<(k12 x))=true->(k19<=(k3 i)/\(k3 i)<(k12 x))/\(decide (k25 i)=true->(k19<=(k3 i)/\(k3 i)<k5)/\p3 i (Exists λ(i':DI)=>p2 i i' ((p4 (aac (AV.s false [aaa.v (Value.int IntKind.i64 (IntKind.wrap IntKind.i64 (Int.tdiv (IntKind.wrap IntKind.i64 (IntKind.wrap IntKind.i64 ((k20 i)+(↑(List.getD (k21 x) (k24 i) 0):Int))+(k9 i))) k10)))]) (k6 i')/\(p7 i i')))/\p5 (aaf (aae.row 3 1 (k11 i) λ(j:Nat)=>if j<(DI.o i).length then [aaa.v (Value.int IntKind.i64 (↑(List.getD (DI.o i) j 0):Int))] else List.getD [[aaa.v (Value.int IntKind.i64 (Int.tmod (IntKind.wrap IntKind.i64 (IntKind.wrap IntKind.i64 ((k20 i)+(↑(List.getD (k21 x) (k24 i) 0):Int))+(k9 i))) k10))]] (j-(DI.o i).length) []) (k7 i')/\True))))/\(decide (k25 i)=false->p3 i (Exists λ(i':DI)=>p2 i i' ((p4 (aac (AV.s false [aaa.v (Value.int IntKind.i64 (IntKind.wrap IntKind.i64 (Int.tdiv (IntKind.wrap IntKind.i64 ((k20 i)+(↑(List.getD (k21 x) (k24 i) 0):Int))) k10)))]) (k6 i')/\(p7 i i')))/\p5 (aaf (aae.row 3 1 (k11 i) λ(j:Nat)=>if j<(DI.o i).length then [aaa.v (Value.int IntKind.i64 (↑(List.getD (DI.o i) j 0):Int))] else List.getD [[aaa.v (Value.int IntKind.i64 (Int.tmod (IntKind.wrap IntKind.i64 ((k20 i)+(↑(List.getD (k21 x) (k24 i) 0):Int))) k10))]] (j-(DI.o i).length) []) (k7 i')/\True)))))/\Z;let p1:=λ(i:DI)=>(decide (k25 i)=true->(k19<=(k3 i)/\(k3 i)<k5)/\p3 i (Exists λ(i':DI)=>p2 i i' ((p4 (aac (k17 i) (k6 i')/\(p7 i i')))/\p5 (aaf (aae.row 3 1 (k11 i) λ(j:Nat)=>if j<(DI.o i).length then [aaa.v (Value.int IntKind.i64 (↑(List.getD (DI.o i) j 0):Int))] else List.getD [[aaa.v (k23 i)]] (j-(DI.o i).length) []) (k7 i')/\True))))/\(decide (k25 i)=false->p3 i (Exists λ(i':DI)=>p2 i i' ((p4 (aac (k22 i) (k6 i')/\(p7 i i')))/\p5 (aaf (aae.row 3 1 (k11 i) λ(j:Nat)=>if j<(DI.o i).length then [aaa.v (Value.int IntKind.i64 (↑(List.getD (DI.o i) j 0):Int))] else List.getD [[aaa.v (k26 i)]] (j-(DI.o i).length) []) (k7 i')/\True))));let p6:=λ(i:DI)=>p0 i ((decide ((k3 i)<(k12 x))=false->(p1 i)));(Exists λ(i:DI)=>aij x y (DI.i i) (DI.o i) (DI.c i)/\(p4 (aac k27 (k6 i)/\aac k27 (k8 i)/\True))/\p5 (aaf (aae.row 3 1 0 λ(_x:Nat)=>[]) (k7 i)/\True))/\∀ (i:DI),aij x y (DI.i i) (DI.o i) (DI.c i)->(decide ((k3 i)<(k12 x))=true->decide ((k3 i)<(k12 x))=true/\(p6 i))/\(decide ((k3 i)<(k12 x))=false->(decide (k25 i)=true->decide ((k3 i)<(k12 x))=false/\decide (k25 i)=true/\(p6 i))/\(decide (k25 i)=false->decide ((k3 i)<(k12 x))=false/\decide (k25 i)=false/\(decide ((k20 i)>k19)=true->p0 i ((decide ((k3 i)<(k12 x))=false->(p1 i))))/\(decide ((k20 i)>k19)=false->aac (AV.s true [aaa.row 1 (DI.o i).length (acv (DI.o i))]) (AV.s true [aaa.m (x+y)]))))):=by kernel_rfl
theorem apl (x y:Nat) (hx:Dec.dg x<=1000000) (hy:Dec.dg y<=1000000):asx x y:=by
 rw[auX];simp only[SmA,SmB,aaP,abj,true_and,and_true,decide_eq_true_eq,decide_eq_false_iff_not,Int.toNat_natCast];unfold Dec.dg at hx hy;have ten:(10000:Int)=((10000:Nat):Int):=rfl;refine⟨⟨⟨0,0,0,0,[]⟩,⟨rfl,(λ_ h=>by cases h),by decide,by simp[Dec.valL],.inl rfl⟩,⟨aac.ik rfl,aac.ik rfl⟩,akd⟩,λ⟨i,_,c,_,o⟩ hA=> ?_⟩;dsimp only at hA ⊢;have hol:=hA.len;have hil:=arW hA;have hcb:=hA.cb;have z0:(0:Int)<=(i:Int):=by omega
 have hp:=Dec.getD_lt (Dec.limbs_limb x) i;have hq:=Dec.getD_lt (Dec.limbs_limb y) i;generalize hpe:(Dec.limbs x).getD i 0=p at hp ⊢;generalize hqe:(Dec.limbs y).getD i 0=q at hq ⊢;have w1:IntKind.i64.wrap ((c:Int)+(p:Int))=((c+p:Nat):Int):=by rw[IntKind.wrap_i64];omega
 have w2:IntKind.i64.wrap (((c+p:Nat):Int)+(q:Int))=((c+p+q:Nat):Int):=by rw[IntKind.wrap_i64];omega
 have w3:IntKind.i64.wrap ((c:Int)+(q:Int))=((c+q:Nat):Int):=by rw[IntKind.wrap_i64];omega
 by_cases h1:i<(Dec.limbs x).length
 ·have e1:((i:Int)<((Dec.limbs x).length:Int))=True:=eq_true (by omega);have hgx:=Dec.getD_of h1;rw[hpe] at hgx;by_cases h2:i<(Dec.limbs y).length
  ·have e2:((i:Int)<((Dec.limbs y).length:Int))=True:=eq_true (by omega);have hgy:=Dec.getD_of h2;rw[hqe] at hgy;simp only[e1,e2,z0,forall_const,false_implies,not_true_eq_false,and_true,true_and,and_self,false_and];refine⟨by decide,⟨by omega,by omega⟩,by decide,⟨i+1,0,(c+p+q)/10000,0,o++[(c+p+q)%10000]⟩,apP hA hgx hgy hp hq,?_,⟨aac.ik ?_,aac.ik ?_⟩,ace ?_⟩
   ·show (Dec.limbs x).length+(Dec.limbs y).length+2-(i+1)<(Dec.limbs x).length+(Dec.limbs y).length+2-i;omega
   ·show _=(((c+p+q)/10000:Nat):Int);rw[w1,w2,ten,afw,al9 (by omega)]
   ·show _=((i+1:Nat):Int);rw[IntKind.wrap_i64];omega
   ·rw[w1,w2,ten,aik]
  ·have e2:((i:Int)<((Dec.limbs y).length:Int))=False:=eq_false (by omega);simp only[e1,e2,z0,forall_const,false_implies,not_true_eq_false,not_false_eq_true,and_true,true_and,and_self,false_and,and_false];refine⟨by decide,⟨by omega,by omega⟩,by decide,⟨i+1,0,(c+p)/10000,0,o++[(c+p)%10000]⟩,apO hA hgx h2 hp,?_,⟨aac.ik ?_,aac.ik ?_⟩,ace ?_⟩
   ·show (Dec.limbs x).length+(Dec.limbs y).length+2-(i+1)<(Dec.limbs x).length+(Dec.limbs y).length+2-i;omega
   ·show _=(((c+p)/10000:Nat):Int);rw[w1,ten,afw,al9 (by omega)]
   ·show _=((i+1:Nat):Int);rw[IntKind.wrap_i64];omega
   ·rw[w1,ten,aik]
 ·have e1:((i:Int)<((Dec.limbs x).length:Int))=False:=eq_false (by omega);by_cases h2:i<(Dec.limbs y).length
  ·have e2:((i:Int)<((Dec.limbs y).length:Int))=True:=eq_true (by omega);have hgy:=Dec.getD_of h2;rw[hqe] at hgy;simp only[e1,e2,z0,forall_const,false_implies,not_true_eq_false,not_false_eq_true,and_true,true_and,and_self,false_and,and_false];refine⟨by decide,⟨by omega,by omega⟩,by decide,⟨i+1,0,(c+q)/10000,0,o++[(c+q)%10000]⟩,amR hA h1 hgy hq,?_,⟨aac.ik ?_,aac.ik ?_⟩,ace ?_⟩
   ·show (Dec.limbs x).length+(Dec.limbs y).length+2-(i+1)<(Dec.limbs x).length+(Dec.limbs y).length+2-i;omega
   ·show _=(((c+q)/10000:Nat):Int);rw[w3,ten,afw,al9 (by omega)]
   ·show _=((i+1:Nat):Int);rw[IntKind.wrap_i64];omega
   ·rw[w3,ten,aik]
  ·have e2:((i:Int)<((Dec.limbs y).length:Int))=False:=eq_false (by omega);by_cases h3:0<c
   ·have e3:((c:Int)>0)=True:=eq_true (by omega);simp only[e1,e2,e3,forall_const,false_implies,not_true_eq_false,not_false_eq_true,and_true,true_and,false_and,and_false];refine⟨by decide,⟨by omega,by omega⟩,by decide,⟨i+1,0,(c)/10000,0,o++[(c)%10000]⟩,apN hA h1 h2 h3,?_,⟨aac.ik ?_,aac.ik ?_⟩,ace ?_⟩
    ·show (Dec.limbs x).length+(Dec.limbs y).length+2-(i+1)<(Dec.limbs x).length+(Dec.limbs y).length+2-i;omega
    ·show _=(((c)/10000:Nat):Int);rw[ten,afw,al9 (by omega)]
    ·show _=((i+1:Nat):Int);rw[IntKind.wrap_i64];omega
    ·rw[ten,aik]
   ·have e3:((c:Int)>0)=False:=eq_false (by omega);simp only[e1,e2,e3,forall_const,false_implies,not_false_eq_true,true_and,false_and,and_false];have e:=arX hA h1 h2 h3;exact aac.s (aan.cons (CLe.row_m (by rw[e]) λj _=>ae4 (by rw[e])) aan.nil)
abbrev asu (x y:Nat):Prop:=vc Tryz.prog (lk []) Tryz.f181.ntmps [(6,alx x y)] (Tryz.f181.body.getD .skip) ⟨aao [.s true [adO (Dec.limbs x)],.s true [adO (Dec.limbs y)]] 0,[]⟩ (aaH Tryz.prog Tryz.f181.results.toList (.s false [.v (.int .i64 (abe (x:Int) (y:Int)))]))
theorem auW (x y:Nat):asu x y=(let k0:=AV.s false [aaa.v (Value.int IntKind.i64 (abe (↑x:Int) (↑y:Int)))];let k1:=Dec.limbs x;let k4:=(↑k1.length:Int);let k5:=(1:Int);let k7:=aae.st 58 [aaa.row 1 k1.length (acv k1)];let k9:=AV.s false [aaa.v (Value.int IntKind.i64 (-1:Int))];let k11:=AV.s false [aaa.v (Value.int IntKind.i64 k5)];let k13:=(0:Int);let k14:=λ(zz:Nat)=>(AV.s false [aaa.v (Value.int IntKind.i64 ((↑zz:Int)-k5))]);let k15:=AV.s false [aaa.own 2 0];let k16:=AV.s false [aaa.own 3 0];let k17:=Dec.limbs y;let k2:=λ(zz:Nat)=>((↑zz:Int)-k5).toNat;let k3:=k17.length;let k6:=λ(zz:Nat)=>(↑(List.getD k17 (k2 zz) 0):Int);let k8:=aae.st 58 [aaa.row 1 k3 (acv k17)];let k10:=λ(zz:Nat)=>(↑(List.getD k1 (k2 zz) 0):Int);let k12:=(↑k3:Int);let p0:=λ(i:Nat)(Z:Prop)=>(k13<=(↑i:Int)-k5/\(↑i:Int)-k5<k4)/\(k13<=(↑i:Int)-k5/\(↑i:Int)-k5<k12)/\Z;let p1:=λ(i:Nat)=>i<=k1.length/\List.drop i k1=List.drop i k17;let p2:=SmB k7/\SmB k8/\True;(decide (k4<k12)=true->aac k9 k0)/\(decide (k4<k12)=false->(decide (k4>k12)=true->aac k11 k0)/\(decide (k4>k12)=false->(Exists λ(i:Nat)=>((p1 i))/\(SmA k15/\SmA k16/\aac (AV.s false [aaa.v (Value.int IntKind.i64 (IntKind.wrap IntKind.i64 (k4-k5)))]) (k14 i)/\True)/\p2)/\∀ (i:Nat),(p1 i)->(decide ((↑i:Int)-k5>=k13)=true->p0 i ((decide ((k10 i)<(k6 i))=true->aac k9 k0)/\(decide ((k10 i)<(k6 i))=false->p0 i ((decide ((k10 i)>(k6 i))=true->aac k11 k0)/\(decide ((k10 i)>(k6 i))=false->Exists λ(i':Nat)=>(i'<=k1.length/\List.drop i' k1=List.drop i' k17)/\i'<i/\(SmA k15/\SmA k16/\aac (AV.s false [aaa.v (Value.int IntKind.i64 (IntKind.wrap IntKind.i64 ((↑i:Int)-k5-k5)))]) (k14 i')/\True)/\p2)))))/\(decide ((↑i:Int)-k5>=k13)=false->aac (AV.s false [aaa.v (Value.int IntKind.i64 k13)]) k0)))):=by kernel_rfl
theorem apk (x y:Nat) (hdx:Dec.dg x<=1000000):asu x y:=by
 rw[auW];simp only[SmA,SmB,aaP,abj,true_and,and_true,decide_eq_true_eq,decide_eq_false_iff_not];unfold Dec.dg at hdx;have lt:∀ {a b:Nat},a<b->abe (a:Int) (b:Int)= -1:=λ{a b} h=>by unfold abe;rw[if_pos (show (a:Int)<b by omega)]
 have gt:∀ {a b:Nat},b<a->abe (a:Int) (b:Int)=1:=λ{a b} h=>by unfold abe;rw[if_neg (show ¬ (a:Int)<b by omega),if_pos (show (b:Int)<a by omega)]
 refine⟨λh=>aac.ik (lt (Dec.lt_of_len (a:=x) (b:=y) (by omega))).symm,λh=>⟨λh2=>aac.ik (gt (Dec.lt_of_len (a:=y) (b:=x) (by omega))).symm,λh2=>⟨⟨(Dec.limbs x).length,⟨Nat.le_refl _,?_⟩,aac.ik ?_⟩,λk ⟨h3,h4⟩=>⟨λhk=> ?_,λhk=>aac.ik ?_⟩⟩⟩⟩
 ·rw[List.drop_length,show (Dec.limbs x).length=(Dec.limbs y).length by omega,List.drop_length]
 ·rw[IntKind.wrap_i64];omega
 ·have hlen:(Dec.limbs x).length=(Dec.limbs y).length:=by omega
  have hx:=Dec.getD_of (l:=Dec.limbs x) (i:=k-1) (by omega);have hy:=Dec.getD_of (l:=Dec.limbs y) (i:=k-1) (by omega);have ek:((k:Int)-1).toNat=k-1:=by omega
  have ek2:k-1+1=k:=by omega
  rw[ek];refine⟨by omega,by omega,λh5=>aac.ik ?_,λh5=>⟨by omega,by omega,λh6=>aac.ik ?_,λh6=>⟨k-1,⟨by omega,?_⟩,by omega,aac.ik ?_⟩⟩⟩
  ·have:=Dec.val_cmp (Dec.limbs_limb x) hlen (k-1) (by rw[ek2];exact h4) hx hy (by omega);rw[Dec.val_limbs,Dec.val_limbs] at this;exact (lt this).symm
  ·have:=Dec.val_cmp (Dec.limbs_limb y) hlen.symm (k-1) (by rw[ek2];exact h4.symm) hy hx (by omega);rw[Dec.val_limbs,Dec.val_limbs] at this;exact (gt this).symm
  ·have e:(Dec.limbs x).getD (k-1) 0=(Dec.limbs y).getD (k-1) 0:=by omega
   rw[List.drop_eq_getElem_cons (l:=Dec.limbs x) (i:=k-1) (by omega),List.drop_eq_getElem_cons (l:=Dec.limbs y) (i:=k-1) (by omega),ek2,h4];congr 1
   have e1:=(List.getElem?_eq_some_iff.1 hx).2;have e2:=(List.getElem?_eq_some_iff.1 hy).2;rw[e1,e2,e]
  ·rw[IntKind.wrap_i64];omega
 ·have h0:k=0:=by omega
  subst h0;rw[List.drop_zero,List.drop_zero] at h4;have:x=y:=Dec.limbs_inj h4;subst this;simp[abe]
def ap7 (e:List aaa):Nat:=match e with
 |[.v (.int .i64 z)]=>z.toNat
 |_=>0
def acj (n:Nat) (e:Nat->List aaa):List Nat:=(List.range n).map λi=>ap7 (e i)
theorem aiP (n:Nat) (e:Nat->List aaa):(acj n e).length=n:=by simp[acj]
theorem ahz (l:List Nat):acj l.length (acv l)=l:=by
 apply List.ext_getElem?;intro i;unfold acj;rw[List.getElem?_map];rcases Nat.lt_or_ge i l.length with hi | hi
 ·rw[List.getElem?_range hi,List.getElem?_eq_getElem hi];show some (ap7 (acv l i))=some l[i];simp only[ap7,acv,List.getD,List.getElem?_eq_getElem hi,Option.getD_some,Int.toNat_natCast]
 ·rw[List.getElem?_eq_none (by simpa using hi),List.getElem?_eq_none hi];rfl
def aqa:abF
 |[.o (.s false [.row 1 n e])]=>some (.s true [.m (Dec.valL (acj n e))],[∀ i,i<n->aan (e i) (acv (acj n e) i),Dec.Limb (acj n e),n<=10000000])
 |_=>none
def ayC:abF
 |[.o (.s false [.v (.int .u64 n)])]=>some (.s true [.m n.toNat],[0<=n/\n<18446744073709551616])
 |_=>none
def aqd:abF
 |[.o (.s true [.m x]),.o (.s true [.m y])]=>some (.s true [.m (x+y)],[Dec.dg x<=1000000,Dec.dg y<=1000000])
 |_=>none
def aqb:abF
 |[.o (.s true [.m x]),.o (.s true [.m y])]=>some (.s false [.v (.int .i64 (abe (x:Int) (y:Int)))],[Dec.dg x<=1000000])
 |_=>none
def akR:abF
 |[.o (.s true [.m x]),.o (.s true [.m y])]=>some (.s true [.m (x-y)],[y<=x,Dec.dg x<=1000000])
 |_=>none
def ap8:abF
 |[.o (.s true [.m x]),.o (.s true [.m y])]=>some (.s true [.m (x*y)],[Dec.dg x<=1000000,Dec.dg y<=1000000])
 |_=>none
def av2:List (Nat × Run):=[(215,aaF aqa)]
theorem aof (D:Prop) (B:Nat):aai Tryz.prog D B 215 (aaF aqa):=by
 refine aam (c:=Tryz.f215.body.getD .skip) (Γ :=lk []) (λ_ _ _ h=>by cases h) (by kernel_rfl) Tryz.func215 (by kernel_rfl) (by kernel_rfl) ?_ B;intro pvs av ps h hp;unfold aqa at h;split at h
 ·rename_i n e;cases h;obtain⟨h1,h2,h3,_⟩:=hp;exact⟨[.s false [adO (acj n e)]],[(2,alw (acj n e))],aaj.cons (aac.one (CLe.row2d (aiP n e).symm h1)) aaj.nil,by rw[Tryz.ntmps215];simp,apj _ h2 (by rw[aiP];exact h3)⟩
 ·cases h
theorem aop (D:Prop):∀ p∈av2,∀ B,aai Tryz.prog D B p.1 p.2:=aad (aof D) λp hp=>by cases hp
theorem asp (D:Prop) (B:Nat):aai Tryz.prog D B 168 (aaF ayC):=by
 refine aam (c:=Tryz.f168.body.getD .skip) (Γ :=lk []) (λ_ _ _ h=>by cases h) (by kernel_rfl) Tryz.func168 (by kernel_rfl) (by kernel_rfl) ?_ B;intro pvs av ps h hp;unfold ayC at h;split at h
 ·rename_i n;cases h;obtain⟨⟨h1,h2⟩,_⟩:=hp;exact⟨[.s false [.v (.int .u64 ((n.toNat:Nat):Int))]],[(2,aoa n.toNat)],aaj.cons (aac.ik (by omega)) aaj.nil,by rw[Tryz.ntmps168];simp,ard _ (by omega)⟩
 ·cases h
theorem aoi (D:Prop) (B:Nat):aai Tryz.prog D B 167 (aaF aqd):=by
 refine aam (c:=Tryz.f167.body.getD .skip) (Γ :=lk []) (λ_ _ _ h=>by cases h) (by kernel_rfl) Tryz.func167 (by kernel_rfl) (by kernel_rfl) ?_ B;intro pvs av ps h hp;unfold aqd at h;split at h
 ·rename_i x y;cases h;obtain⟨h1,h2,_⟩:=hp;exact⟨[.s true [adO (Dec.limbs x)],.s true [adO (Dec.limbs y)]],[(4,alB x y)],aaj.cons (aac.s (aan.cons (CLe.m_row x) aan.nil)) (aaj.cons (aac.s (aan.cons (CLe.m_row y) aan.nil)) aaj.nil),by rw[Tryz.ntmps167];simp,apl x y h1 h2⟩
 ·cases h
theorem aog (D:Prop) (B:Nat):aai Tryz.prog D B 181 (aaF aqb):=by
 refine aam (c:=Tryz.f181.body.getD .skip) (Γ :=lk []) (λ_ _ _ h=>by cases h) (by kernel_rfl) Tryz.func181 (by kernel_rfl) (by kernel_rfl) ?_ B;intro pvs av ps h hp;unfold aqb at h;split at h
 ·rename_i x y;cases h;obtain⟨h1,_⟩:=hp;exact⟨[.s true [adO (Dec.limbs x)],.s true [adO (Dec.limbs y)]],[(6,alx x y)],aaj.cons (aac.s (aan.cons (CLe.m_row x) aan.nil)) (aaj.cons (aac.s (aan.cons (CLe.m_row y) aan.nil)) aaj.nil),by rw[Tryz.ntmps181];simp,apk x y h1⟩
 ·cases h
abbrev aoc (x y:Nat):Prop:=vc Tryz.prog (lk av2) Tryz.f217.ntmps [(4,aiU x y),(1000014,prd [.frz 900] [])] (Tryz.f217.body.getD .skip) ⟨aao [.s true [adO (Dec.limbs x)],.s true [adO (Dec.limbs y)]] 0,[]⟩ (aaH Tryz.prog Tryz.f217.results.toList (.s true [.m (x-y)]))
theorem are (x y:Nat):aoc x y=(let k3:=aae.st 58 [aaa.v (Value.slice none 0 0)];let k7:=λ(zz:DI)=>(aae.row 3 1 (DI.o zz).length (acv (DI.o zz)));let k9:=λ(zz:Nat)=>(Dec.limbs zz);let k10:=Dec.limbs y;let k11:=λ(zz:DI)=>((DI.o zz).length+1);let k12:=AV.s false [aaa.own 2 0];let k13:=AV.s false [aaa.own 3 0];let k14:=AV.s false [aaa.own 4 0];let k15:=AV.s false [aaa.hd 900];let k16:=λ(zz:DI)=>(acj (DI.o zz).length (acv (DI.o zz)));let k18:=AV.s false [aaa.v (Value.int IntKind.i64 (1:Int))];let k19:=(↑k10.length:Int);let k20:=λ(zz:DI)=>(↑(DI.i zz):Int);let k21:=λ(zz:DI)=>(↑(DI.c zz):Int);let k22:=(0:Int);let k23:=λ(zz:Nat)=>(↑(k9 zz).length:Int);let k0:=aae.st 58 [aaa.row 1 k10.length (acv k10)];let k1:=λ(zz:Nat)=>(aae.st 58 [aaa.row 1 (k9 zz).length (acv (k9 zz))]);let k2:=λ(zz:DI)=>(AV.s false [aaa.v (Value.int IntKind.i64 (IntKind.wrap IntKind.i64 ((k20 zz)+(1:Int))))]);let k4:=λ(zz:DI)=>(k20 zz).toNat;let k5:=λ(zz:DI)=>(AV.s false [aaa.v (Value.int IntKind.i64 (k21 zz))]);let k6:=λ(zz:DI)=>(AV.s false [aaa.v (Value.int IntKind.i64 (k20 zz))]);let k8:=AV.s false [aaa.v (Value.int IntKind.i64 k22)];let k17:=λ(zz:DI)=>(↑(List.getD k10 (k4 zz) 0):Int);let p0:=λ(i:DI)(i':DI)(x:Nat)(Z:Prop)=>(DI.i i'<=(k9 x).length/\PW (Dec.LessAt (k9 x) k10 (DI.i i') (DI.o i') (DI.c i')))/\(k9 x).length-DI.i i'<(k9 x).length-DI.i i/\Z;let p1:=λ(Z:Prop)=>SmA k12/\SmA k13/\SmA k14/\SmA k15/\Z;let p2:=λ(i:DI)=>0<=1/\(k11 i)*8<=140737488355328;let p3:=λ(i:DI)(x:Nat)=>DI.i i<=(k9 x).length/\PW (Dec.LessAt (k9 x) k10 (DI.i i) (DI.o i) (DI.c i));let p4:=λ(x:Nat)(Z:Prop)=>SmB (k1 x)/\SmB k0/\SmB k3/\Z;let p5:=λ(i:DI)(i':DI)=>aac (k2 i) (k6 i')/\True;(Exists λ(i:DI)=>((p3 i x))/\(p1 (aac k8 (k5 i)/\aac k8 (k6 i)/\True))/\p4 x (aaf (aae.row 3 1 0 λ(_x:Nat)=>[]) (k7 i)/\True))/\∀ (i:DI),(p3 i x)->(decide ((k20 i)<(k23 x))=true->(k22<=(k20 i)/\(k20 i)<(k23 x))/\(decide ((k20 i)<k19)=true->(k22<=(k20 i)/\(k20 i)<k19)/\(decide (IntKind.wrap IntKind.i64 (IntKind.wrap IntKind.i64 ((↑(List.getD (k9 x) (k4 i) 0):Int)-(k21 i))-(k17 i))<k22)=true->((p2 i))/\Exists λ(i':DI)=>p0 i i' x ((p1 (aac k18 (k5 i')/\(p5 i i')))/\p4 x (aaf (aae.row 3 1 (k11 i) λ(j:Nat)=>if j<(DI.o i).length then [aaa.v (Value.int IntKind.i64 (↑(List.getD (DI.o i) j 0):Int))] else List.getD [[aaa.v (Value.int IntKind.i64 (IntKind.wrap IntKind.i64 (IntKind.wrap IntKind.i64 (IntKind.wrap IntKind.i64 ((↑(List.getD (k9 x) (k4 i) 0):Int)-(k21 i))-(k17 i))+(10000:Int))))]] (j-(DI.o i).length) []) (k7 i')/\True)))/\(decide (IntKind.wrap IntKind.i64 (IntKind.wrap IntKind.i64 ((↑(List.getD (k9 x) (k4 i) 0):Int)-(k21 i))-(k17 i))<k22)=false->((p2 i))/\Exists λ(i':DI)=>p0 i i' x ((p1 (aac k8 (k5 i')/\(p5 i i')))/\p4 x (aaf (aae.row 3 1 (k11 i) λ(j:Nat)=>if j<(DI.o i).length then [aaa.v (Value.int IntKind.i64 (↑(List.getD (DI.o i) j 0):Int))] else List.getD [[aaa.v (Value.int IntKind.i64 (IntKind.wrap IntKind.i64 (IntKind.wrap IntKind.i64 ((↑(List.getD (k9 x) (k4 i) 0):Int)-(k21 i))-(k17 i))))]] (j-(DI.o i).length) []) (k7 i')/\True))))/\(decide ((k20 i)<k19)=false->(decide (IntKind.wrap IntKind.i64 ((↑(List.getD (k9 x) (k4 i) 0):Int)-(k21 i))<k22)=true->((p2 i))/\Exists λ(i':DI)=>p0 i i' x ((p1 (aac k18 (k5 i')/\(p5 i i')))/\p4 x (aaf (aae.row 3 1 (k11 i) λ(j:Nat)=>if j<(DI.o i).length then [aaa.v (Value.int IntKind.i64 (↑(List.getD (DI.o i) j 0):Int))] else List.getD [[aaa.v (Value.int IntKind.i64 (IntKind.wrap IntKind.i64 (IntKind.wrap IntKind.i64 ((↑(List.getD (k9 x) (k4 i) 0):Int)-(k21 i))+(10000:Int))))]] (j-(DI.o i).length) []) (k7 i')/\True)))/\(decide (IntKind.wrap IntKind.i64 ((↑(List.getD (k9 x) (k4 i) 0):Int)-(k21 i))<k22)=false->((p2 i))/\Exists λ(i':DI)=>p0 i i' x ((p1 (aac k8 (k5 i')/\(p5 i i')))/\p4 x (aaf (aae.row 3 1 (k11 i) λ(j:Nat)=>if j<(DI.o i).length then [aaa.v (Value.int IntKind.i64 (↑(List.getD (DI.o i) j 0):Int))] else List.getD [[aaa.v (Value.int IntKind.i64 (IntKind.wrap IntKind.i64 ((↑(List.getD (k9 x) (k4 i) 0):Int)-(k21 i))))]] (j-(DI.o i).length) []) (k7 i')/\True)))))/\(decide ((k20 i)<(k23 x))=false->(∀ (i_1:Nat),i_1<(DI.o i).length->aan [aaa.v (Value.int IntKind.i64 (↑(List.getD (DI.o i) i_1 0):Int))] [aaa.v (Value.int IntKind.i64 (↑(List.getD (k16 i) i_1 0):Int))])/\(∀ (x:Nat),List.Mem x (k16 i)->x<10000)/\(DI.o i).length<=10000000/\aac (AV.s true [aaa.m (Dec.valL (k16 i))]) (AV.s true [aaa.m (x-y)]))):=by kernel_rfl
theorem amF (x y:Nat) (hyx:y<=x) (hdx:Dec.dg x<=1000000):aoc x y:=by
 rw[are];simp only[SmA,SmB,aaP,abj,true_and,and_true,decide_eq_true_eq,decide_eq_false_iff_not,Int.toNat_natCast];unfold Dec.dg at hdx;have hll:(Dec.limbs y).length<=(Dec.limbs x).length:=Dec.limbs_mono hyx;refine⟨⟨⟨0,0,0,0,[]⟩,⟨Nat.zero_le _,⟨Dec.less_start _ _⟩⟩,⟨aac.ik rfl,aac.ik rfl⟩,akd⟩,λ⟨i,_,c,_,o⟩ ⟨h1,⟨h2⟩⟩=> ?_⟩;dsimp only at h1 h2 ⊢;have hol:=h2.1;have hcb:=h2.2.2.1;have hp:=Dec.getD_lt (Dec.limbs_limb x) i;have hq:=Dec.getD_lt (Dec.limbs_limb y) i;have z0:(0:Int)<=(i:Int):=by omega
 by_cases hi:i<(Dec.limbs x).length
 ·have e1:((i:Int)<((Dec.limbs x).length:Int))=True:=eq_true (by omega);have hgx:=Dec.getD_of hi;generalize (Dec.limbs x).getD i 0=p at hp hgx ⊢;have w1:IntKind.i64.wrap ((p:Int)-(c:Int))=(p:Int)-(c:Int):=by rw[IntKind.wrap_i64];omega
  by_cases hj:i<(Dec.limbs y).length
  ·have e2:((i:Int)<((Dec.limbs y).length:Int))=True:=eq_true (by omega);have hgy:=Dec.getD_of hj;generalize (Dec.limbs y).getD i 0=q at hq hgy ⊢;have w2:IntKind.i64.wrap ((p:Int)-(c:Int)-(q:Int))=(p:Int)-(c:Int)-(q:Int):=by rw[IntKind.wrap_i64];omega
   simp only[w1,w2,e1,e2,z0,forall_const,false_implies,not_true_eq_false,and_true,true_and];refine⟨λhb=> ?_,λhb=> ?_⟩
   ·refine⟨⟨by omega,by omega⟩,⟨i+1,0,1,0,o++[p+10000-q-c]⟩,⟨by show i+1<=_;omega,⟨Dec.less_both (z:=p+10000-q-c) (b':=1) h2 hgx hgy (by omega) (by omega) (by omega)⟩⟩,?_,⟨aac.ik rfl,aac.ik ?_⟩,ace ?_⟩
    ·show (Dec.limbs x).length-(i+1)<(Dec.limbs x).length-i;omega
    ·show _=((i+1:Nat):Int);rw[IntKind.wrap_i64];omega
    ·rw[IntKind.wrap_i64];omega
   ·refine⟨⟨by omega,by omega⟩,⟨i+1,0,0,0,o++[p-q-c]⟩,⟨by show i+1<=_;omega,⟨Dec.less_both (z:=p-q-c) (b':=0) h2 hgx hgy (by omega) (by omega) (by omega)⟩⟩,?_,⟨aac.ik rfl,aac.ik ?_⟩,ace ?_⟩
    ·show (Dec.limbs x).length-(i+1)<(Dec.limbs x).length-i;omega
    ·show _=((i+1:Nat):Int);rw[IntKind.wrap_i64];omega
    ·omega
  ·have e2:((i:Int)<((Dec.limbs y).length:Int))=False:=eq_false (by omega);simp only[w1,e1,e2,z0,forall_const,false_implies,not_true_eq_false,not_false_eq_true,and_true,true_and];refine⟨λhb=> ?_,λhb=> ?_⟩
   ·refine⟨⟨by omega,by omega⟩,⟨i+1,0,1,0,o++[p+10000-c]⟩,⟨by show i+1<=_;omega,⟨Dec.less_one (z:=p+10000-c) (b':=1) h2 hgx (by omega) (by omega) (by omega) (by omega)⟩⟩,?_,⟨aac.ik rfl,aac.ik ?_⟩,ace ?_⟩
    ·show (Dec.limbs x).length-(i+1)<(Dec.limbs x).length-i;omega
    ·show _=((i+1:Nat):Int);rw[IntKind.wrap_i64];omega
    ·rw[IntKind.wrap_i64];omega
   ·refine⟨⟨by omega,by omega⟩,⟨i+1,0,0,0,o++[p-c]⟩,⟨by show i+1<=_;omega,⟨Dec.less_one (z:=p-c) (b':=0) h2 hgx (by omega) (by omega) (by omega) (by omega)⟩⟩,?_,⟨aac.ik rfl,aac.ik ?_⟩,ace ?_⟩
    ·show (Dec.limbs x).length-(i+1)<(Dec.limbs x).length-i;omega
    ·show _=((i+1:Nat):Int);rw[IntKind.wrap_i64];omega
    ·omega
 ·have e1:((i:Int)<((Dec.limbs x).length:Int))=False:=eq_false (by omega);obtain rfl:i=(Dec.limbs x).length:=by omega
  obtain⟨k1,k2,k3⟩:=Dec.less_done h2 hll (by rw[Dec.val_limbs,Dec.val_limbs];exact hyx);rw[Dec.val_limbs,Dec.val_limbs] at k3;simp only[e1,ahz,k3,forall_const,false_implies,not_false_eq_true,true_and];exact⟨λ_ _=>aan.refl _,k1,by omega,aac.refl _⟩
abbrev asr (x y:Nat):Prop:=vc Tryz.prog (lk av2) Tryz.f232.ntmps [(3,aiT x y),(7,aiS x y),(13,aiR x y),(1000018,prd [.frz 18] [])] (Tryz.f232.body.getD .skip) ⟨aao [.s true [adO (Dec.limbs x)],.s true [adO (Dec.limbs y)]] 0,[]⟩ (aaH Tryz.prog Tryz.f232.results.toList (.s true [.m (x*y)]))
theorem auN (x y:Nat):asr x y=(let k1:=Dec.limbs y;let k4:=λ(zz:DI)=>(↑(DI.i zz+k1.length+DI.j zz):Int);let k5:=λ(zz:DI)=>(AV.s false [aaa.v (Value.int IntKind.i64 (↑(DI.i zz):Int))]);let k7:=aae.st 58 [aaa.v (Value.slice none 0 0)];let k8:=λ(zz:Nat)=>(Dec.limbs zz);let k9:=λ(zz:DI)=>(AV.s false [aaa.v (Value.int IntKind.i64 (↑(DI.c zz):Int))]);let k10:=AV.s false [aaa.own 2 0];let k11:=AV.s false [aaa.own 3 0];let k12:=AV.s false [aaa.own 4 0];let k13:=AV.s false [aaa.hd 18];let k15:=(0:Int);let k16:=k1.length;let k17:=(10000:Int);let k18:=λ(zz:DI)=>(IntKind.wrap IntKind.i64 ((↑(DI.c zz):Int)+(↑(List.getD (DI.o zz) (k4 zz).toNat 0):Int)));let k19:=λ(zz:DI)=>(acv (DI.o zz));let k20:=λ(zz:DI)=>(AV.s false [aaa.v (Value.int IntKind.i64 (↑(DI.j zz):Int))]);let k22:=(↑k16:Int);let k23:=λ(zz:DI)=>(AV.s false [aaa.v (Value.int IntKind.i64 (k4 zz))]);let k24:=λ(zz:Nat)=>(↑(k8 zz).length:Int);let k0:=λ(zz:Nat)=>((k8 zz).length+k1.length+1);let k2:=λ(zz:Nat)=>(IntKind.wrap IntKind.i64 ((k24 zz)+k22)+(1:Int));let k3:=λ(zz:Nat)=>(aae.st 58 [aaa.row 1 (k8 zz).length (acv (k8 zz))]);let k6:=aae.st 58 [aaa.row 1 k16 (acv k1)];let k14:=AV.s false [aaa.v (Value.int IntKind.i64 k15)];let k21:=λ(zz:Nat)=>(IntKind.wrap IntKind.i64 (k2 zz));let p0:=λ(Z:Prop)=>SmA k10/\SmA k11/\SmA k12/\SmA k13/\Z;let p1:=λ(Z:Prop)=>SmB (k3 x)/\SmB k6/\SmB k7/\Z;let p2:=λ(i_2:DI)(Z:Prop)=>(k15<=(k4 i_2)/\(k4 i_2)<(↑(k0 x):Int))/\(k4 i_2).toNat<(k8 x).length+k1.length+1/\k17≠k15/\Z;let p3:=λ(i:DI)=>DI.i i<=(k8 x).length/\PW (Dec.MulAt (k8 x) k1 (DI.i i) (DI.o i));IntKind.wrap IntKind.i64 (k2 x)=IntKind.wrap IntKind.i64 (k2 x)/\k15<=IntKind.wrap IntKind.i64 (k2 x)/\(8*(k21 x).toNat<=281474976710656/\(k21 x).toNat<=9223372036854775807)/\(Exists λ(i:DI)=>((p3 i))/\(p0 (aac k14 (k5 i)/\True))/\p1 (aaf (aae.row 3 1 (k21 x).toNat λ(_x:Nat)=>[aaa.v (Value.int IntKind.i64 k15)]) (aae.row 3 1 (k0 x) (k19 i))/\True))/\∀ (i:DI),(p3 i)->(decide ((↑(DI.i i):Int)<(k24 x))=true->Exists λ(i0:DI)=>(DI.i i0<(k8 x).length/\DI.j i0<=k1.length/\PW (Dec.MulIn (k8 x) k1 (DI.i i0) (List.getD (k8 x) (DI.i i0) 0) (DI.j i0) (DI.o i0) (DI.c i0)))/\((p0 (aac (k5 i) (k5 i0)/\aac k14 (k9 i0)/\aac k14 (k20 i0)/\True))/\p1 (aaf (aae.row 3 1 (k0 x) (k19 i)) (aae.row 3 1 (k0 x) (k19 i0))/\True))/\∀ (i_1:DI),DI.i i_1<(k8 x).length/\DI.j i_1<=k1.length/\PW (Dec.MulIn (k8 x) k1 (DI.i i_1) (List.getD (k8 x) (DI.i i_1) 0) (DI.j i_1) (DI.o i_1) (DI.c i_1))->DI.i i_1=DI.i i0->(decide ((↑(DI.j i_1):Int)<k22)=true->(k15<=IntKind.wrap IntKind.i64 ((↑(DI.i i_1):Int)+(↑(DI.j i_1):Int))/\IntKind.wrap IntKind.i64 ((↑(DI.i i_1):Int)+(↑(DI.j i_1):Int))<(↑(k0 x):Int))/\(IntKind.wrap IntKind.i64 ((↑(DI.i i_1):Int)+(↑(DI.j i_1):Int))).toNat<(k8 x).length+k1.length+1/\(k15<=(↑(DI.i i_1):Int)/\(↑(DI.i i_1):Int)<(k24 x))/\(k15<=(↑(DI.j i_1):Int)/\(↑(DI.j i_1):Int)<k22)/\k17≠k15/\(k15<=IntKind.wrap IntKind.i64 ((↑(DI.i i_1):Int)+(↑(DI.j i_1):Int))/\IntKind.wrap IntKind.i64 ((↑(DI.i i_1):Int)+(↑(DI.j i_1):Int))<(↑(k0 x):Int))/\(IntKind.wrap IntKind.i64 ((↑(DI.i i_1):Int)+(↑(DI.j i_1):Int))).toNat<(k8 x).length+k1.length+1/\k17≠k15/\Exists λ(i':DI)=>(DI.i i'<(k8 x).length/\DI.j i'<=k1.length/\PW (Dec.MulIn (k8 x) k1 (DI.i i') (List.getD (k8 x) (DI.i i') 0) (DI.j i') (DI.o i') (DI.c i')))/\DI.i i'=DI.i i0/\k1.length-DI.j i'<k1.length-DI.j i_1/\(p0 (aac (AV.s false [aaa.v (Value.int IntKind.i64 (↑(DI.i i_1):Int))]) (k5 i')/\aac (AV.s false [aaa.v (Value.int IntKind.i64 (IntKind.wrap IntKind.i64 (Int.tdiv (IntKind.wrap IntKind.i64 (IntKind.wrap IntKind.i64 ((↑(DI.c i_1):Int)+(↑(List.getD (DI.o i_1) (IntKind.wrap IntKind.i64 ((↑(DI.i i_1):Int)+(↑(DI.j i_1):Int))).toNat 0):Int))+IntKind.wrap IntKind.i64 ((↑(List.getD (k8 x) (↑(DI.i i_1):Int).toNat 0):Int)*(↑(List.getD k1 (↑(DI.j i_1):Int).toNat 0):Int)))) k17)))]) (k9 i')/\aac (AV.s false [aaa.v (Value.int IntKind.i64 (IntKind.wrap IntKind.i64 ((↑(DI.j i_1):Int)+(1:Int))))]) (k20 i')/\True))/\p1 (aaf (aae.row 3 1 (k0 x) λ(j:Nat)=>if j=(IntKind.wrap IntKind.i64 ((↑(DI.i i_1):Int)+(↑(DI.j i_1):Int))).toNat then [aaa.v (Value.int IntKind.i64 (Int.tmod (IntKind.wrap IntKind.i64 (IntKind.wrap IntKind.i64 ((↑(DI.c i_1):Int)+(↑(List.getD (DI.o i_1) (IntKind.wrap IntKind.i64 ((↑(DI.i i_1):Int)+(↑(DI.j i_1):Int))).toNat 0):Int))+IntKind.wrap IntKind.i64 ((↑(List.getD (k8 x) (↑(DI.i i_1):Int).toNat 0):Int)*(↑(List.getD k1 (↑(DI.j i_1):Int).toNat 0):Int)))) k17))] else [aaa.v (Value.int IntKind.i64 (↑(List.getD (DI.o i_1) j 0):Int))]) (aae.row 3 1 (k0 x) (k19 i'))/\True))/\(decide ((↑(DI.j i_1):Int)<k22)=false->Exists λ(i0:DI)=>(DI.i i0<(k8 x).length/\DI.c i0<10000/\PW (DI.j i0=0/\Dec.MulIn (k8 x) k1 (DI.i i0) (List.getD (k8 x) (DI.i i0) 0) k16 (DI.o i0) (DI.c i0)\/DI.j i0=1/\DI.c i0=0/\Dec.MulAt (k8 x) k1 (DI.i i0+1) (DI.o i0)))/\((p0 (aac (AV.s false [aaa.v (Value.int IntKind.i64 (↑(DI.i i_1):Int))]) (k5 i0)/\aac (AV.s false [aaa.v (Value.int IntKind.i64 (↑(DI.c i_1):Int))]) (k9 i0)/\aac (AV.s false [aaa.v (Value.int IntKind.i64 (IntKind.wrap IntKind.i64 ((↑(DI.i i_1):Int)+k22)))]) (k23 i0)/\True))/\p1 (aaf (aae.row 3 1 (k0 x) (acv (DI.o i_1))) (aae.row 3 1 (k0 x) (k19 i0))/\True))/\∀ (i_2:DI),DI.i i_2<(k8 x).length/\DI.c i_2<10000/\PW (DI.j i_2=0/\Dec.MulIn (k8 x) k1 (DI.i i_2) (List.getD (k8 x) (DI.i i_2) 0) k16 (DI.o i_2) (DI.c i_2)\/DI.j i_2=1/\DI.c i_2=0/\Dec.MulAt (k8 x) k1 (DI.i i_2+1) (DI.o i_2))->DI.i i_2=DI.i i0->(decide ((↑(DI.c i_2):Int)>k15)=true->p2 i_2 (p2 i_2 (Exists λ(i':DI)=>(DI.i i'<(k8 x).length/\DI.c i'<10000/\PW (DI.j i'=0/\Dec.MulIn (k8 x) k1 (DI.i i') (List.getD (k8 x) (DI.i i') 0) k16 (DI.o i') (DI.c i')\/DI.j i'=1/\DI.c i'=0/\Dec.MulAt (k8 x) k1 (DI.i i'+1) (DI.o i')))/\DI.i i'=DI.i i0/\1-DI.j i'<1-DI.j i_2/\(p0 (aac (k5 i_2) (k5 i')/\aac (AV.s false [aaa.v (Value.int IntKind.i64 (IntKind.wrap IntKind.i64 (Int.tdiv (k18 i_2) k17)))]) (k9 i')/\aac (AV.s false [aaa.v (Value.int IntKind.i64 (IntKind.wrap IntKind.i64 ((k4 i_2)+(1:Int))))]) (k23 i')/\True))/\p1 (aaf (aae.row 3 1 (k0 x) λ(j:Nat)=>if j=(k4 i_2).toNat then [aaa.v (Value.int IntKind.i64 (Int.tmod (k18 i_2) k17))] else [aaa.v (Value.int IntKind.i64 (↑(List.getD (DI.o i_2) j 0):Int))]) (aae.row 3 1 (k0 x) (k19 i'))/\True))))/\(decide ((↑(DI.c i_2):Int)>k15)=false->Exists λ(i':DI)=>(DI.i i'<=(k8 x).length/\PW (Dec.MulAt (k8 x) k1 (DI.i i') (DI.o i')))/\(k8 x).length-DI.i i'<(k8 x).length-DI.i i/\(p0 (aac (AV.s false [aaa.v (Value.int IntKind.i64 (IntKind.wrap IntKind.i64 ((↑(DI.i i_2):Int)+(1:Int))))]) (k5 i')/\True))/\p1 (aaf (aae.row 3 1 (k0 x) (k19 i_2)) (aae.row 3 1 (k0 x) (k19 i'))/\True))))/\(decide ((↑(DI.i i):Int)<(k24 x))=false->(∀ (i_1:Nat),i_1<(k8 x).length+k1.length+1->aan [aaa.v (Value.int IntKind.i64 (↑(List.getD (DI.o i) i_1 0):Int))] [aaa.v (Value.int IntKind.i64 (↑(List.getD (acj (k0 x) (k19 i)) i_1 0):Int))])/\(∀ (x_1:Nat),List.Mem x_1 (acj (k0 x) (k19 i))->x_1<10000)/\(k8 x).length+k1.length+1<=10000000/\aac (AV.s true [aaa.m (Dec.valL (acj (k0 x) (k19 i)))]) (AV.s true [aaa.m (x*y)]))):=by kernel_rfl
theorem apg (x y:Nat) (hdx:Dec.dg x<=1000000) (hdy:Dec.dg y<=1000000):asr x y:=by
 rw[auN];simp only[SmA,SmB,aaP,abj,true_and,and_true,decide_eq_true_eq,decide_eq_false_iff_not,Int.toNat_natCast];unfold Dec.dg at hdx hdy;have ten:(10000:Int)=((10000:Nat):Int):=rfl;have tn:(10000:Int)≠0:=by decide
 have hw:IntKind.i64.wrap (IntKind.i64.wrap (((Dec.limbs x).length:Int)+((Dec.limbs y).length:Int))+1)=(((Dec.limbs x).length+(Dec.limbs y).length+1:Nat):Int):=by
  rw[IntKind.wrap_i64,IntKind.wrap_i64];omega
 rw[hw,Int.toNat_natCast];refine⟨by omega,⟨by omega,by omega⟩,⟨⟨0,0,0,0,List.replicate ((Dec.limbs x).length+(Dec.limbs y).length+1) 0⟩,⟨Nat.zero_le _,⟨Dec.mul_start _ _⟩⟩,aac.ik rfl,aaf.row rfl (λj hj=>ae4 ?_) (λ_ _=>rfl)⟩,λ⟨i,_,_,_,o⟩ ⟨h1,⟨h2⟩⟩=>⟨λhi=> ?_,λhi=> ?_⟩⟩
 ·simp[List.getD,hj]
 ·dsimp only at h1 h2 hi ⊢;have hi':i<(Dec.limbs x).length:=by omega
  refine⟨⟨i,0,0,0,o⟩,⟨hi',Nat.zero_le _,⟨Dec.mul_in h2⟩⟩,⟨⟨aac.refl _,aac.ik rfl,aac.ik rfl⟩,aaf.refl _⟩,?_⟩;clear h2;rintro⟨i2,k,c,_,o2⟩ ⟨h3,h4,⟨h5⟩⟩ h6;dsimp only at h3 h4 h5 h6 ⊢;subst h6;have hp:=Dec.getD_lt (Dec.limbs_limb x) i2;have hgx:=Dec.getD_of h3;have hcb:=h5.2.2.1;refine⟨λhk=> ?_,λhk=> ?_⟩
  ·have hk':k<(Dec.limbs y).length:=by omega
   have hq:=Dec.getD_lt (Dec.limbs_limb y) k;have hgy:=Dec.getD_of hk';obtain⟨v,hv,hvb⟩:=Dec.mul_at h5 h3 hk';have hvd:o2.getD (i2+k) 0=v:=by rw[List.getD,hv];rfl
   generalize hpe:(Dec.limbs x).getD i2 0=p at hp hgx h5 ⊢;generalize hqe:(Dec.limbs y).getD k 0=q at hq hgy ⊢;have hpq:p*q<=9999*9999:=Nat.mul_le_mul (by omega) (by omega);have w1:IntKind.i64.wrap ((i2:Int)+(k:Int))=((i2+k:Nat):Int):=by rw[IntKind.wrap_i64];omega
   have w2:IntKind.i64.wrap ((c:Int)+(v:Int))=((c+v:Nat):Int):=by rw[IntKind.wrap_i64];omega
   have w3:IntKind.i64.wrap ((p:Int)*(q:Int))=((p*q:Nat):Int):=by rw[<- Int.natCast_mul,IntKind.wrap_i64];omega
   have w4:IntKind.i64.wrap (((c+v:Nat):Int)+((p*q:Nat):Int))=((c+(p*q+v):Nat):Int):=by rw[IntKind.wrap_i64];omega
   rw[w1];simp only[Int.toNat_natCast,hvd,w2,w3,w4];refine⟨by omega,by omega,by omega,by omega,tn,by omega,by omega,tn,⟨i2,k+1,(c+(p*q+v))/10000,0,o2.set (i2+k) ((c+(p*q+v))%10000)⟩,⟨h3,by show k+1<=_;omega,⟨?_⟩⟩,rfl,by show (Dec.limbs y).length-(k+1)<(Dec.limbs y).length-k;omega,⟨aac.refl _,aac.ik ?_,aac.ik ?_⟩,akc h5.1.symm ?_⟩
   ·show Dec.MulIn (Dec.limbs x) (Dec.limbs y) i2 ((Dec.limbs x).getD i2 0) (k+1) _ _;rw[hpe];exact Dec.mul_one h5 hp hgy hq hv
   ·rw[ten,afw,al9 (by omega)]
   ·show _=((k+1:Nat):Int);rw[IntKind.wrap_i64];omega
   ·rw[ten,aik]
  ·obtain rfl:k=(Dec.limbs y).length:=by omega
   refine⟨⟨i2,0,c,0,o2⟩,⟨h3,hcb,⟨.inl ⟨rfl,h5⟩⟩⟩,⟨⟨aac.refl _,aac.refl _,aac.ik ?_⟩,aaf.refl _⟩,?_⟩
   ·show _=((i2+(Dec.limbs y).length+0:Nat):Int);rw[IntKind.wrap_i64];omega
   ·clear h5 hcb;rintro⟨i3,k3,c3,_,o3⟩ ⟨j1,j2,⟨j3⟩⟩ h6;dsimp only at j1 j2 j3 h6 ⊢;subst h6;refine⟨λhc=> ?_,λhc=> ?_⟩
    ·rcases j3 with ⟨rfl,j3⟩ | ⟨_,rfl,_⟩
     ·have hv:=j3.2.2.2.2 (i3+(Dec.limbs y).length) (Nat.le_refl _) (by omega);have hvd:o3.getD (i3+(Dec.limbs y).length+0) 0=0:=by rw[List.getD,Nat.add_zero,hv];rfl
      have w2:IntKind.i64.wrap ((c3:Int)+((0:Nat):Int))=((c3:Nat):Int):=by rw[IntKind.wrap_i64];omega
      simp only[hvd,w2];refine⟨by omega,by omega,tn,by omega,by omega,tn,⟨i3,1,0,0,o3.set (i3+(Dec.limbs y).length) c3⟩,⟨j1,by show 0<10000;decide,⟨.inr ⟨rfl,rfl,Dec.mul_out j3 (Dec.getD_of j1)⟩⟩⟩,rfl,by show 1-1<1-0;decide,⟨aac.refl _,aac.ik ?_,aac.ik ?_⟩,akc j3.1.symm ?_⟩
      ·rw[ten,afw,al9 (by omega)];show ((c3/10000:Nat):Int)=((0:Nat):Int);omega
      ·show _=((i3+(Dec.limbs y).length+1:Nat):Int);rw[IntKind.wrap_i64];omega
      ·rw[ten,aik];omega
     ·exact absurd hc (by decide)
    ·have hm:Dec.MulAt (Dec.limbs x) (Dec.limbs y) (i3+1) o3:=by
      rcases j3 with ⟨rfl,j3⟩ | ⟨_,_,j3⟩
      ·have hv:=j3.2.2.2.2 (i3+(Dec.limbs y).length) (Nat.le_refl _) (by omega);have:=Dec.mul_out j3 (Dec.getD_of j1);obtain rfl:c3=0:=by omega
       rwa [Dec.set_same hv] at this
      ·exact j3
     refine⟨⟨i3+1,0,0,0,o3⟩,⟨by show i3+1<=_;omega,⟨hm⟩⟩,by show (Dec.limbs x).length-(i3+1)<(Dec.limbs x).length-i3;omega,aac.ik ?_,aaf.refl _⟩;show _=((i3+1:Nat):Int);rw[IntKind.wrap_i64];omega
 ·dsimp only at h1 h2 hi ⊢;obtain rfl:i=(Dec.limbs x).length:=by omega
  obtain⟨k1,k2,k3⟩:=Dec.mul_end h2;rw[Dec.val_limbs,Dec.val_limbs] at k3;rw[<- k2,ahz,k3];exact⟨λ_ _=>aan.refl _,k1,by omega,aac.refl _⟩
theorem alu (D:Prop) (B:Nat):aai Tryz.prog D B 217 (aaF akR):=by
 refine aam (c:=Tryz.f217.body.getD .skip) (Γ :=lk av2) (aau (aop D)) (by kernel_rfl) Tryz.func217 (by kernel_rfl) (by kernel_rfl) ?_ B;intro pvs av ps h hp;unfold akR at h;split at h
 ·rename_i x y;cases h;obtain⟨h1,h2,_⟩:=hp;exact⟨[.s true [adO (Dec.limbs x)],.s true [adO (Dec.limbs y)]],[(4,aiU x y),(1000014,prd [.frz 900] [])],aaj.cons (aac.s (aan.cons (CLe.m_row x) aan.nil)) (aaj.cons (aac.s (aan.cons (CLe.m_row y) aan.nil)) aaj.nil),by rw[Tryz.ntmps217];simp,amF x y h1 h2⟩
 ·cases h
theorem aob (D:Prop) (B:Nat):aai Tryz.prog D B 232 (aaF ap8):=by
 refine aam (c:=Tryz.f232.body.getD .skip) (Γ :=lk av2) (aau (aop D)) (by kernel_rfl) Tryz.func232 (by kernel_rfl) (by kernel_rfl) ?_ B;intro pvs av ps h hp;unfold ap8 at h;split at h
 ·rename_i x y;cases h;obtain⟨h1,h2,_⟩:=hp;exact⟨[.s true [adO (Dec.limbs x)],.s true [adO (Dec.limbs y)]],[(3,aiT x y),(7,aiS x y),(13,aiR x y),(1000018,prd [.frz 18] [])],aaj.cons (aac.s (aan.cons (CLe.m_row x) aan.nil)) (aaj.cons (aac.s (aan.cons (CLe.m_row y) aan.nil)) aaj.nil),by rw[Tryz.ntmps232];simp,apg x y h1 h2⟩
 ·cases h
end Go.Proofs.YtcmplpkmfbhpdaaGreat
namespace Go.Proofs.YtcmplpkmfbhpdaaGreat
open Go Go.RowKit
def jC (z:Int):List aaa:=[.v (.int .i64 z.sign),.m z.natAbs]
def jv (s:Int) (n:Nat):Int:=s*n
structure JV (s:Int) (n:Nat):Prop where
 h:(s=1/\0<n)\/(s= -1/\0<n)\/(s=0/\n=0)
theorem agz (z:Int):jv z.sign z.natAbs=z:=Int.sign_mul_natAbs z
theorem am4 (z:Int):JV z.sign z.natAbs:=by
 refine⟨?_⟩;rcases Int.lt_trichotomy z 0 with h | h | h
 ·rw[Int.sign_eq_neg_one_of_neg h];omega
 ·subst h;simp
 ·rw[Int.sign_eq_one_of_pos h];omega
theorem al8 (z:Int):JV z.sign z.natAbs=True:=eq_true (am4 z)
theorem aeL {s:Int} {n:Nat} (h:JV s n):(jv s n).sign=s:=by
 unfold jv;rcases h with ⟨⟨rfl,h⟩ | ⟨rfl,h⟩ | ⟨rfl,rfl⟩⟩
 ·rw[Int.one_mul,Int.sign_eq_one_of_pos (by omega)]
 ·rw[show (-1:Int)*(n:Int)= -(n:Int) by omega,Int.sign_eq_neg_one_of_neg (by omega)]
 ·simp
theorem agM {s:Int} {n:Nat} (h:JV s n):(jv s n).natAbs=n:=by
 unfold jv;rcases h with ⟨⟨rfl,h⟩ | ⟨rfl,h⟩ | ⟨rfl,rfl⟩⟩
 ·omega
 ·omega
 ·simp
theorem alJ {s:Int} {n:Nat} (h:JV s n):[aaa.v (.int .i64 s),.m n]=jC (jv s n):=by
 unfold jC;rw[aeL h,agM h]
def agN:abF
 |[.i s,.o (.s true [.m n])]=>some (.s true (jC (jv s n)),[s=1\/s= -1\/n=0])
 |_=>none
def gMd:List (Nat × Run):=[(166,aaF agN)]
def aAp:List (Nat × Run):=[(166,aaF agN),(168,aaF ayC),(167,aaF aqd)]
theorem arr (s:Int) (n:Nat):vc Tryz.prog (lk []) Tryz.f166.ntmps [] (Tryz.f166.body.getD .skip) ⟨aao [.s false [.v (.int .i64 s)],.s true [adO (Dec.limbs n)]] 0,[]⟩ (aaH Tryz.prog Tryz.f166.results.toList (.s true (jC (jv s n))))=((((↑(Dec.limbs n).length:Int) == (0:Int))=true->aac (AV.s true [aaa.v (Value.int IntKind.i64 (0:Int)),aaa.v (Value.slice none 0 0)]) (AV.s true (jC (jv s n))))/\(((↑(Dec.limbs n).length:Int) == (0:Int))=false->aac (AV.s true [aaa.v (Value.int IntKind.i64 s),aaa.row 1 (Dec.limbs n).length λ(a:Nat)=>[aaa.v (Value.int IntKind.i64 (↑(List.getD (Dec.limbs n) a 0):Int))]]) (AV.s true (jC (jv s n))))):=by kernel_rfl
theorem afk (D:Prop) (B:Nat):aai Tryz.prog D B 166 (aaF agN):=by
 refine aam (c:=Tryz.f166.body.getD .skip) (Γ :=lk []) (λ_ _ _ h=>by cases h) (by kernel_rfl) Tryz.func166 (by kernel_rfl) (by kernel_rfl) ?_ B;intro pvs av ps h hp;unfold agN at h;split at h
 ·rename_i s n;cases h;obtain⟨hs,_⟩:=hp;refine⟨[.s false [.v (.int .i64 s)],.s true [adO (Dec.limbs n)]],[],aaj.cons (aac.refl _) (aaj.cons (aac.s (aan.cons (CLe.m_row n) aan.nil)) aaj.nil),by rw[Tryz.ntmps166];simp,?_⟩;rw[arr];have hn:n≠0->0<(Dec.limbs n).length:=λh=>by rw[Dec.limbs_pos h];simp
  refine⟨λh0=> ?_,λh0=> ?_⟩
  ·have:n=0:=Classical.byContradiction λh=>by
    have:=hn h;rw[beq_iff_eq] at h0;omega
   subst this;have e:jv s 0=0:=by simp[jv]
   rw[e];exact aac.s (aan.cons (CLe.v rfl) (aan.cons CLe.nil_m aan.nil))
  ·have h1:n≠0:=λh=>by
    subst h;rw[Dec.limbs_zero] at h0;cases h0
   have hJ:JV s n:=⟨by omega⟩
   rw[<- alJ hJ];exact aac.s (aan.cons (CLe.refl _) (aan.cons (CLe.row_m rfl λi _=>aan.refl _) aan.nil))
 ·cases h
theorem ax7 (D:Prop):∀ p∈gMd,∀ B,aai Tryz.prog D B p.1 p.2:=aad (afk D) λp hp=>by cases hp
theorem avj (D:Prop):∀ p∈aAp,∀ B,aai Tryz.prog D B p.1 p.2:=aad (afk D) (aad (asp D) (aad (aoi D) λp hp=>by cases hp))
theorem axP (n:Int):vc Tryz.prog (lk aAp) Tryz.f110.ntmps [] (Tryz.f110.body.getD .skip) ⟨aao [.s false [.v (.int .i64 n)]] 0,[]⟩ (aaH Tryz.prog Tryz.f110.results.toList (.s true (jC n)))=((decide (n<(0:Int))=true->((0:Int)<=IntKind.wrap IntKind.u64 (IntKind.wrap IntKind.i64 ((0:Int)-IntKind.wrap IntKind.i64 (n+(1:Int))))/\IntKind.wrap IntKind.u64 (IntKind.wrap IntKind.i64 ((0:Int)-IntKind.wrap IntKind.i64 (n+(1:Int))))<(18446744073709551616:Int))/\((0:Int)<=(1:Int)/\(1:Int)<(18446744073709551616:Int))/\Dec.dg (IntKind.wrap IntKind.u64 (IntKind.wrap IntKind.i64 ((0:Int)-IntKind.wrap IntKind.i64 (n+(1:Int))))).toNat<=1000000/\1<=1000000/\((-1:Int)=(1:Int)\/(-1:Int)=(-1:Int)\/(IntKind.wrap IntKind.u64 (IntKind.wrap IntKind.i64 ((0:Int)-IntKind.wrap IntKind.i64 (n+(1:Int))))).toNat+(1:Int).toNat=0)/\aac (AV.s true (jC (jv (-1:Int) ((IntKind.wrap IntKind.u64 (IntKind.wrap IntKind.i64 ((0:Int)-IntKind.wrap IntKind.i64 (n+(1:Int))))).toNat+(1:Int).toNat)))) (AV.s true (jC n)))/\(decide (n<(0:Int))=false->((0:Int)<=IntKind.wrap IntKind.u64 n/\IntKind.wrap IntKind.u64 n<(18446744073709551616:Int))/\((1:Int)=(1:Int)\/(1:Int)=(-1:Int)\/(IntKind.wrap IntKind.u64 n).toNat=0)/\aac (AV.s true (jC (jv (1:Int) (IntKind.wrap IntKind.u64 n).toNat))) (AV.s true (jC n)))):=by kernel_rfl
def ayE:abF
 |[.i n]=>some (.s true (jC n),[abB n])
 |_=>none
theorem am3 {m:Nat} (h:m<100000000000000000000):Dec.dg m<=5:=Dec.limbs_le m 5 (by rw[show (10000:Nat) ^ 5=100000000000000000000 by decide];exact h)
theorem asI (D:Prop) (B:Nat):aai Tryz.prog D B 110 (aaF ayE):=by
 refine aam (c:=Tryz.f110.body.getD .skip) (aau (avj D)) (by kernel_rfl) Tryz.func110 (by kernel_rfl) (by kernel_rfl) ?_ B;intro pvs av ps h hp;unfold ayE at h;split at h
 ·rename_i n;cases h;obtain⟨hn,_⟩:=hp;refine⟨[.s false [.v (.int .i64 n)]],[],aaj.refl _,by rw[Tryz.ntmps110];simp,?_⟩;rw[axP];unfold abB at hn;have dg1:∀ z:Int,0<=z->z<18446744073709551616->Dec.dg z.toNat<=1000000:=λz h1 h2=>Nat.le_trans (am3 (m:=z.toNat) (by omega)) (by decide);refine⟨λh0=> ?_,λh0=> ?_⟩
  ·have h0':n<0:=of_decide_eq_true h0;have e:IntKind.wrap IntKind.u64 (IntKind.wrap IntKind.i64 (0-IntKind.wrap IntKind.i64 (n+1)))= -(n+1):=by
    rw[IntKind.wrap_i64,IntKind.wrap_i64,IntKind.wrap_u64];omega
   rw[e];refine⟨by omega,by omega,dg1 _ (by omega) (by omega),by decide,.inr (.inl rfl),?_⟩;have e2:jv (-1) ((-(n+1)).toNat+(1:Int).toNat)=n:=by unfold jv;omega
   rw[e2];exact aac.refl _
  ·have h0':¬ n<0:=of_decide_eq_false h0;have e:IntKind.wrap IntKind.u64 n=n:=by rw[IntKind.wrap_u64];omega
   rw[e];refine⟨by omega,.inl rfl,?_⟩;have e2:jv 1 n.toNat=n:=by unfold jv;omega
   rw[e2];exact aac.refl _
 ·cases h
theorem adL {s:Int} {n:Nat} (h:JV s n):aac (.s true [.v (.int .i64 s),.m n]) (.s true (jC (jv s n))):=by
 rw[alJ h];exact aac.refl _
theorem amf {x y:Int} (h:x=y):aac (.s true (jC x)) (.s true (jC y)):=by subst h;exact aac.refl _
theorem apR (x:Int):x.sign=1/\0<x\/x.sign= -1/\x<0\/x.sign=0/\x=0:=by
 rcases Int.lt_trichotomy x 0 with h | h | h
 ·exact .inr (.inl ⟨Int.sign_eq_neg_one_of_neg h,h⟩)
 ·subst h;simp
 ·exact .inl ⟨Int.sign_eq_one_of_pos h,h⟩
theorem au8 (x:Int):vc Tryz.prog (lk gMd) Tryz.f176.ntmps [] (Tryz.f176.body.getD .skip) ⟨aao [.s true (jC x)] 0,[]⟩ (aaH Tryz.prog Tryz.f176.results.toList (.s true (jC (-x))))=((IntKind.wrap IntKind.i64 ((0:Int)-Int.sign x)=(1:Int)\/IntKind.wrap IntKind.i64 ((0:Int)-Int.sign x)=(-1:Int)\/Int.natAbs x=0)/\aac (AV.s true (jC (jv (IntKind.wrap IntKind.i64 ((0:Int)-Int.sign x)) (Int.natAbs x)))) (AV.s true (jC (-x)))):=by kernel_rfl
def aqe:abF
 |[.o (.s true [.v (.int .i64 s0),.m n0])]=>some (.s true (jC (-(jv s0 n0))),[JV s0 n0])
 |_=>none
theorem aok (D:Prop) (B:Nat):aai Tryz.prog D B 176 (aaF aqe):=by
 refine aam (c:=Tryz.f176.body.getD .skip) (aau (ax7 D)) (by kernel_rfl) Tryz.func176 (by kernel_rfl) (by kernel_rfl) ?_ B;intro pvs av ps h hp;unfold aqe at h;split at h
 ·rename_i s0 n0;cases h;obtain⟨hj0,_⟩:=hp;have q0:=adL hj0;clear hj0;generalize jv s0 n0=x at *;refine⟨[.s true (jC x)],[],aaj.cons q0 (aaj.nil),by rw[Tryz.ntmps176];simp,?_⟩;rw[au8];have e:IntKind.wrap IntKind.i64 (0-Int.sign x)=(-x).sign:=by
   rw[Int.sign_neg];rcases apR x with ⟨h,_⟩ | ⟨h,_⟩ | ⟨h,_⟩<;>rw[h]<;>rfl
  rw[e,<- Int.natAbs_neg,agz];exact⟨(apR (-x)).elim (λh=> .inl h.1) λh=>h.elim (λh=> .inr (.inl h.1)) λh=> .inr (.inr (by omega)),aac.refl _⟩
 ·cases h
def gJc:List (Nat × Run):=[(166,aaF agN),(181,aaF aqb),(167,aaF aqd),(217,aaF akR),(232,aaF ap8)]
theorem anB (D:Prop):∀ p∈gJc,∀ B,aai Tryz.prog D B p.1 p.2:=aad (afk D) (aad (aog D) (aad (aoi D) (aad (alu D) (aad (aob D) λp hp=>by cases hp))))
theorem avb (x y:Int):vc Tryz.prog (lk gJc) Tryz.f131.ntmps [] (Tryz.f131.body.getD .skip) ⟨aao [.s true (jC x),.s true (jC y)] 0,[]⟩ (aaH Tryz.prog Tryz.f131.results.toList (.s false [.v (.int .i64 (abe x y))]))=((decide (x.sign<y.sign)=true->aac (AV.s false [aaa.v (Value.int IntKind.i64 (-1:Int))]) (AV.s false [aaa.v (Value.int IntKind.i64 (abe x y))]))/\(decide (x.sign<y.sign)=false->(decide (x.sign>y.sign)=true->aac (AV.s false [aaa.v (Value.int IntKind.i64 (1:Int))]) (AV.s false [aaa.v (Value.int IntKind.i64 (abe x y))]))/\(decide (x.sign>y.sign)=false->Dec.dg x.natAbs<=1000000/\aac (AV.s false [aaa.v (Value.int IntKind.i64 (IntKind.wrap IntKind.i64 (x.sign*abe (↑x.natAbs:Int) (↑y.natAbs:Int))))]) (AV.s false [aaa.v (Value.int IntKind.i64 (abe x y))])))):=by kernel_rfl
def aqf:abF
 |[.o (.s true [.v (.int .i64 s0),.m n0]),.o (.s true [.v (.int .i64 s1),.m n1])]=>some (.s false [.v (.int .i64 (abe (jv s0 n0) (jv s1 n1)))],[JV s0 n0,JV s1 n1,Dec.dg (jv s0 n0).natAbs<=1000000])
 |_=>none
theorem aol (D:Prop) (B:Nat):aai Tryz.prog D B 131 (aaF aqf):=by
 refine aam (c:=Tryz.f131.body.getD .skip) (aau (anB D)) (by kernel_rfl) Tryz.func131 (by kernel_rfl) (by kernel_rfl) ?_ B;intro pvs av ps h hp;unfold aqf at h;split at h
 ·rename_i s0 n0 s1 n1;cases h;obtain⟨hj0,hj1,hx,_⟩:=hp;have q0:=adL hj0;clear hj0;generalize jv s0 n0=x at *;have q1:=adL hj1;clear hj1;generalize jv s1 n1=y at *;refine⟨[.s true (jC x),.s true (jC y)],[],aaj.cons q0 (aaj.cons q1 (aaj.nil)),by rw[Tryz.ntmps131];simp,?_⟩;rw[avb];simp only[decide_eq_true_eq,decide_eq_false_iff_not];rcases apR x with ⟨e,k⟩ | ⟨e,k⟩ | ⟨e,k⟩<;>rcases apR y with ⟨e',k'⟩ | ⟨e',k'⟩ | ⟨e',k'⟩
  all_goals
   rw[e,e'];refine⟨λh1=> ?_,λh1=>⟨λh2=> ?_,λh2=>⟨hx,?_⟩⟩⟩
  all_goals
   first
   |exact absurd h1 (by decide)
   |exact absurd h2 (by decide)
   |refine aac.ik ?_
    unfold abe;(repeat' split)<;>first | rfl | omega
 ·cases h
theorem avc (x y:Int):vc Tryz.prog (lk gJc) Tryz.f227.ntmps [] (Tryz.f227.body.getD .skip) ⟨aao [.s true (jC x),.s true (jC y)] 0,[]⟩ (aaH Tryz.prog Tryz.f227.results.toList (.s true (jC (x+y))))=(((x.sign == (0:Int))=true->aac (AV.s true (jC y)) (AV.s true (jC (x+y))))/\((x.sign == (0:Int))=false->((y.sign == (0:Int))=true->aac (AV.s true (jC x)) (AV.s true (jC (x+y))))/\((y.sign == (0:Int))=false->((x.sign == y.sign)=true->Dec.dg x.natAbs<=1000000/\Dec.dg y.natAbs<=1000000/\(x.sign=(1:Int)\/x.sign=(-1:Int)\/x.natAbs+y.natAbs=0)/\aac (AV.s true (jC (jv x.sign (x.natAbs+y.natAbs)))) (AV.s true (jC (x+y))))/\((x.sign == y.sign)=false->Dec.dg x.natAbs<=1000000/\(decide (abe (↑x.natAbs:Int) (↑y.natAbs:Int)>=(0:Int))=true->y.natAbs<=x.natAbs/\Dec.dg x.natAbs<=1000000/\(x.sign=(1:Int)\/x.sign=(-1:Int)\/x.natAbs-y.natAbs=0)/\aac (AV.s true (jC (jv x.sign (x.natAbs-y.natAbs)))) (AV.s true (jC (x+y))))/\(decide (abe (↑x.natAbs:Int) (↑y.natAbs:Int)>=(0:Int))=false->x.natAbs<=y.natAbs/\Dec.dg y.natAbs<=1000000/\(y.sign=(1:Int)\/y.sign=(-1:Int)\/y.natAbs-x.natAbs=0)/\aac (AV.s true (jC (jv y.sign (y.natAbs-x.natAbs)))) (AV.s true (jC (x+y)))))))):=by kernel_rfl
def ajz:abF
 |[.o (.s true [.v (.int .i64 s0),.m n0]),.o (.s true [.v (.int .i64 s1),.m n1])]=>some (.s true (jC ((jv s0 n0)+(jv s1 n1))),[JV s0 n0,JV s1 n1,Dec.dg (jv s0 n0).natAbs<=1000000,Dec.dg (jv s1 n1).natAbs<=1000000])
 |_=>none
theorem aom (D:Prop) (B:Nat):aai Tryz.prog D B 227 (aaF ajz):=by
 refine aam (c:=Tryz.f227.body.getD .skip) (aau (anB D)) (by kernel_rfl) Tryz.func227 (by kernel_rfl) (by kernel_rfl) ?_ B;intro pvs av ps h hp;unfold ajz at h;split at h
 ·rename_i s0 n0 s1 n1;cases h;obtain⟨hj0,hj1,hx,hy,_⟩:=hp;have q0:=adL hj0;clear hj0;generalize jv s0 n0=x at *;have q1:=adL hj1;clear hj1;generalize jv s1 n1=y at *;refine⟨[.s true (jC x),.s true (jC y)],[],aaj.cons q0 (aaj.cons q1 (aaj.nil)),by rw[Tryz.ntmps227];simp,?_⟩;rw[avc];simp only[decide_eq_true_eq,decide_eq_false_iff_not];have hc:(abe ((Int.natAbs x:Nat):Int) ((Int.natAbs y:Nat):Int)>=0)=(Int.natAbs y<=Int.natAbs x):=by
   unfold abe;apply propext;(repeat' split)<;>omega
  rw[hc];refine⟨λh=>amf ?_,λh=>⟨λh2=>amf ?_,λh2=>⟨λh3=>⟨hx,hy,?_,amf ?_⟩,λh3=>⟨hx,λh4=>⟨?_,hx,?_,amf ?_⟩,λh4=>⟨?_,hy,?_,amf ?_⟩⟩⟩⟩⟩;all_goals
   try unfold jv
   rcases apR x with ⟨e,k⟩ | ⟨e,k⟩ | ⟨e,k⟩<;>rcases apR y with ⟨e',k'⟩ | ⟨e',k'⟩ | ⟨e',k'⟩<;>simp only[e,e',beq_iff_eq,beq_eq_false_iff_ne,true_or,or_true] at * <;> first | trivial | omega
 ·cases h
theorem au9 (x y:Int):vc Tryz.prog (lk gJc) Tryz.f212.ntmps [] (Tryz.f212.body.getD .skip) ⟨aao [.s true (jC x),.s true (jC y)] 0,[]⟩ (aaH Tryz.prog Tryz.f212.results.toList (.s true (jC (x*y))))=(Dec.dg x.natAbs<=1000000/\Dec.dg y.natAbs<=1000000/\(IntKind.wrap IntKind.i64 (x.sign*y.sign)=(1:Int)\/IntKind.wrap IntKind.i64 (x.sign*y.sign)=(-1:Int)\/x.natAbs*y.natAbs=0)/\aac (AV.s true (jC (jv (IntKind.wrap IntKind.i64 (x.sign*y.sign)) (x.natAbs*y.natAbs)))) (AV.s true (jC (x*y)))):=by kernel_rfl
def ame:abF
 |[.o (.s true [.v (.int .i64 s0),.m n0]),.o (.s true [.v (.int .i64 s1),.m n1])]=>some (.s true (jC ((jv s0 n0)*(jv s1 n1))),[JV s0 n0,JV s1 n1,Dec.dg (jv s0 n0).natAbs<=1000000,Dec.dg (jv s1 n1).natAbs<=1000000])
 |_=>none
theorem ava (D:Prop) (B:Nat):aai Tryz.prog D B 212 (aaF ame):=by
 refine aam (c:=Tryz.f212.body.getD .skip) (aau (anB D)) (by kernel_rfl) Tryz.func212 (by kernel_rfl) (by kernel_rfl) ?_ B;intro pvs av ps h hp;unfold ame at h;split at h
 ·rename_i s0 n0 s1 n1;cases h;obtain⟨hj0,hj1,hx,hy,_⟩:=hp;have q0:=adL hj0;clear hj0;generalize jv s0 n0=x at *;have q1:=adL hj1;clear hj1;generalize jv s1 n1=y at *;refine⟨[.s true (jC x),.s true (jC y)],[],aaj.cons q0 (aaj.cons q1 (aaj.nil)),by rw[Tryz.ntmps212];simp,?_⟩;rw[au9];have e:IntKind.wrap IntKind.i64 (Int.sign x*Int.sign y)=(x*y).sign:=by
   rw[Int.sign_mul];rcases apR x with ⟨e,k⟩ | ⟨e,k⟩ | ⟨e,k⟩<;>rcases apR y with ⟨e',k'⟩ | ⟨e',k'⟩ | ⟨e',k'⟩<;>rw[e,e']<;>rfl
  rw[e,<- Int.natAbs_mul,agz];exact⟨hx,hy,(apR (x*y)).elim (λh=> .inl h.1) λh=>h.elim (λh=> .inr (.inl h.1)) λh=> .inr (.inr (by rw[h.2];rfl)),aac.refl _⟩
 ·cases h
def gJs:List (Nat × Run):=[(176,aaF aqe),(227,aaF ajz)]
theorem ayc (D:Prop):∀ p∈gJs,∀ B,aai Tryz.prog D B p.1 p.2:=aad (aok D) (aad (aom D) λp hp=>by cases hp)
theorem au6 (x y:Int):vc Tryz.prog (lk gJs) Tryz.f213.ntmps [] (Tryz.f213.body.getD .skip) ⟨aao [.s true (jC x),.s true (jC y)] 0,[]⟩ (aaH Tryz.prog Tryz.f213.results.toList (.s true (jC (x-y))))=(JV y.sign y.natAbs/\JV x.sign x.natAbs/\JV (-jv y.sign y.natAbs).sign (-jv y.sign y.natAbs).natAbs/\Dec.dg (jv x.sign x.natAbs).natAbs<=1000000/\Dec.dg (jv (-jv y.sign y.natAbs).sign (-jv y.sign y.natAbs).natAbs).natAbs<=1000000/\aac (AV.s true (jC (jv x.sign x.natAbs+jv (-jv y.sign y.natAbs).sign (-jv y.sign y.natAbs).natAbs))) (AV.s true (jC (x-y)))):=by kernel_rfl
def amd:abF
 |[.o (.s true [.v (.int .i64 s0),.m n0]),.o (.s true [.v (.int .i64 s1),.m n1])]=>some (.s true (jC ((jv s0 n0)-(jv s1 n1))),[JV s0 n0,JV s1 n1,Dec.dg (jv s0 n0).natAbs<=1000000,Dec.dg (jv s1 n1).natAbs<=1000000])
 |_=>none
theorem au7 (D:Prop) (B:Nat):aai Tryz.prog D B 213 (aaF amd):=by
 refine aam (c:=Tryz.f213.body.getD .skip) (aau (ayc D)) (by kernel_rfl) Tryz.func213 (by kernel_rfl) (by kernel_rfl) ?_ B;intro pvs av ps h hp;unfold amd at h;split at h
 ·rename_i s0 n0 s1 n1;cases h;obtain⟨hj0,hj1,hx,hy,_⟩:=hp;have q0:=adL hj0;clear hj0;generalize jv s0 n0=x at *;have q1:=adL hj1;clear hj1;generalize jv s1 n1=y at *;refine⟨[.s true (jC x),.s true (jC y)],[],aaj.cons q0 (aaj.cons q1 (aaj.nil)),by rw[Tryz.ntmps213];simp,?_⟩;rw[au6];simp only[agz,al8,true_and];exact⟨hx,by rw[Int.natAbs_neg];exact hy,amf (by omega)⟩
 ·cases h
end Go.Proofs.YtcmplpkmfbhpdaaGreat
