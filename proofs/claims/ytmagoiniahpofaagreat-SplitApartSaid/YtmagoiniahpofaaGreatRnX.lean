/-
  The reference's whole numbers by ten thousands, plain: a difference, a product.
-/
import Derived.Test.YtmagoiniahpofaaGreatGDec
import Derived.Test.YtmagoiniahpofaaGreatSyE
import Derived.Test.YtmagoiniahpofaaGreatRfN
import Derived.Test.YtmagoiniahpofaaGreatSyD
namespace Go.Proofs.YtmagoiniahpofaaGreat.Dec
theorem val_take_all {l:List Nat} {i:Nat} (h:l.length≤i):valL (l.take i)=valL l:=by rw[List.take_of_length_le h]
theorem val_take_none {l:List Nat} {i:Nat} (h:l.length≤i):valL (l.take (i+1))=valL (l.take i):=by rw[List.take_of_length_le h,List.take_of_length_le (by omega)]
theorem limb_mod (n:Nat):n%10000<10000:=Nat.mod_lt _ (by decide)
def LessAt (l m:List Nat) (i:Nat) (o:List Nat) (b:Nat):Prop:=o.length=i∧Limb o∧b<2∧valL o+valL (m.take i)=valL (l.take i)+10000 ^ i*b
theorem less_start (l m:List Nat):LessAt l m 0 [] 0:=⟨rfl,(fun _ h=>by cases h),by decide,by simp[valL]⟩
theorem less_both {l m:List Nat} {i:Nat} {o:List Nat} {b x y z b':Nat} (h:LessAt l m i o b) (hx:l[i]? =some x) (hy:m[i]? =some y) (hz:z<10000) (hb:b'<2) (he:z+y+b=x+10000*b') :
  LessAt l m (i+1) (o++[z]) b':=by
 obtain⟨h1,h2,h3,h4⟩:=h
 refine⟨by simp[h1],limb_snoc h2 hz,hb,?_⟩
 rw[val_snoc,h1,val_take_succ hx,val_take_succ hy,Nat.pow_succ]
 have:=less_step h4 he
 omega
theorem less_one {l m:List Nat} {i:Nat} {o:List Nat} {b x z b':Nat} (h:LessAt l m i o b) (hx:l[i]? =some x) (hm:m.length≤i) (hz:z<10000) (hb:b'<2) (he:z+b=x+10000*b') :
  LessAt l m (i+1) (o++[z]) b':=by
 obtain⟨h1,h2,h3,h4⟩:=h
 refine⟨by simp[h1],limb_snoc h2 hz,hb,?_⟩
 rw[val_snoc,h1,val_take_succ hx,val_take_none hm,Nat.pow_succ]
 have:=less_step (y:=0) h4 (by omega:z+0+b=x+10000*b')
 simp only[Nat.mul_zero,Nat.add_zero] at this
 omega
theorem less_done {l m o:List Nat} {b:Nat} (h:LessAt l m l.length o b) (hml:m.length≤l.length) (hle:valL m≤valL l):Limb o∧o.length=l.length∧valL o=valL l-valL m:=by
 obtain⟨h1,h2,h3,h4⟩:=h
 rw[val_take_all (Nat.le_refl _),val_take_all hml] at h4
 refine⟨h2,h1,?_⟩
 have hv:=val_lt h2
 rw[h1] at hv
 exact less_end hv h4 hle
def MulAt (l m:List Nat) (i:Nat) (o:List Nat):Prop:=o.length=l.length+m.length+1∧Limb o∧valL o=valL (l.take i)*valL m∧∀ j,i+m.length≤j→j<l.length+m.length+1→o[j]? =some 0
def MulIn (l m:List Nat) (i x k:Nat) (o:List Nat) (c:Nat):Prop:=o.length=l.length+m.length+1∧Limb o∧c<10000∧valL o+10000 ^ (i+k)*c=valL (l.take i)*valL m+10000 ^ i*x*valL (m.take k)∧∀ j,i+m.length≤j→j<l.length+m.length+1→o[j]? =some 0
theorem mul_start (l m:List Nat):MulAt l m 0 (List.replicate (l.length+m.length+1) 0):=
 ⟨by simp,limb_zeros _,by rw[val_zeros];simp[valL],fun j h1 h2=>by rw[List.getElem?_replicate,if_pos h2]⟩
theorem mul_in {l m:List Nat} {i x:Nat} {o:List Nat} (h:MulAt l m i o):MulIn l m i x 0 o 0:=
 ⟨h.1,h.2.1,by decide,by rw[h.2.2.1];simp[valL],h.2.2.2⟩
theorem mul_one {l m:List Nat} {i x k:Nat} {o:List Nat} {c y v:Nat} (h:MulIn l m i x k o c) (hx:x<10000) (hy:m[k]? =some y) (hyb:y<10000) (hv:o[i+k]? =some v) :
  MulIn l m i x (k+1) (o.set (i+k) ((c+(x*y+v))%10000)) ((c+(x*y+v))/10000):=by
 obtain⟨h1,h2,h3,h4,h5⟩:=h
 have hvb:=h2 v (List.mem_of_getElem? hv)
 have hkm:k<m.length:=(List.getElem?_eq_some_iff.1 hy).1
 refine⟨by simp[h1],limb_set h2 _ (limb_mod _),?_,?_,?_⟩
 ·have:x*y≤9999*9999:=Nat.mul_le_mul (by omega) (by omega)
  omega
 ·have e1:=val_set ((c+(x*y+v))%10000) hv
  have e2:=mul_step (x:=x) (y:=y) (o:=v) h4
  rw[val_take_succ hy,show i+(k+1)=i+k+1 from rfl,Nat.pow_succ]
  have e3:10000 ^ i*x*(valL (m.take k)+10000 ^ k*y)=10000 ^ i*x*valL (m.take k)+10000 ^ (i+k)*(x*y):=by
   rw[Nat.pow_add];grind
  rw[e3]
  omega
 ·intro j hj1 hj2
  rw[List.getElem?_set_ne (by omega)]
  exact h5 j hj1 hj2
theorem mul_out {l m:List Nat} {i x:Nat} {o:List Nat} {c:Nat} (h:MulIn l m i x m.length o c) (hx:l[i]? =some x):MulAt l m (i+1) (o.set (i+m.length) c):=by
 obtain⟨h1,h2,h3,h4,h5⟩:=h
 have hil:i<l.length:=(List.getElem?_eq_some_iff.1 hx).1
 refine⟨by simp[h1],limb_set h2 _ h3,?_,?_⟩
 ·have e1:=val_set c (h5 (i+m.length) (Nat.le_refl _) (by omega))
  rw[val_take_succ hx,Nat.add_mul]
  rw[val_take_all (Nat.le_refl _)] at h4
  omega
 ·intro j hj1 hj2
  rw[List.getElem?_set_ne (by omega)]
  exact h5 j (by omega) hj2
theorem mul_end {l m o:List Nat} (h:MulAt l m l.length o):Limb o∧o.length=l.length+m.length+1∧valL o=valL l*valL m:=
 ⟨h.2.1,h.1,by rw[h.2.2.1,val_take_all (Nat.le_refl _)]⟩
theorem mul_at {l m:List Nat} {i x k:Nat} {o:List Nat} {c:Nat} (h:MulIn l m i x k o c) (hi:i<l.length) (hk:k<m.length):∃ v,o[i+k]? =some v∧v<10000:=by
 have hl:i+k<o.length:=by rw[h.1];omega
 exact⟨_,List.getElem?_eq_getElem hl,h.2.1 _ (List.getElem_mem hl)⟩
theorem limbs_inj {x y:Nat} (h:limbs x=limbs y):x=y:=by
 rw[← val_limbs x,h,val_limbs]
theorem getD_of {l:List Nat} {i:Nat} (h:i<l.length):l[i]? =some (l.getD i 0):=by
 simp[List.getD,h]
theorem getD_lt {l:List Nat} (hl:Limb l) (i:Nat):l.getD i 0<10000:=by
 rcases Nat.lt_or_ge i l.length with h | h
 ·rw[List.getD,List.getElem?_eq_getElem h]
  exact hl _ (List.getElem_mem h)
 ·rw[List.getD,List.getElem?_eq_none h]
  decide
theorem limbs_le (x k:Nat) (h:x<10000 ^ k):(limbs x).length≤k:=(limbs_len x k).2 h
theorem set_same {o:List Nat} {j x:Nat} (h:o[j]? =some x):o.set j x=o:=by
 apply List.ext_getElem?
 intro i
 rw[List.getElem?_set]
 split
 ·rename_i e
  subst e
  have:=(List.getElem?_eq_some_iff.1 h).1
  rw[if_pos this,h]
 ·rfl
def dg (x:Nat):Nat:=(limbs x).length
theorem dg_add (x y:Nat):dg (x+y)≤dg x+dg y+1:=by
 refine limbs_le _ _ ?_
 have h1:=(limbs_len x _).1 (Nat.le_refl _)
 have h2:=(limbs_len y _).1 (Nat.le_refl _)
 rw[Nat.pow_succ,Nat.pow_add]
 have h5:10000 ^ (limbs x).length≤10000 ^ (limbs x).length*10000 ^ (limbs y).length:=Nat.le_mul_of_pos_right _ (Nat.pow_pos (by omega))
 have h6:10000 ^ (limbs y).length≤10000 ^ (limbs x).length*10000 ^ (limbs y).length:=Nat.le_mul_of_pos_left _ (Nat.pow_pos (by omega))
 unfold dg
 omega
theorem dg_mul (x y:Nat):dg (x*y)≤dg x+dg y:=by
 refine limbs_le _ _ ?_
 have h1:=(limbs_len x _).1 (Nat.le_refl _)
 have h2:=(limbs_len y _).1 (Nat.le_refl _)
 rw[Nat.pow_add]
 exact Nat.mul_lt_mul'' h1 h2
theorem dg_mono {x y:Nat} (h:x≤y):dg x≤dg y:=limbs_mono h
end Go.Proofs.YtmagoiniahpofaaGreat.Dec
namespace Go.Proofs.YtmagoiniahpofaaGreat
open Go Go.RowKit
abbrev rowD (l:List Nat):Cell:= .row 1 l.length (decE l)
structure DI where
 i:Nat
 j:Nat
 c:Nat
 v:Nat
 o:List Nat
def mof_inv (n:Nat):LInv:=⟨DI,fun p=>p.o++Dec.limbs p.i=Dec.limbs n∧p.i≤n,fun p=>⟨[(0,.s false [.v (.int .u64 (p.i:Nat))]),(2,.s false [.own 2 0]),(3,.s false [.hd 900])],[(2,.st 53 [.v (.slice none 0 0)]),(900,.row 3 1 p.o.length (decE p.o))]⟩,fun p=>p.i,[.nil 3 900 3 1],[.ren 11 900],none⟩
def twoB (x y:Nat):List (Nat × ABlk):=[(2,.st 53 [rowD (Dec.limbs x)]),(3,.st 53 [rowD (Dec.limbs y)])]
def madd_inv (x y:Nat):LInv:=⟨DI,fun p=>AddD x y p.i p.o p.c,fun p=>⟨[(2,.s false [.own 2 0]),(3,.s false [.own 3 0]),(4,.s false [.own 4 0]),(5,.s false [.hd 900]),(6,.s false [.v (.int .i64 (p.c:Nat))]),(7,.s false [.v (.int .i64 (p.i:Nat))])],twoB x y++[(4,.st 53 [.v (.slice none 0 0)]),(900,.row 3 1 p.o.length (decE p.o))]⟩,fun p=>(Dec.limbs x).length+(Dec.limbs y).length+2-p.i,[.nil 5 900 3 1],[.ren 54 900],none⟩
theorem AVle.ik {k:IntKind} {x y:Int} (h:x=y):AVle (.s false [.v (.int k x)]) (.s false [.v (.int k y)]):=by subst h;exact AVle.refl _
theorem CLe.m_row (x:Nat):CLe (.m x) (rowD (Dec.limbs x)):=by
 refine⟨fun G F w v hv=> ?_⟩
 have hv':COk F w (.m x) v:=hv
 cases hv' with
 |m h=>exact GOk.of h
theorem row_le' {F:Nat→Prop} {w:World} {sz n:Nat} {e e':Nat→List Cell} {v:Value} (h:COk F w (.row sz n e) v) (k:∀ i,i<n→CsLe (e i) (e' i)) (hcl:∀ i,i<n→(e' i).all Cell.cl=true):COk F w (.row sz n e') v:=by
 cases h with
 |row0=>exact .row0
 |row vals hF hn hl hc ho=>
  refine .row vals hF hn (fun i hi=>by rw[← (k i hi).len];exact hl i hi) hc fun i j c hi hj=> ?_
  have hjl:j<(e i).length:=by rw[(k i hi).len];exact (List.getElem?_eq_some_iff.1 hj).1
  have h1:=List.getElem?_eq_getElem hjl
  have h2:=((k i hi).h j _ c h1 hj).h (fun _=>⟨undef,fun _=>False⟩) F w _ (GOk.of (ho i j _ hi h1))
  exact COk.of h2 (List.all_eq_true.1 (hcl i hi) c (List.mem_of_getElem? hj))
theorem CLe.row_m {n x:Nat} {e:Nat→List Cell} (h:n=(Dec.limbs x).length) (k:∀ i,i<n→CsLe (e i) (decE (Dec.limbs x) i)):CLe (.row 1 n e) (.m x):=by
 refine⟨fun G F w v hv=> ?_⟩
 have hv':COk F w (.row 1 n e) v:=hv
 have h2:=row_le' hv' k fun _ _=>rfl
 rw[h] at h2
 exact GOk.of (.m h2)
theorem CLe.nil_m:CLe (.v (.slice none 0 0)) (.m 0):=by
 refine⟨fun G F w v hv=> ?_⟩
 obtain⟨rfl,_⟩:=v_inv hv
 refine GOk.of (.m ?_)
 rw[Dec.limbs_zero]
 exact .row0
theorem dec_le {l:List Nat} {i:Nat} {x:Int} (h:x=((l.getD i 0:Nat):Int)):CsLe [.v (.int .i64 x)] (decE l i):=by
 subst h
 exact CsLe.refl _
theorem dec_snoc {T:TypeId} {l:List Nat} {z:Int} {x:Nat} (h:z=(x:Int)):ABle (.row T 1 (l.length+1) fun j=>if j<l.length then [.v (.int .i64 ((l.getD j 0:Nat):Int))] else [[Cell.v (.int .i64 z)]].getD (j-l.length) []) (.row T 1 (l++[x]).length (decE (l++[x]))):=by
 subst h
 refine ABle.row (by simp) (fun j hj=> ?_) (fun _ _=>rfl)
 by_cases hjl:j<l.length
 ·rw[if_pos hjl]
  refine dec_le ?_
  simp[List.getD,List.getElem?_append_left hjl]
 ·have:j=l.length:=by omega
  subst this
  rw[if_neg hjl,Nat.sub_self]
  exact dec_le (by simp[List.getD])
theorem dec_nil {T:TypeId} : ABle (.row T 1 0 fun _=>[]) (.row T 1 ([]:List Nat).length (decE [])):=ABle.row rfl (fun _j hj=>absurd hj (Nat.not_lt_zero _)) (fun _ _=>rfl)
theorem wrapN {x:Nat} (h:x<9223372036854775808):IntKind.i64.wrap (x:Int)=(x:Int):=by rw[IntKind.wrap_i64];omega
theorem tmodN (a b:Nat):Int.tmod (a:Int) (b:Int)=((a%b:Nat):Int):=(Int.ofNat_tmod a b).symm
theorem tdivN (a b:Nat):Int.tdiv (a:Int) (b:Int)=((a/b:Nat):Int):=(Int.ofNat_tdiv a b).symm
theorem mof_vc (n:Nat):vc Tryz.prog (lk []) Tryz.f58.ntmps [(2,mof_inv n)] (Tryz.f58.body.getD .skip) ⟨entryS [.s false [.v (.int .u64 (n:Nat))]] 0,[]⟩ (retVC Tryz.prog Tryz.f58.results.toList (.s true [.m n]))=((Exists fun (i:DI)=>(DI.o i++Dec.limbs (DI.i i)=Dec.limbs n∧DI.i i≤n)∧(AVle (AV.s false [Cell.v (Value.int IntKind.u64 (↑n:Int))]) (AV.s false [Cell.v (Value.int IntKind.u64 (↑(DI.i i):Int))])∧SmA (AV.s false [Cell.own 2 0])∧SmA (AV.s false [Cell.hd 900])∧True)∧SmB (ABlk.st 53 [Cell.v (Value.slice none 0 0)])∧ABle (ABlk.row 3 1 0 fun (_x:Nat)=>[]) (ABlk.row 3 1 (List.length (DI.o i)) (decE (DI.o i)))∧True)∧∀ (i:DI),DI.o i++Dec.limbs (DI.i i)=Dec.limbs n∧DI.i i≤n→(decide ((↑(DI.i i):Int)>(0:Int))=true→(10000:Int)≠(0:Int)∧(0≤1∧(List.length (DI.o i)+1)*8≤140737488355328)∧(10000:Int)≠(0:Int)∧Exists fun (i':DI)=>(DI.o i'++Dec.limbs (DI.i i')=Dec.limbs n∧DI.i i'≤n)∧DI.i i'<DI.i i∧(AVle (AV.s false [Cell.v (Value.int IntKind.u64 (IntKind.wrap IntKind.u64 (Int.tdiv (↑(DI.i i):Int) (10000:Int))))]) (AV.s false [Cell.v (Value.int IntKind.u64 (↑(DI.i i'):Int))])∧SmA (AV.s false [Cell.own 2 0])∧SmA (AV.s false [Cell.hd 900])∧True)∧SmB (ABlk.st 53 [Cell.v (Value.slice none 0 0)])∧ABle (ABlk.row 3 1 (List.length (DI.o i)+1) fun (j:Nat)=>if j<List.length (DI.o i) then [Cell.v (Value.int IntKind.i64 (↑(List.getD (DI.o i) j 0):Int))] else List.getD [[Cell.v (Value.int IntKind.i64 (IntKind.wrap IntKind.i64 (Int.tmod (↑(DI.i i):Int) (10000:Int))))]] (j-List.length (DI.o i)) []) (ABlk.row 3 1 (List.length (DI.o i')) (decE (DI.o i')))∧True)∧(decide ((↑(DI.i i):Int)>(0:Int))=false→AVle (AV.s true [Cell.row 1 (List.length (DI.o i)) (decE (DI.o i))]) (AV.s true [Cell.m n]))):=by kernel_rfl
set_option maxRecDepth 100000 in
theorem mof_true (n:Nat) (hn:n<18446744073709551616):vc Tryz.prog (lk []) Tryz.f58.ntmps [(2,mof_inv n)] (Tryz.f58.body.getD .skip) ⟨entryS [.s false [.v (.int .u64 (n:Nat))]] 0,[]⟩ (retVC Tryz.prog Tryz.f58.results.toList (.s true [.m n])):=by
 rw[mof_vc]
 simp only[SmA,SmB,av_refl,ab_refl,true_and,and_true,decide_eq_true_eq,decide_eq_false_iff_not]
 have h5:(Dec.limbs n).length≤5:=Dec.limbs_le n 5 (by rw[show (10000:Nat) ^ 5=100000000000000000000 by decide];omega)
 refine⟨⟨⟨n,0,0,0,[]⟩,⟨rfl,Nat.le_refl _⟩,AVle.refl _,dec_nil⟩,fun ⟨y,_,_,_,o⟩ ⟨h1,h2⟩=> ?_⟩
 dsimp only at h1 h2 ⊢
 have hol:o.length≤5:=by
  have:=congrArg List.length h1
  simp only[List.length_append] at this
  omega
 refine⟨fun hy=>⟨by decide,⟨by omega,by omega⟩,by decide,⟨y/10000,0,0,0,o++[y%10000]⟩,⟨?_,?_⟩,?_,AVle.ik ?_,dec_snoc ?_⟩,fun hy=> ?_⟩
 ·rw[← h1,Dec.limbs_pos (n:=y) (by omega),List.append_assoc]
  rfl
 ·show y/10000≤n
  omega
 ·show y/10000<y
  omega
 ·have:Int.tdiv (y:Int) 10000=((y/10000:Nat):Int):=tdivN y 10000
  show IntKind.u64.wrap (Int.tdiv (y:Int) 10000)=((y/10000:Nat):Int)
  rw[this,IntKind.wrap_u64]
  omega
 ·have:Int.tmod (y:Int) 10000=((y%10000:Nat):Int):=tmodN y 10000
  rw[this,IntKind.wrap_i64]
  omega
 ·have h0:y=0:=by omega
  subst h0
  rw[Dec.limbs_zero,List.append_nil] at h1
  subst h1
  exact AVle.s (CsLe.cons (CLe.row_m rfl fun i _=>CsLe.refl _) CsLe.nil)
theorem madd_vc (x y:Nat):vc Tryz.prog (lk []) Tryz.f57.ntmps [(4,madd_inv x y)] (Tryz.f57.body.getD .skip) ⟨entryS [.s true [rowD (Dec.limbs x)],.s true [rowD (Dec.limbs y)]] 0,[]⟩ (retVC Tryz.prog Tryz.f57.results.toList (.s true [.m (x+y)]))=(let k3:=fun (zz:DI)=>(↑(DI.i zz):Int);let k4:=ABlk.st 53 [Cell.v (Value.slice none 0 0)];let k7:=fun (zz:DI)=>(ABlk.row 3 1 (List.length (DI.o zz)) (decE (DI.o zz)));let k8:=fun (zz:DI)=>(AV.s false [Cell.v (Value.int IntKind.i64 (k3 zz))]);let k10:=(10000:Int);let k11:=fun (zz:DI)=>(List.length (DI.o zz)+1);let k13:=AV.s false [Cell.own 2 0];let k14:=AV.s false [Cell.own 3 0];let k15:=AV.s false [Cell.own 4 0];let k16:=AV.s false [Cell.hd 900];let k18:=Dec.limbs y;let k19:=(0:Int);let k20:=fun (zz:DI)=>(↑(DI.c zz):Int);let k21:=fun (zz:Nat)=>(Dec.limbs zz);let k22:=fun (zz:DI)=>(AV.s false [Cell.v (Value.int IntKind.i64 (IntKind.wrap IntKind.i64 (Int.tdiv (k20 zz) k10)))]);let k24:=fun (zz:DI)=>(Int.toNat (k3 zz));let k26:=fun (zz:DI)=>(Value.int IntKind.i64 (Int.tmod (k20 zz) k10));let k27:=AV.s false [Cell.v (Value.int IntKind.i64 k19)];let k0:=ABlk.st 53 [Cell.row 1 (List.length k18) (decE k18)];let k1:=fun (zz:DI)=>(AV.s false [Cell.v (Value.int IntKind.i64 (IntKind.wrap IntKind.i64 ((k3 zz)+(1:Int))))]);let k2:=fun (zz:Nat)=>(ABlk.st 53 [Cell.row 1 (List.length (k21 zz)) (decE (k21 zz))]);let k5:=(↑(List.length k18):Int);let k6:=fun (zz:DI)=>(AV.s false [Cell.v (Value.int IntKind.i64 (k20 zz))]);let k9:=fun (zz:DI)=>(↑(List.getD k18 (k24 zz) 0):Int);let k12:=fun (zz:Nat)=>(↑(List.length (k21 zz)):Int);let k17:=fun (zz:DI)=>(AV.s false [Cell.v (Value.int IntKind.i64 (IntKind.wrap IntKind.i64 (Int.tdiv (IntKind.wrap IntKind.i64 ((k20 zz)+(k9 zz))) k10)))]);let k23:=fun (zz:DI)=>(Value.int IntKind.i64 (Int.tmod (IntKind.wrap IntKind.i64 ((k20 zz)+(k9 zz))) k10));let k25:=fun (zz:DI)=>((k3 zz)<k5);(Exists fun (i:DI)=>AddD x y (DI.i i) (DI.o i) (DI.c i)∧(SmA k13∧SmA k14∧SmA k15∧SmA k16∧AVle k27 (k6 i)∧AVle k27 (k8 i)∧True)∧SmB (k2 x)∧SmB k0∧SmB k4∧ABle (ABlk.row 3 1 0 fun (_x:Nat)=>[]) (k7 i)∧True)∧∀ (i:DI),AddD x y (DI.i i) (DI.o i) (DI.c i)→(decide ((k3 i)<(k12 x))=true→decide ((k3 i)<(k12 x))=true∧(decide ((k3 i)<(k12 x))=true→(k19≤(k3 i)∧(k3 i)<(k12 x))∧(decide (k25 i)=true→(k19≤(k3 i)∧(k3 i)<k5)∧k10≠k19∧(0≤1∧(k11 i)*8≤140737488355328)∧k10≠k19∧Exists fun (i':DI)=>AddD x y (DI.i i') (DI.o i') (DI.c i')∧List.length (k21 x)+List.length k18+2-DI.i i'<List.length (k21 x)+List.length k18+2-DI.i i∧(SmA k13∧SmA k14∧SmA k15∧SmA k16∧AVle (AV.s false [Cell.v (Value.int IntKind.i64 (IntKind.wrap IntKind.i64 (Int.tdiv (IntKind.wrap IntKind.i64 (IntKind.wrap IntKind.i64 ((k20 i)+(↑(List.getD (k21 x) (k24 i) 0):Int))+(k9 i))) k10)))]) (k6 i')∧AVle (k1 i) (k8 i')∧True)∧SmB (k2 x)∧SmB k0∧SmB k4∧ABle (ABlk.row 3 1 (k11 i) fun (j:Nat)=>if j<List.length (DI.o i) then [Cell.v (Value.int IntKind.i64 (↑(List.getD (DI.o i) j 0):Int))] else List.getD [[Cell.v (Value.int IntKind.i64 (Int.tmod (IntKind.wrap IntKind.i64 (IntKind.wrap IntKind.i64 ((k20 i)+(↑(List.getD (k21 x) (k24 i) 0):Int))+(k9 i))) k10))]] (j-List.length (DI.o i)) []) (k7 i')∧True)∧(decide (k25 i)=false→k10≠k19∧(0≤1∧(k11 i)*8≤140737488355328)∧k10≠k19∧Exists fun (i':DI)=>AddD x y (DI.i i') (DI.o i') (DI.c i')∧List.length (k21 x)+List.length k18+2-DI.i i'<List.length (k21 x)+List.length k18+2-DI.i i∧(SmA k13∧SmA k14∧SmA k15∧SmA k16∧AVle (AV.s false [Cell.v (Value.int IntKind.i64 (IntKind.wrap IntKind.i64 (Int.tdiv (IntKind.wrap IntKind.i64 ((k20 i)+(↑(List.getD (k21 x) (k24 i) 0):Int))) k10)))]) (k6 i')∧AVle (k1 i) (k8 i')∧True)∧SmB (k2 x)∧SmB k0∧SmB k4∧ABle (ABlk.row 3 1 (k11 i) fun (j:Nat)=>if j<List.length (DI.o i) then [Cell.v (Value.int IntKind.i64 (↑(List.getD (DI.o i) j 0):Int))] else List.getD [[Cell.v (Value.int IntKind.i64 (Int.tmod (IntKind.wrap IntKind.i64 ((k20 i)+(↑(List.getD (k21 x) (k24 i) 0):Int))) k10))]] (j-List.length (DI.o i)) []) (k7 i')∧True))∧(decide ((k3 i)<(k12 x))=false→(decide (k25 i)=true→(k19≤(k3 i)∧(k3 i)<k5)∧k10≠k19∧(0≤1∧(k11 i)*8≤140737488355328)∧k10≠k19∧Exists fun (i':DI)=>AddD x y (DI.i i') (DI.o i') (DI.c i')∧List.length (k21 x)+List.length k18+2-DI.i i'<List.length (k21 x)+List.length k18+2-DI.i i∧(SmA k13∧SmA k14∧SmA k15∧SmA k16∧AVle (k17 i) (k6 i')∧AVle (k1 i) (k8 i')∧True)∧SmB (k2 x)∧SmB k0∧SmB k4∧ABle (ABlk.row 3 1 (k11 i) fun (j:Nat)=>if j<List.length (DI.o i) then [Cell.v (Value.int IntKind.i64 (↑(List.getD (DI.o i) j 0):Int))] else List.getD [[Cell.v (k23 i)]] (j-List.length (DI.o i)) []) (k7 i')∧True)∧(decide (k25 i)=false→k10≠k19∧(0≤1∧(k11 i)*8≤140737488355328)∧k10≠k19∧Exists fun (i':DI)=>AddD x y (DI.i i') (DI.o i') (DI.c i')∧List.length (k21 x)+List.length k18+2-DI.i i'<List.length (k21 x)+List.length k18+2-DI.i i∧(SmA k13∧SmA k14∧SmA k15∧SmA k16∧AVle (k22 i) (k6 i')∧AVle (k1 i) (k8 i')∧True)∧SmB (k2 x)∧SmB k0∧SmB k4∧ABle (ABlk.row 3 1 (k11 i) fun (j:Nat)=>if j<List.length (DI.o i) then [Cell.v (Value.int IntKind.i64 (↑(List.getD (DI.o i) j 0):Int))] else List.getD [[Cell.v (k26 i)]] (j-List.length (DI.o i)) []) (k7 i')∧True)))∧(decide ((k3 i)<(k12 x))=false→(decide (k25 i)=true→decide ((k3 i)<(k12 x))=false∧decide (k25 i)=true∧(decide ((k3 i)<(k12 x))=true→(k19≤(k3 i)∧(k3 i)<(k12 x))∧(decide (k25 i)=true→(k19≤(k3 i)∧(k3 i)<k5)∧k10≠k19∧(0≤1∧(k11 i)*8≤140737488355328)∧k10≠k19∧Exists fun (i':DI)=>AddD x y (DI.i i') (DI.o i') (DI.c i')∧List.length (k21 x)+List.length k18+2-DI.i i'<List.length (k21 x)+List.length k18+2-DI.i i∧(SmA k13∧SmA k14∧SmA k15∧SmA k16∧AVle (AV.s false [Cell.v (Value.int IntKind.i64 (IntKind.wrap IntKind.i64 (Int.tdiv (IntKind.wrap IntKind.i64 (IntKind.wrap IntKind.i64 ((k20 i)+(↑(List.getD (k21 x) (k24 i) 0):Int))+(k9 i))) k10)))]) (k6 i')∧AVle (k1 i) (k8 i')∧True)∧SmB (k2 x)∧SmB k0∧SmB k4∧ABle (ABlk.row 3 1 (k11 i) fun (j:Nat)=>if j<List.length (DI.o i) then [Cell.v (Value.int IntKind.i64 (↑(List.getD (DI.o i) j 0):Int))] else List.getD [[Cell.v (Value.int IntKind.i64 (Int.tmod (IntKind.wrap IntKind.i64 (IntKind.wrap IntKind.i64 ((k20 i)+(↑(List.getD (k21 x) (k24 i) 0):Int))+(k9 i))) k10))]] (j-List.length (DI.o i)) []) (k7 i')∧True)∧(decide (k25 i)=false→k10≠k19∧(0≤1∧(k11 i)*8≤140737488355328)∧k10≠k19∧Exists fun (i':DI)=>AddD x y (DI.i i') (DI.o i') (DI.c i')∧List.length (k21 x)+List.length k18+2-DI.i i'<List.length (k21 x)+List.length k18+2-DI.i i∧(SmA k13∧SmA k14∧SmA k15∧SmA k16∧AVle (AV.s false [Cell.v (Value.int IntKind.i64 (IntKind.wrap IntKind.i64 (Int.tdiv (IntKind.wrap IntKind.i64 ((k20 i)+(↑(List.getD (k21 x) (k24 i) 0):Int))) k10)))]) (k6 i')∧AVle (k1 i) (k8 i')∧True)∧SmB (k2 x)∧SmB k0∧SmB k4∧ABle (ABlk.row 3 1 (k11 i) fun (j:Nat)=>if j<List.length (DI.o i) then [Cell.v (Value.int IntKind.i64 (↑(List.getD (DI.o i) j 0):Int))] else List.getD [[Cell.v (Value.int IntKind.i64 (Int.tmod (IntKind.wrap IntKind.i64 ((k20 i)+(↑(List.getD (k21 x) (k24 i) 0):Int))) k10))]] (j-List.length (DI.o i)) []) (k7 i')∧True))∧(decide ((k3 i)<(k12 x))=false→(decide (k25 i)=true→(k19≤(k3 i)∧(k3 i)<k5)∧k10≠k19∧(0≤1∧(k11 i)*8≤140737488355328)∧k10≠k19∧Exists fun (i':DI)=>AddD x y (DI.i i') (DI.o i') (DI.c i')∧List.length (k21 x)+List.length k18+2-DI.i i'<List.length (k21 x)+List.length k18+2-DI.i i∧(SmA k13∧SmA k14∧SmA k15∧SmA k16∧AVle (k17 i) (k6 i')∧AVle (k1 i) (k8 i')∧True)∧SmB (k2 x)∧SmB k0∧SmB k4∧ABle (ABlk.row 3 1 (k11 i) fun (j:Nat)=>if j<List.length (DI.o i) then [Cell.v (Value.int IntKind.i64 (↑(List.getD (DI.o i) j 0):Int))] else List.getD [[Cell.v (k23 i)]] (j-List.length (DI.o i)) []) (k7 i')∧True)∧(decide (k25 i)=false→k10≠k19∧(0≤1∧(k11 i)*8≤140737488355328)∧k10≠k19∧Exists fun (i':DI)=>AddD x y (DI.i i') (DI.o i') (DI.c i')∧List.length (k21 x)+List.length k18+2-DI.i i'<List.length (k21 x)+List.length k18+2-DI.i i∧(SmA k13∧SmA k14∧SmA k15∧SmA k16∧AVle (k22 i) (k6 i')∧AVle (k1 i) (k8 i')∧True)∧SmB (k2 x)∧SmB k0∧SmB k4∧ABle (ABlk.row 3 1 (k11 i) fun (j:Nat)=>if j<List.length (DI.o i) then [Cell.v (Value.int IntKind.i64 (↑(List.getD (DI.o i) j 0):Int))] else List.getD [[Cell.v (k26 i)]] (j-List.length (DI.o i)) []) (k7 i')∧True)))∧(decide (k25 i)=false→decide ((k3 i)<(k12 x))=false∧decide (k25 i)=false∧(decide ((k20 i)>k19)=true→(decide ((k3 i)<(k12 x))=true→(k19≤(k3 i)∧(k3 i)<(k12 x))∧(decide (k25 i)=true→(k19≤(k3 i)∧(k3 i)<k5)∧k10≠k19∧(0≤1∧(k11 i)*8≤140737488355328)∧k10≠k19∧Exists fun (i':DI)=>AddD x y (DI.i i') (DI.o i') (DI.c i')∧List.length (k21 x)+List.length k18+2-DI.i i'<List.length (k21 x)+List.length k18+2-DI.i i∧(SmA k13∧SmA k14∧SmA k15∧SmA k16∧AVle (AV.s false [Cell.v (Value.int IntKind.i64 (IntKind.wrap IntKind.i64 (Int.tdiv (IntKind.wrap IntKind.i64 (IntKind.wrap IntKind.i64 ((k20 i)+(↑(List.getD (k21 x) (k24 i) 0):Int))+(k9 i))) k10)))]) (k6 i')∧AVle (k1 i) (k8 i')∧True)∧SmB (k2 x)∧SmB k0∧SmB k4∧ABle (ABlk.row 3 1 (k11 i) fun (j:Nat)=>if j<List.length (DI.o i) then [Cell.v (Value.int IntKind.i64 (↑(List.getD (DI.o i) j 0):Int))] else List.getD [[Cell.v (Value.int IntKind.i64 (Int.tmod (IntKind.wrap IntKind.i64 (IntKind.wrap IntKind.i64 ((k20 i)+(↑(List.getD (k21 x) (k24 i) 0):Int))+(k9 i))) k10))]] (j-List.length (DI.o i)) []) (k7 i')∧True)∧(decide (k25 i)=false→k10≠k19∧(0≤1∧(k11 i)*8≤140737488355328)∧k10≠k19∧Exists fun (i':DI)=>AddD x y (DI.i i') (DI.o i') (DI.c i')∧List.length (k21 x)+List.length k18+2-DI.i i'<List.length (k21 x)+List.length k18+2-DI.i i∧(SmA k13∧SmA k14∧SmA k15∧SmA k16∧AVle (AV.s false [Cell.v (Value.int IntKind.i64 (IntKind.wrap IntKind.i64 (Int.tdiv (IntKind.wrap IntKind.i64 ((k20 i)+(↑(List.getD (k21 x) (k24 i) 0):Int))) k10)))]) (k6 i')∧AVle (k1 i) (k8 i')∧True)∧SmB (k2 x)∧SmB k0∧SmB k4∧ABle (ABlk.row 3 1 (k11 i) fun (j:Nat)=>if j<List.length (DI.o i) then [Cell.v (Value.int IntKind.i64 (↑(List.getD (DI.o i) j 0):Int))] else List.getD [[Cell.v (Value.int IntKind.i64 (Int.tmod (IntKind.wrap IntKind.i64 ((k20 i)+(↑(List.getD (k21 x) (k24 i) 0):Int))) k10))]] (j-List.length (DI.o i)) []) (k7 i')∧True))∧(decide ((k3 i)<(k12 x))=false→(decide (k25 i)=true→(k19≤(k3 i)∧(k3 i)<k5)∧k10≠k19∧(0≤1∧(k11 i)*8≤140737488355328)∧k10≠k19∧Exists fun (i':DI)=>AddD x y (DI.i i') (DI.o i') (DI.c i')∧List.length (k21 x)+List.length k18+2-DI.i i'<List.length (k21 x)+List.length k18+2-DI.i i∧(SmA k13∧SmA k14∧SmA k15∧SmA k16∧AVle (k17 i) (k6 i')∧AVle (k1 i) (k8 i')∧True)∧SmB (k2 x)∧SmB k0∧SmB k4∧ABle (ABlk.row 3 1 (k11 i) fun (j:Nat)=>if j<List.length (DI.o i) then [Cell.v (Value.int IntKind.i64 (↑(List.getD (DI.o i) j 0):Int))] else List.getD [[Cell.v (k23 i)]] (j-List.length (DI.o i)) []) (k7 i')∧True)∧(decide (k25 i)=false→k10≠k19∧(0≤1∧(k11 i)*8≤140737488355328)∧k10≠k19∧Exists fun (i':DI)=>AddD x y (DI.i i') (DI.o i') (DI.c i')∧List.length (k21 x)+List.length k18+2-DI.i i'<List.length (k21 x)+List.length k18+2-DI.i i∧(SmA k13∧SmA k14∧SmA k15∧SmA k16∧AVle (k22 i) (k6 i')∧AVle (k1 i) (k8 i')∧True)∧SmB (k2 x)∧SmB k0∧SmB k4∧ABle (ABlk.row 3 1 (k11 i) fun (j:Nat)=>if j<List.length (DI.o i) then [Cell.v (Value.int IntKind.i64 (↑(List.getD (DI.o i) j 0):Int))] else List.getD [[Cell.v (k26 i)]] (j-List.length (DI.o i)) []) (k7 i')∧True)))∧(decide ((k20 i)>k19)=false→AVle (AV.s true [Cell.row 1 (List.length (DI.o i)) (decE (DI.o i))]) (AV.s true [Cell.m (x+y)]))))):=by kernel_rfl
set_option maxRecDepth 100000 in
theorem madd_true (x y:Nat) (hx:Dec.dg x≤1000000) (hy:Dec.dg y≤1000000):vc Tryz.prog (lk []) Tryz.f57.ntmps [(4,madd_inv x y)] (Tryz.f57.body.getD .skip) ⟨entryS [.s true [rowD (Dec.limbs x)],.s true [rowD (Dec.limbs y)]] 0,[]⟩ (retVC Tryz.prog Tryz.f57.results.toList (.s true [.m (x+y)])):=by
 rw[madd_vc]
 simp only[SmA,SmB,av_refl,ab_refl,true_and,and_true,decide_eq_true_eq,decide_eq_false_iff_not,Int.toNat_natCast]
 unfold Dec.dg at hx hy
 have ten:(10000:Int)=((10000:Nat):Int):=rfl
 refine⟨⟨⟨0,0,0,0,[]⟩,⟨rfl,(fun _ h=>by cases h),by decide,by simp[Dec.valL],.inl rfl⟩,⟨AVle.ik rfl,AVle.ik rfl⟩,dec_nil⟩,fun ⟨i,_,c,_,o⟩ hA=> ?_⟩
 dsimp only at hA ⊢
 have hol:=hA.len
 have hil:=addD_len hA
 have hcb:=hA.cb
 have z0:(0:Int)≤(i:Int):=by omega
 have hp:=Dec.getD_lt (Dec.limbs_limb x) i
 have hq:=Dec.getD_lt (Dec.limbs_limb y) i
 generalize hpe:(Dec.limbs x).getD i 0=p at hp ⊢
 generalize hqe:(Dec.limbs y).getD i 0=q at hq ⊢
 have w1:IntKind.i64.wrap ((c:Int)+(p:Int))=((c+p:Nat):Int):=by rw[IntKind.wrap_i64];omega
 have w2:IntKind.i64.wrap (((c+p:Nat):Int)+(q:Int))=((c+p+q:Nat):Int):=by rw[IntKind.wrap_i64];omega
 have w3:IntKind.i64.wrap ((c:Int)+(q:Int))=((c+q:Nat):Int):=by rw[IntKind.wrap_i64];omega
 by_cases h1:i<(Dec.limbs x).length
 ·have e1:((i:Int)<((Dec.limbs x).length:Int))=True:=eq_true (by omega)
  have hgx:=Dec.getD_of h1
  rw[hpe] at hgx
  by_cases h2:i<(Dec.limbs y).length
  ·have e2:((i:Int)<((Dec.limbs y).length:Int))=True:=eq_true (by omega)
   have hgy:=Dec.getD_of h2
   rw[hqe] at hgy
   simp only[e1,e2,z0,forall_const,false_implies,not_true_eq_false,and_true,true_and,and_self,false_and]
   refine⟨by decide,⟨by omega,by omega⟩,by decide,⟨i+1,0,(c+p+q)/10000,0,o++[(c+p+q)%10000]⟩,addD_both hA hgx hgy hp hq,?_,⟨AVle.ik ?_,AVle.ik ?_⟩,dec_snoc ?_⟩
   ·show (Dec.limbs x).length+(Dec.limbs y).length+2-(i+1)<(Dec.limbs x).length+(Dec.limbs y).length+2-i
    omega
   ·show _=(((c+p+q)/10000:Nat):Int)
    rw[w1,w2,ten,tdivN,wrapN (by omega)]
   ·show _=((i+1:Nat):Int)
    rw[IntKind.wrap_i64]
    omega
   ·rw[w1,w2,ten,tmodN]
  ·have e2:((i:Int)<((Dec.limbs y).length:Int))=False:=eq_false (by omega)
   simp only[e1,e2,z0,forall_const,false_implies,not_true_eq_false,not_false_eq_true,and_true,true_and,and_self,false_and,and_false]
   refine⟨by decide,⟨by omega,by omega⟩,by decide,⟨i+1,0,(c+p)/10000,0,o++[(c+p)%10000]⟩,addD_left hA hgx h2 hp,?_,⟨AVle.ik ?_,AVle.ik ?_⟩,dec_snoc ?_⟩
   ·show (Dec.limbs x).length+(Dec.limbs y).length+2-(i+1)<(Dec.limbs x).length+(Dec.limbs y).length+2-i
    omega
   ·show _=(((c+p)/10000:Nat):Int)
    rw[w1,ten,tdivN,wrapN (by omega)]
   ·show _=((i+1:Nat):Int)
    rw[IntKind.wrap_i64]
    omega
   ·rw[w1,ten,tmodN]
 ·have e1:((i:Int)<((Dec.limbs x).length:Int))=False:=eq_false (by omega)
  by_cases h2:i<(Dec.limbs y).length
  ·have e2:((i:Int)<((Dec.limbs y).length:Int))=True:=eq_true (by omega)
   have hgy:=Dec.getD_of h2
   rw[hqe] at hgy
   simp only[e1,e2,z0,forall_const,false_implies,not_true_eq_false,not_false_eq_true,and_true,true_and,and_self,false_and,and_false]
   refine⟨by decide,⟨by omega,by omega⟩,by decide,⟨i+1,0,(c+q)/10000,0,o++[(c+q)%10000]⟩,addD_right hA h1 hgy hq,?_,⟨AVle.ik ?_,AVle.ik ?_⟩,dec_snoc ?_⟩
   ·show (Dec.limbs x).length+(Dec.limbs y).length+2-(i+1)<(Dec.limbs x).length+(Dec.limbs y).length+2-i
    omega
   ·show _=(((c+q)/10000:Nat):Int)
    rw[w3,ten,tdivN,wrapN (by omega)]
   ·show _=((i+1:Nat):Int)
    rw[IntKind.wrap_i64]
    omega
   ·rw[w3,ten,tmodN]
  ·have e2:((i:Int)<((Dec.limbs y).length:Int))=False:=eq_false (by omega)
   by_cases h3:0<c
   ·have e3:((c:Int)>0)=True:=eq_true (by omega)
    simp only[e1,e2,e3,forall_const,false_implies,not_true_eq_false,not_false_eq_true,and_true,true_and,false_and,and_false]
    refine⟨by decide,⟨by omega,by omega⟩,by decide,⟨i+1,0,(c)/10000,0,o++[(c)%10000]⟩,addD_none hA h1 h2 h3,?_,⟨AVle.ik ?_,AVle.ik ?_⟩,dec_snoc ?_⟩
    ·show (Dec.limbs x).length+(Dec.limbs y).length+2-(i+1)<(Dec.limbs x).length+(Dec.limbs y).length+2-i
     omega
    ·show _=(((c)/10000:Nat):Int)
     rw[ten,tdivN,wrapN (by omega)]
    ·show _=((i+1:Nat):Int)
     rw[IntKind.wrap_i64]
     omega
    ·rw[ten,tmodN]
   ·have e3:((c:Int)>0)=False:=eq_false (by omega)
    simp only[e1,e2,e3,forall_const,false_implies,not_false_eq_true,true_and,false_and,and_false]
    have e:=addD_end hA h1 h2 h3
    exact AVle.s (CsLe.cons (CLe.row_m (by rw[e]) fun j _=>dec_le (by rw[e])) CsLe.nil)
def mofS:Spec
 |[.o (.s false [.v (.int .u64 n)])]=>some (.s true [.m n.toNat],[0≤n∧n<18446744073709551616])
 |_=>none
def maddS:Spec
 |[.o (.s true [.m x]),.o (.s true [.m y])]=>some (.s true [.m (x+y)],[Dec.dg x≤1000000,Dec.dg y≤1000000])
 |_=>none
set_option maxRecDepth 100000 in
theorem mof_ok (D:Prop) (B:Nat):RunOK Tryz.prog D B 58 (runC mofS):=by
 refine fn_specR (c:=Tryz.f58.body.getD .skip) (Γ :=lk []) (fun _ _ _ h=>by cases h) (by kernel_rfl) Tryz.func58 (by kernel_rfl) (by kernel_rfl) ?_ B
 intro pvs av ps h hp
 unfold mofS at h
 split at h
 ·rename_i n
  cases h
  obtain⟨⟨h1,h2⟩,_⟩:=hp
  exact⟨[.s false [.v (.int .u64 ((n.toNat:Nat):Int))]],[(2,mof_inv n.toNat)],AvsLe.cons (AVle.ik (by omega)) AvsLe.nil,by rw[Tryz.ntmps58];simp,mof_true _ (by omega)⟩
 ·cases h
set_option maxRecDepth 100000 in
theorem madd_ok (D:Prop) (B:Nat):RunOK Tryz.prog D B 57 (runC maddS):=by
 refine fn_specR (c:=Tryz.f57.body.getD .skip) (Γ :=lk []) (fun _ _ _ h=>by cases h) (by kernel_rfl) Tryz.func57 (by kernel_rfl) (by kernel_rfl) ?_ B
 intro pvs av ps h hp
 unfold maddS at h
 split at h
 ·rename_i x y
  cases h
  obtain⟨h1,h2,_⟩:=hp
  exact⟨[.s true [rowD (Dec.limbs x)],.s true [rowD (Dec.limbs y)]],[(4,madd_inv x y)],AvsLe.cons (AVle.s (CsLe.cons (CLe.m_row x) CsLe.nil)) (AvsLe.cons (AVle.s (CsLe.cons (CLe.m_row y) CsLe.nil)) AvsLe.nil),by rw[Tryz.ntmps57];simp,madd_true x y h1 h2⟩
 ·cases h
end Go.Proofs.YtmagoiniahpofaaGreat
namespace Go.Proofs.YtmagoiniahpofaaGreat
open Go Go.RowKit
def jC (z:Int):List Cell:=[.v (.int .i64 z.sign),.m z.natAbs]
def jv (s:Int) (n:Nat):Int:=s*n
structure JV (s:Int) (n:Nat):Prop where
 h:(s=1∧0<n)∨(s= -1∧0<n)∨(s=0∧n=0)
theorem jv_sign {s:Int} {n:Nat} (h:JV s n):(jv s n).sign=s:=by
 unfold jv
 rcases h with ⟨⟨rfl,h⟩ | ⟨rfl,h⟩ | ⟨rfl,rfl⟩⟩
 ·rw[Int.one_mul,Int.sign_eq_one_of_pos (by omega)]
 ·rw[show (-1:Int)*(n:Int)= -(n:Int) by omega,Int.sign_eq_neg_one_of_neg (by omega)]
 ·simp
theorem jv_abs {s:Int} {n:Nat} (h:JV s n):(jv s n).natAbs=n:=by
 unfold jv
 rcases h with ⟨⟨rfl,h⟩ | ⟨rfl,h⟩ | ⟨rfl,rfl⟩⟩
 ·omega
 ·omega
 ·simp
theorem jv_cells {s:Int} {n:Nat} (h:JV s n):[Cell.v (.int .i64 s),.m n]=jC (jv s n):=by
 unfold jC
 rw[jv_sign h,jv_abs h]
def jmadeS:Spec
 |[.i s,.o (.s true [.m n])]=>some (.s true (jC (jv s n)),[s=1∨s= -1∨n=0])
 |_=>none
def gJof:List (Nat × Run):=[(56,runC jmadeS),(58,runC mofS),(57,runC maddS)]
theorem jmade_vc (s:Int) (n:Nat):vc Tryz.prog (lk []) Tryz.f56.ntmps [] (Tryz.f56.body.getD .skip) ⟨entryS [.s false [.v (.int .i64 s)],.s true [rowD (Dec.limbs n)]] 0,[]⟩ (retVC Tryz.prog Tryz.f56.results.toList (.s true (jC (jv s n))))=((((↑(List.length (Dec.limbs n)):Int) == (0:Int))=true→AVle (AV.s true [Cell.v (Value.int IntKind.i64 (0:Int)),Cell.v (Value.slice none 0 0)]) (AV.s true (jC (jv s n))))∧(((↑(List.length (Dec.limbs n)):Int) == (0:Int))=false→AVle (AV.s true [Cell.v (Value.int IntKind.i64 s),Cell.row 1 (List.length (Dec.limbs n)) fun (a:Nat)=>[Cell.v (Value.int IntKind.i64 (↑(List.getD (Dec.limbs n) a 0):Int))]]) (AV.s true (jC (jv s n))))):=by kernel_rfl
set_option maxRecDepth 100000 in
theorem jmade_ok (D:Prop) (B:Nat):RunOK Tryz.prog D B 56 (runC jmadeS):=by
 refine fn_specR (c:=Tryz.f56.body.getD .skip) (Γ :=lk []) (fun _ _ _ h=>by cases h) (by kernel_rfl) Tryz.func56 (by kernel_rfl) (by kernel_rfl) ?_ B
 intro pvs av ps h hp
 unfold jmadeS at h
 split at h
 ·rename_i s n
  cases h
  obtain⟨hs,_⟩:=hp
  refine⟨[.s false [.v (.int .i64 s)],.s true [rowD (Dec.limbs n)]],[],AvsLe.cons (AVle.refl _) (AvsLe.cons (AVle.s (CsLe.cons (CLe.m_row n) CsLe.nil)) AvsLe.nil),by rw[Tryz.ntmps56];simp,?_⟩
  rw[jmade_vc]
  have hn:n≠0→0<(Dec.limbs n).length:=fun h=>by rw[Dec.limbs_pos h];simp
  refine⟨fun h0=> ?_,fun h0=> ?_⟩
  ·have:n=0:=Classical.byContradiction fun h=>by
    have:=hn h
    rw[beq_iff_eq] at h0
    omega
   subst this
   have e:jv s 0=0:=by simp[jv]
   rw[e]
   exact AVle.s (CsLe.cons (CLe.v rfl) (CsLe.cons CLe.nil_m CsLe.nil))
  ·have h1:n≠0:=fun h=>by
    subst h
    rw[Dec.limbs_zero] at h0
    cases h0
   have hJ:JV s n:=⟨by omega⟩
   rw[← jv_cells hJ]
   exact AVle.s (CsLe.cons (CLe.refl _) (CsLe.cons (CLe.row_m rfl fun i _=>CsLe.refl _) CsLe.nil))
 ·cases h
theorem gJof_ok (D:Prop):∀ p∈gJof,∀ B,RunOK Tryz.prog D B p.1 p.2:=ctx_cons (jmade_ok D) (ctx_cons (mof_ok D) (ctx_cons (madd_ok D) fun p hp=>by cases hp))
theorem jof_vc (n:Int):vc Tryz.prog (lk gJof) Tryz.f35.ntmps [] (Tryz.f35.body.getD .skip) ⟨entryS [.s false [.v (.int .i64 n)]] 0,[]⟩ (retVC Tryz.prog Tryz.f35.results.toList (.s true (jC n)))=((decide (n<(0:Int))=true→((0:Int)≤IntKind.wrap IntKind.u64 (IntKind.wrap IntKind.i64 ((0:Int)-IntKind.wrap IntKind.i64 (n+(1:Int))))∧IntKind.wrap IntKind.u64 (IntKind.wrap IntKind.i64 ((0:Int)-IntKind.wrap IntKind.i64 (n+(1:Int))))<(18446744073709551616:Int))∧((0:Int)≤(1:Int)∧(1:Int)<(18446744073709551616:Int))∧Dec.dg (Int.toNat (IntKind.wrap IntKind.u64 (IntKind.wrap IntKind.i64 ((0:Int)-IntKind.wrap IntKind.i64 (n+(1:Int))))))≤1000000∧1≤1000000∧((-1:Int)=(1:Int)∨(-1:Int)=(-1:Int)∨Int.toNat (IntKind.wrap IntKind.u64 (IntKind.wrap IntKind.i64 ((0:Int)-IntKind.wrap IntKind.i64 (n+(1:Int)))))+Int.toNat (1:Int)=0)∧AVle (AV.s true (jC (jv (-1:Int) (Int.toNat (IntKind.wrap IntKind.u64 (IntKind.wrap IntKind.i64 ((0:Int)-IntKind.wrap IntKind.i64 (n+(1:Int)))))+Int.toNat (1:Int))))) (AV.s true (jC n)))∧(decide (n<(0:Int))=false→((0:Int)≤IntKind.wrap IntKind.u64 n∧IntKind.wrap IntKind.u64 n<(18446744073709551616:Int))∧((1:Int)=(1:Int)∨(1:Int)=(-1:Int)∨Int.toNat (IntKind.wrap IntKind.u64 n)=0)∧AVle (AV.s true (jC (jv (1:Int) (Int.toNat (IntKind.wrap IntKind.u64 n))))) (AV.s true (jC n)))):=by kernel_rfl
def jofS:Spec
 |[.i n]=>some (.s true (jC n),[I64s n])
 |_=>none
theorem dg_20 {m:Nat} (h:m<100000000000000000000):Dec.dg m≤5:=Dec.limbs_le m 5 (by rw[show (10000:Nat) ^ 5=100000000000000000000 by decide];exact h)
set_option maxRecDepth 100000 in
theorem jof_ok (D:Prop) (B:Nat):RunOK Tryz.prog D B 35 (runC jofS):=by
 refine fn_specR (c:=Tryz.f35.body.getD .skip) (ctx_ok (gJof_ok D)) (by kernel_rfl) Tryz.func35 (by kernel_rfl) (by kernel_rfl) ?_ B
 intro pvs av ps h hp
 unfold jofS at h
 split at h
 ·rename_i n
  cases h
  obtain⟨hn,_⟩:=hp
  refine⟨[.s false [.v (.int .i64 n)]],[],AvsLe.refl _,by rw[Tryz.ntmps35];simp,?_⟩
  rw[jof_vc]
  unfold I64s at hn
  have dg1:∀ z:Int,0≤z→z<18446744073709551616→Dec.dg z.toNat≤1000000:=fun z h1 h2=>Nat.le_trans (dg_20 (m:=z.toNat) (by omega)) (by decide)
  refine⟨fun h0=> ?_,fun h0=> ?_⟩
  ·have h0':n<0:=of_decide_eq_true h0
   have e:IntKind.wrap IntKind.u64 (IntKind.wrap IntKind.i64 (0-IntKind.wrap IntKind.i64 (n+1)))= -(n+1):=by
    rw[IntKind.wrap_i64,IntKind.wrap_i64,IntKind.wrap_u64];omega
   rw[e]
   refine⟨by omega,by omega,dg1 _ (by omega) (by omega),by decide,.inr (.inl rfl),?_⟩
   have e2:jv (-1) ((-(n+1)).toNat+(1:Int).toNat)=n:=by unfold jv;omega
   rw[e2]
   exact AVle.refl _
  ·have h0':¬ n<0:=of_decide_eq_false h0
   have e:IntKind.wrap IntKind.u64 n=n:=by rw[IntKind.wrap_u64];omega
   rw[e]
   refine⟨by omega,.inl rfl,?_⟩
   have e2:jv 1 n.toNat=n:=by unfold jv;omega
   rw[e2]
   exact AVle.refl _
 ·cases h
end Go.Proofs.YtmagoiniahpofaaGreat
