import Derived.Test.YtcmplpkmfbhpdaaGreatSyE
import Derived.Test.YtcmplpkmfbhpdaaGreatRnX
import Derived.Test.YtcmplpkmfbhpdaaGreatTxY
import Derived.Test.YtcmplpkmfbhpdaaGreatRpX
namespace Go.Proofs.YtcmplpkmfbhpdaaGreat
open Go Go.RowKit
def ap6 (avs:List AV):List Nat:=avs.flatMap AV.nm
def ap5 (ks:List Nat) (b:Nat->Option aae) (k:Nat):Option aae:=match has ks k with
 |true=>b k
 |false=>none
def as0 (b:Nat->Option aae):List Nat->List Nat
 |[]=>[]
 |k::l=>match b k with
  |some _=>k::as0 b l
  |none=>as0 b l
def atA (run:Run):Run:=λb avs t=>match run (λ_=>none) (avs.map (aip (ap5 (ap6 avs) b))) t with
 |some e=>match e.set,e.nws,e.del,e.val with
  |[],[],[],some av=>some { val:=some av,del:=as0 b (ap6 avs),ps:=e.ps }
  |_,_,_,_=>none
 |none=>none
theorem ahV {b:Nat->Option aae} {k:Nat} : ∀ {l:List Nat},k∈as0 b l↔k∈l/\b k≠none
 |[]=>by simp[as0]
 |a::l=>by
  simp only[as0];split
  ·rename_i x hx;rw[List.mem_cons,List.mem_cons,ahV (l:=l)];constructor
   ·rintro (rfl | ⟨h1,h2⟩)
    ·exact⟨.inl rfl,by rw[hx];simp⟩
    ·exact⟨.inr h1,h2⟩
   ·rintro⟨rfl | h1,h2⟩
    ·exact .inl rfl
    ·exact .inr ⟨h1,h2⟩
  ·rename_i hx;rw[List.mem_cons,ahV (l:=l)];constructor
   ·rintro⟨h1,h2⟩;exact⟨.inr h1,h2⟩
   ·rintro⟨rfl | h1,h2⟩
    ·exact absurd hx h2
    ·exact⟨h1,h2⟩
theorem amx {ks:List Nat} {b:Nat->Option aae} {k:Nat} {x:aae} (h:ap5 ks b k=some x):k∈ks/\b k=some x:=by
 unfold ap5 at h;split at h
 ·rename_i hk;exact⟨abH.1 hk,h⟩
 ·cases h
theorem art {P:Program} {D:Prop} {f:FuncId} {run:Run} (h:∀ B,aai P D B f run) (B:Nat):aai P D B f (atA run):=by
 refine⟨(h B).1,λb avs t e hr hp G F w vs V hvs=> ?_⟩;unfold atA at hr;split at hr
 ·rename_i e0 he0;split at hr
  ·rename_i av hset hnws hdel hval;cases hr;obtain⟨ks,hks⟩:∃ ks,ks=ap6 avs:=⟨_,rfl⟩
   obtain⟨b1,hb1⟩:∃ b1,b1=ap5 ks b:=⟨_,rfl⟩
   rw[<- hks,<- hb1] at he0;have hbb:∀ k x,b1 k=some x->k∈ks/\b k=some x:=λk x hx=>by rw[hb1] at hx;exact amx hx
   have hbn:∀ k,b1 k≠none->k∈ks/\b k≠none:=λk hk=>by
    obtain⟨x,hx⟩:=Option.ne_none_iff_exists'.1 hk;obtain⟨q1,q2⟩:=hbb k x hx;exact⟨q1,by rw[q2];simp⟩
   have V1:ad6 B ⟨λ_=>none,b1⟩ G F ⟨#[],[]⟩ w:=⟨V.bs,V.fl,λk x hk=>V.bk k x (hbb k x hk).2,λk k' h1 h2=>V.ne k k' (hbn k h1).2 (hbn k' h2).2,λk g h1=>V.nf k g (hbn k h1).2,V.sl⟩
   have hF':∀ g,(λg=>F g\/∃ k,b1 k≠none/\(G k).o g) g->g<w.heap.size:=by
    rintro g (hg | ⟨k,h1,h2⟩)
    ·exact V.fl g hg
    ·obtain⟨b',hb'⟩:=Option.ne_none_iff_exists'.1 h1;exact ((V1.bk k b' hb').lt g h2).2
   have V':ad6 B ⟨λ_=>none,λ_=>none⟩ G (λg=>F g\/∃ k,b1 k≠none/\(G k).o g) ⟨#[],[]⟩ w:=
    ⟨V.bs,hF',λk b h=>(by cases h),λk k' h=>absurd rfl h,λk g h=>absurd rfl h,λt av h=>(by cases h)⟩
   have hvs':aed (GOk G (λg=>F g\/∃ k,b1 k≠none/\(G k).o g) w) (avs.map (aip b1)) vs:=by
    refine⟨by simpa using hvs.1,λi a v h1 h2=> ?_⟩;rw[List.getElem?_map] at h1;cases hc:avs[i]? with
    |none=>rw[hc] at h1;cases h1
    |some a'=>
     rw[hc] at h1;cases h1;exact ah0 V1 (λg hg=> .inl hg) (λk g h3 h4=> .inr ⟨k,h3,h4⟩) (hvs.2 i a' v hc h2)
   refine ((h B).2 _ _ t e0 he0 hp _ _ w vs V' hvs').mono ?_;rintro en w' ⟨v,rfl,G',F'',p⟩;have hs0:(e0.rc none [] []).set=[]:=hset;have hd0:(e0.rc none [] []).del=[]:=hdel;have hn0:(e0.rc none [] []).nws=[]:=hnws;have hG:G'=G:=by
    funext k;exact p.g k (by rw[hs0];rfl)
   have hwb:∀ k,¬ k∈(e0.rc none [] []).wb:=λk hk=>by
    unfold Rec.wb at hk;rw[hs0,hd0] at hk;cases hk
   subst hG;refine⟨v,rfl,G',F'',λk _=>rfl,λ_ _=>rfl,λg hg=>p.f g (.inl hg),λg hg=> ?_,p.fl,p.os,p.tape,p.out,p.sz,p.dr,p.k,λg hg _=>p.h g hg λk hk=>absurd hk (hwb k),λav' hav'=> ?_,λk b' hs=>(by cases hs),λk k' b' b2 hs=>by cases hs⟩
   ·rcases p.fn g hg with (q | ⟨k,q1,q2⟩) | q | ⟨k,q1,_⟩
    ·exact .inl q
    ·refine .inr (.inr ⟨k,?_,(hbn k q1).2,q2⟩);refine List.mem_append_right _ ?_;show k∈as0 b (ap6 avs);rw[<- hks];exact ahV.2 (hbn k q1)
    ·exact .inr (.inl q)
    ·exact absurd q1 (hwb k)
   ·cases hav';exact p.v av hval
  ·cases hr
 ·cases hr
end Go.Proofs.YtcmplpkmfbhpdaaGreat
namespace Go.Proofs.YtcmplpkmfbhpdaaGreat
open Go Go.RowKit
def aj3:abF
 |[.o (.s true [.m x]),.i n]=>some (.s true [.m (x*n.toNat)],[0<=n/\n<9223372036854775808,Dec.dg x<=1000000])
 |_=>none
def gSm:List (Nat × Run):=[(168,aaF ayC),(232,aaF ap8)]
theorem axX (D:Prop):∀ p∈gSm,∀ B,aai Tryz.prog D B p.1 p.2:=aad (asp D) (aad (aob D) λp hp=>by cases hp)
theorem ape (x:Nat) (n:Int):vc Tryz.prog (lk gSm) Tryz.f216.ntmps [] (Tryz.f216.body.getD .skip) ⟨aao [.s true [.m x],.s false [.v (.int .i64 n)]] 0,[]⟩ (aaH Tryz.prog Tryz.f216.results.toList (.s true [.m (x*n.toNat)]))=(((0:Int)<=IntKind.wrap IntKind.u64 n/\IntKind.wrap IntKind.u64 n<(18446744073709551616:Int))/\Dec.dg x<=1000000/\Dec.dg (IntKind.wrap IntKind.u64 n).toNat<=1000000/\aac (AV.s true [aaa.m (x*(IntKind.wrap IntKind.u64 n).toNat)]) (AV.s true [aaa.m (x*n.toNat)])):=by kernel_rfl
set_option maxRecDepth 100000 in
theorem apf (D:Prop) (B:Nat):aai Tryz.prog D B 216 (aaF aj3):=by
 refine aam (c:=Tryz.f216.body.getD .skip) (aau (axX D)) (by kernel_rfl) Tryz.func216 (by kernel_rfl) (by kernel_rfl) ?_ B;intro pvs av ps h hp;unfold aj3 at h;split at h
 ·rename_i x n;cases h;obtain⟨h1,h2,_⟩:=hp;refine⟨[.s true [.m x],.s false [.v (.int .i64 n)]],[],aaj.refl _,by rw[Tryz.ntmps216];simp,?_⟩;rw[ape];have e:IntKind.wrap IntKind.u64 n=n:=by rw[IntKind.wrap_u64];omega
  rw[e];exact⟨by omega,h2,Nat.le_trans (am3 (m:=n.toNat) (by omega)) (by decide),aac.refl _⟩
 ·cases h
structure akE (x y k:Nat) (q:List Nat):Prop where
 hk:k<=(Dec.limbs x).length
 len:q.length=(Dec.limbs x).length
 limb:Dec.Limb q
 val:Dec.valL (q.drop k)=Dec.valL ((Dec.limbs x).drop k)/y
def abx (x y k:Nat):Nat:=Dec.valL ((Dec.limbs x).drop k)%y
def nextD (x y k:Nat):Nat:=(Dec.limbs x).getD (k-1) 0+10000*abx x y k
theorem aj2 {x y k:Nat} (hy:0<y):nextD x y k<10000*y:=by
 unfold nextD abx;have h1:=Dec.getD_lt (Dec.limbs_limb x) (k-1);have h2:=Nat.mod_lt (Dec.valL ((Dec.limbs x).drop k)) hy;have h3:10000*(Dec.valL ((Dec.limbs x).drop k)%y+1)<=10000*y:=Nat.mul_le_mul_left _ h2;omega
theorem ajc {x k:Nat} (h0:0<k) (hk:k<=(Dec.limbs x).length):Dec.valL ((Dec.limbs x).drop (k-1))=(Dec.limbs x).getD (k-1) 0+10000*Dec.valL ((Dec.limbs x).drop k):=by
 have:=Dec.val_drop (Dec.getD_of (l:=Dec.limbs x) (i:=k-1) (by omega));rwa [show k-1+1=k by omega] at this
theorem aoZ {x y k:Nat} (h0:0<k) (hk:k<=(Dec.limbs x).length):abx x y (k-1)=nextD x y k%y:=by
 unfold nextD abx;rw[ajc h0 hk];generalize Dec.valL ((Dec.limbs x).drop k)=V;rw[Nat.add_mod,Nat.mul_mod,Nat.add_mod _ (10000*(V%y)),Nat.mul_mod 10000 (V%y),Nat.mod_mod]
theorem akE.step {x y k:Nat} {q:List Nat} (h:akE x y k q) (h0:0<k) (hy:0<y):akE x y (k-1) (q.set (k-1) (nextD x y k/y)):=by
 have hq:nextD x y k/y<10000:=by
  rw[Nat.div_lt_iff_lt_mul hy];exact aj2 hy
 have hk:=h.hk;have hlen:=h.len;refine⟨by omega,by simp[h.len],Dec.limb_set h.limb _ hq,?_⟩;have e1:(q.set (k-1) (nextD x y k/y))[k-1]? =some (nextD x y k/y):=by
  rw[List.getElem?_set_self (by omega)]
 rw[Dec.val_drop e1,show k-1+1=k by omega,List.drop_set_of_lt (by omega),h.val,ajc h0 h.hk];unfold nextD abx;generalize Dec.valL ((Dec.limbs x).drop k)=V;generalize (Dec.limbs x).getD (k-1) 0=d;have e2:d+10000*V=(d+10000*(V%y))+y*(10000*(V/y)):=by
  have:=Nat.div_add_mod V y;have e3:10000*V=10000*(y*(V/y)+V%y):=by rw[this]
  rw[e3,Nat.mul_add,Nat.mul_left_comm];omega
 rw[e2,Nat.add_mul_div_left _ _ hy]
theorem akE.start (x y:Nat):akE x y (Dec.limbs x).length (List.replicate (Dec.limbs x).length 0):=by
 refine⟨Nat.le_refl _,by simp,Dec.limb_zeros _,?_⟩;rw[List.drop_eq_nil_of_le (by simp),List.drop_eq_nil_of_le (Nat.le_refl _)];simp[Dec.valL]
theorem amq (x y:Nat):abx x y (Dec.limbs x).length=0:=by
 unfold abx;rw[List.drop_eq_nil_of_le (Nat.le_refl _)];simp[Dec.valL]
theorem auo {x y k:Nat} (hy:0<y):Dec.dg (abx x y k)<=Dec.dg y:=Dec.dg_mono (Nat.le_of_lt (Nat.mod_lt _ hy))
theorem auJ {x y k:Nat} (hy:0<y):Dec.dg (nextD x y k)<=Dec.dg y+1:=by
 refine Nat.le_trans (Dec.dg_mono (Nat.le_of_lt (aj2 hy))) ?_;rw[Nat.mul_comm];refine Dec.limbs_le _ _ ?_;have:=(Dec.limbs_len y _).1 (Nat.le_refl _);show y*10000<10000 ^ (Dec.dg y+1);rw[Nat.pow_succ];exact Nat.mul_lt_mul_of_pos_right this (by decide)
def ap9:abF
 |[.o (.s true [.m x]),.o (.s true [.m y])]=>some (.tup [(true,[.m (x/y)]),(true,[.m (x%y)])],[0<y,Dec.dg x<=400000,Dec.dg y<=400000])
 |_=>none
def gDv:List (Nat × Run):=[(215,atA (aaF aqa)),(216,aaF aj3),(181,aaF aqb),(217,aaF akR)]
theorem ayf (D:Prop):∀ p∈gDv,∀ B,aai Tryz.prog D B p.1 p.2:=aad (art (aof D)) (aad (apf D) (aad (aog D) (aad (alu D) λp hp=>by cases hp)))
structure QI where
 k:Nat
 q:List Nat
 low:Nat
 high:Nat
def aAr (p:QI):List (Nat × AV):=[(2,.s false [.own 2 0]),(3,.s false [.own 3 0]),(4,.s false [.own 4 0]),(5,.s false [.own 5 0]),(6,.s false [.hd 15]),(7,.s false [.own 7 0]),(8,.s false [.v (.int .i64 ((p.k:Int)-1))])]
def aAs (x y n:Nat) (p:QI) (r:aaa):List (Nat × aae):=[(2,.st 58 [adO (Dec.limbs x)]),(3,.st 58 [.m y]),(4,.st 58 [.v (.slice none 0 0)]),(5,.st 58 [.v (.slice none 0 0)]),(7,.st 58 [r]),(15,.row 3 1 n (acv p.q))]
def aiX (x y:Nat):abW:=⟨QI,λp=>PW (akE x y p.k p.q),λp=>⟨aAr p,aAs x y (Dec.limbs x).length p (adO (Dec.limbs (abx x y p.k)))⟩,λp=>p.k,[],[],none⟩
def aiW (x y:Nat):abW:=⟨QI,λp=>PW (akE x y p.k p.q)/\0<p.k/\(p.low<p.high/\p.high<=10000)/\p.low*y<=nextD x y p.k/\nextD x y p.k<p.high*y,λp=>⟨aAr p++[(9,.s false [.v (.int .i64 (p.low:Nat))]),(10,.s false [.v (.int .i64 (p.high:Nat))])],aAs x y (Dec.limbs x).length p (.m (nextD x y p.k))⟩,λp=>p.high-p.low,[],[],some λp=>p.k⟩
abbrev ass (x y:Nat):Prop:=vc Tryz.prog (lk gDv) Tryz.f179.ntmps [(4,aiX x y),(8,aiW x y)] (Tryz.f179.body.getD .skip) ⟨aao [.s true [adO (Dec.limbs x)],.s true [.m y]] 0,[]⟩ (aaH Tryz.prog Tryz.f179.results.toList (.tup [(true,[.m (x/y)]),(true,[.m (x%y)])]))
theorem auU (x y:Nat):ass x y=(let k0:=aae.st 58 [aaa.v (Value.slice none 0 0)];let k1:=λ(zz:Nat)=>(Dec.limbs zz).length;let k3:=λ(zz:Nat)=>(aae.st 58 [aaa.row 1 (k1 zz) (acv (Dec.limbs zz))]);let k4:=aae.st 58 [aaa.m y];let k5:=(1:Int);let k6:=AV.s false [aaa.own 2 0];let k7:=AV.s false [aaa.own 3 0];let k8:=AV.s false [aaa.own 4 0];let k9:=AV.s false [aaa.own 5 0];let k10:=AV.s false [aaa.own 7 0];let k11:=λ(zz:QI)=>(AV.s false [aaa.v (Value.int IntKind.i64 (↑(QI.high zz):Int))]);let k12:=λ(zz:QI)=>(AV.s false [aaa.v (Value.int IntKind.i64 (↑(QI.low zz):Int))]);let k13:=AV.s false [aaa.hd 15];let k14:=(0:Int);let k15:=λ(zz:QI)=>((↑(QI.k zz):Int)-k5).toNat;let k16:=(2:Int);let k17:=λ(zz:Nat)=>(↑(k1 zz):Int);let k18:=λ(zz:QI)=>(acv (QI.q zz));let k19:=Value.int IntKind.i64 k14;let k20:=(9223372036854775808:Int);let k2:=λ(zz:QI)=>(AV.s false [aaa.v (Value.int IntKind.i64 ((↑(QI.k zz):Int)-k5))]);let p0:=λ(Z:Prop)=>SmA k6/\SmA k7/\SmA k8/\SmA k9/\SmA k13/\SmA k10/\Z;let p1:=λ(i':QI)=>PW (akE x y (QI.k i') (QI.q i'))/\0<QI.k i'/\(QI.low i'<QI.high i'/\QI.high i'<=10000)/\QI.low i'*y<=nextD x y (QI.k i')/\nextD x y (QI.k i')<QI.high i'*y;let p2:=λ(Z:Prop)=>SmB (k3 x)/\SmB k4/\SmB k0/\SmB k0/\Z;(k17 x)=(k17 x)/\k14<=(k17 x)/\(8*(k17 x).toNat<=281474976710656/\(k17 x).toNat<=9223372036854775807)/\(Exists λ(i:QI)=>PW (akE x y (QI.k i) (QI.q i))/\(p0 (aac (AV.s false [aaa.v (Value.int IntKind.i64 (IntKind.wrap IntKind.i64 ((k17 x)-k5)))]) (k2 i)/\True))/\p2 (aaf k0 (aae.st 58 [aaa.row 1 (Dec.limbs (abx x y (QI.k i))).length (acv (Dec.limbs (abx x y (QI.k i))))])/\aaf (aae.row 3 1 (k17 x).toNat λ(_x:Nat)=>[aaa.v k19]) (aae.row 3 1 (k1 x) (k18 i))/\True))/\∀ (i:QI),PW (akE x y (QI.k i) (QI.q i))->(decide ((↑(QI.k i):Int)-k5>=k14)=true->(k14<=(↑(QI.k i):Int)-k5/\(↑(QI.k i):Int)-k5<(k17 x))/\(0<=(Dec.limbs (abx x y (QI.k i))).length/\(1+(Dec.limbs (abx x y (QI.k i))).length)*8<=140737488355328)/\(∀ (i_1:Nat),i_1<1+(Dec.limbs (abx x y (QI.k i))).length->aan (if i_1<1 then List.getD [[aaa.v (Value.int IntKind.i64 (↑(List.getD (Dec.limbs x) (k15 i) 0):Int))]] i_1 [] else [aaa.v (Value.int IntKind.i64 (↑(List.getD (Dec.limbs (abx x y (QI.k i))) (i_1-1) 0):Int))]) [aaa.v (Value.int IntKind.i64 (↑(List.getD (acj (1+(Dec.limbs (abx x y (QI.k i))).length) λ(j:Nat)=>if j<1 then List.getD [[aaa.v (Value.int IntKind.i64 (↑(List.getD (Dec.limbs x) (k15 i) 0):Int))]] j [] else [aaa.v (Value.int IntKind.i64 (↑(List.getD (Dec.limbs (abx x y (QI.k i))) (j-1) 0):Int))]) i_1 0):Int))])/\(∀ (x_1:Nat),List.Mem x_1 (acj (1+(Dec.limbs (abx x y (QI.k i))).length) λ(j:Nat)=>if j<1 then List.getD [[aaa.v (Value.int IntKind.i64 (↑(List.getD (Dec.limbs x) (k15 i) 0):Int))]] j [] else [aaa.v (Value.int IntKind.i64 (↑(List.getD (Dec.limbs (abx x y (QI.k i))) (j-1) 0):Int))])->x_1<10000)/\1+(Dec.limbs (abx x y (QI.k i))).length<=10000000/\Exists λ(i0:QI)=>(PW (akE x y (QI.k i0) (QI.q i0))/\0<QI.k i0/\(QI.low i0<QI.high i0/\QI.high i0<=10000)/\QI.low i0*y<=nextD x y (QI.k i0)/\nextD x y (QI.k i0)<QI.high i0*y)/\((p0 (aac (k2 i) (k2 i0)/\aac (AV.s false [aaa.v k19]) (k12 i0)/\aac (AV.s false [aaa.v (Value.int IntKind.i64 (10000:Int))]) (k11 i0)/\True))/\p2 (aaf (aae.st 58 [aaa.m (Dec.valL (acj (1+(Dec.limbs (abx x y (QI.k i))).length) λ(j:Nat)=>if j<1 then List.getD [[aaa.v (Value.int IntKind.i64 (↑(List.getD (Dec.limbs x) (k15 i) 0):Int))]] j [] else [aaa.v (Value.int IntKind.i64 (↑(List.getD (Dec.limbs (abx x y (QI.k i))) (j-1) 0):Int))]))]) (aae.st 58 [aaa.m (nextD x y (QI.k i0))])/\aaf (aae.row 3 1 (k1 x) (k18 i)) (aae.row 3 1 (k1 x) (k18 i0))/\True))/\∀ (i_1:QI),PW (akE x y (QI.k i_1) (QI.q i_1))/\0<QI.k i_1/\(QI.low i_1<QI.high i_1/\QI.high i_1<=10000)/\QI.low i_1*y<=nextD x y (QI.k i_1)/\nextD x y (QI.k i_1)<QI.high i_1*y->QI.k i_1=QI.k i0->(decide (IntKind.wrap IntKind.i64 ((↑(QI.high i_1):Int)-(↑(QI.low i_1):Int))>k5)=true->k16≠k14/\(k14<=IntKind.wrap IntKind.i64 (Int.tdiv (IntKind.wrap IntKind.i64 ((↑(QI.low i_1):Int)+(↑(QI.high i_1):Int))) k16)/\IntKind.wrap IntKind.i64 (Int.tdiv (IntKind.wrap IntKind.i64 ((↑(QI.low i_1):Int)+(↑(QI.high i_1):Int))) k16)<k20)/\Dec.dg y<=1000000/\Dec.dg (y*(IntKind.wrap IntKind.i64 (Int.tdiv (IntKind.wrap IntKind.i64 ((↑(QI.low i_1):Int)+(↑(QI.high i_1):Int))) k16)).toNat)<=1000000/\(decide (abe (↑(y*(IntKind.wrap IntKind.i64 (Int.tdiv (IntKind.wrap IntKind.i64 ((↑(QI.low i_1):Int)+(↑(QI.high i_1):Int))) k16)).toNat):Int) (↑(nextD x y (QI.k i_1)):Int)<=k14)=true->Exists λ(i':QI)=>((p1 i'))/\QI.k i'=QI.k i0/\QI.high i'-QI.low i'<QI.high i_1-QI.low i_1/\(p0 (aac (AV.s false [aaa.v (Value.int IntKind.i64 ((↑(QI.k i_1):Int)-k5))]) (k2 i')/\aac (AV.s false [aaa.v (Value.int IntKind.i64 (IntKind.wrap IntKind.i64 (Int.tdiv (IntKind.wrap IntKind.i64 ((↑(QI.low i_1):Int)+(↑(QI.high i_1):Int))) k16)))]) (k12 i')/\aac (AV.s false [aaa.v (Value.int IntKind.i64 (↑(QI.high i_1):Int))]) (k11 i')/\True))/\p2 (aaf (aae.st 58 [aaa.m (nextD x y (QI.k i_1))]) (aae.st 58 [aaa.m (nextD x y (QI.k i'))])/\aaf (aae.row 3 1 (k1 x) (acv (QI.q i_1))) (aae.row 3 1 (k1 x) (k18 i'))/\True))/\(decide (abe (↑(y*(IntKind.wrap IntKind.i64 (Int.tdiv (IntKind.wrap IntKind.i64 ((↑(QI.low i_1):Int)+(↑(QI.high i_1):Int))) k16)).toNat):Int) (↑(nextD x y (QI.k i_1)):Int)<=k14)=false->Exists λ(i':QI)=>((p1 i'))/\QI.k i'=QI.k i0/\QI.high i'-QI.low i'<QI.high i_1-QI.low i_1/\(p0 (aac (AV.s false [aaa.v (Value.int IntKind.i64 ((↑(QI.k i_1):Int)-k5))]) (k2 i')/\aac (AV.s false [aaa.v (Value.int IntKind.i64 (↑(QI.low i_1):Int))]) (k12 i')/\aac (AV.s false [aaa.v (Value.int IntKind.i64 (IntKind.wrap IntKind.i64 (Int.tdiv (IntKind.wrap IntKind.i64 ((↑(QI.low i_1):Int)+(↑(QI.high i_1):Int))) k16)))]) (k11 i')/\True))/\p2 (aaf (aae.st 58 [aaa.m (nextD x y (QI.k i_1))]) (aae.st 58 [aaa.m (nextD x y (QI.k i'))])/\aaf (aae.row 3 1 (k1 x) (acv (QI.q i_1))) (aae.row 3 1 (k1 x) (k18 i'))/\True)))/\(decide (IntKind.wrap IntKind.i64 ((↑(QI.high i_1):Int)-(↑(QI.low i_1):Int))>k5)=false->(k14<=(↑(QI.k i_1):Int)-k5/\(↑(QI.k i_1):Int)-k5<(k17 x))/\((↑(QI.k i_1):Int)-k5).toNat<(Dec.limbs x).length/\(k14<=(↑(QI.low i_1):Int)/\(↑(QI.low i_1):Int)<k20)/\Dec.dg y<=1000000/\y*(↑(QI.low i_1):Int).toNat<=nextD x y (QI.k i_1)/\Dec.dg (nextD x y (QI.k i_1))<=1000000/\Exists λ(i':QI)=>PW (akE x y (QI.k i') (QI.q i'))/\QI.k i'<QI.k i/\(p0 (aac (AV.s false [aaa.v (Value.int IntKind.i64 (IntKind.wrap IntKind.i64 ((↑(QI.k i_1):Int)-k5-k5)))]) (k2 i')/\True))/\p2 (aaf (aae.st 58 [aaa.m (nextD x y (QI.k i_1)-y*(↑(QI.low i_1):Int).toNat)]) (aae.st 58 [aaa.row 1 (Dec.limbs (abx x y (QI.k i'))).length (acv (Dec.limbs (abx x y (QI.k i'))))])/\aaf (aae.row 3 1 (k1 x) λ(j:Nat)=>if j=((↑(QI.k i_1):Int)-k5).toNat then [aaa.v (Value.int IntKind.i64 (↑(QI.low i_1):Int))] else [aaa.v (Value.int IntKind.i64 (↑(List.getD (QI.q i_1) j 0):Int))]) (aae.row 3 1 (k1 x) (k18 i'))/\True)))/\(decide ((↑(QI.k i):Int)-k5>=k14)=false->(∀ (i_1:Nat),i_1<(Dec.limbs x).length->aan [aaa.v (Value.int IntKind.i64 (↑(List.getD (QI.q i) i_1 0):Int))] [aaa.v (Value.int IntKind.i64 (↑(List.getD (acj (k1 x) (k18 i)) i_1 0):Int))])/\(∀ (x_1:Nat),List.Mem x_1 (acj (k1 x) (k18 i))->x_1<10000)/\(Dec.limbs x).length<=10000000/\aac (AV.tup [(true,[aaa.m (Dec.valL (acj (k1 x) (k18 i)))]),(true,[aaa.row 1 (Dec.limbs (abx x y (QI.k i))).length (acv (Dec.limbs (abx x y (QI.k i))))])]) (AV.tup [(true,[aaa.m (x/y)]),(true,[aaa.m (x%y)])]))):=by kernel_rfl
theorem amA {d:Nat} {l:List Nat} {n:Nat} (hn:n=l.length):acj (1+n) (λj=>if j<1 then [[aaa.v (.int .i64 (d:Int))]].getD j [] else [aaa.v (.int .i64 ((l.getD (j-1) 0:Nat):Int))])=d::l:=by
 subst hn;have e:acj (1+l.length) (λj=>if j<1 then [[aaa.v (.int .i64 (d:Int))]].getD j [] else [aaa.v (.int .i64 ((l.getD (j-1) 0:Nat):Int))])=acj (d::l).length (acv (d::l)):=by
  rw[List.length_cons,Nat.add_comm l.length 1];unfold acj;refine List.map_congr_left λi _=> ?_;cases i with
  |zero=>rfl
  |succ i=>
   show ap7 (if i+1<1 then _ else _)=_;rw[if_neg (by omega)];rfl
 rw[e,ahz]
set_option maxRecDepth 100000 in
theorem api (x y:Nat) (hy:0<y) (hdx:Dec.dg x<=400000) (hdy:Dec.dg y<=400000):ass x y:=by
 rw[auU];simp only[SmA,SmB,aaP,abj,true_and,and_true,decide_eq_true_eq,decide_eq_false_iff_not,Int.toNat_natCast];unfold Dec.dg at hdx;have hdy':=hdy;unfold Dec.dg at hdy;refine⟨by omega,by omega,⟨⟨(Dec.limbs x).length,List.replicate (Dec.limbs x).length 0,0,0⟩,⟨akE.start x y⟩,aac.ik (by show _=(((Dec.limbs x).length:Nat):Int)-1;rw[IntKind.wrap_i64];omega),aaf.st (aan.cons ?_ aan.nil),aaf.row rfl (λj hj=>ae4 (by simp[List.getD,hj])) (λ_ _=>rfl)⟩,λ⟨k,q,_,_⟩ ⟨h⟩=>⟨λhk=> ?_,λhk=> ?_⟩⟩
 ·rw[amq,Dec.limbs_zero];exact CLe.nilrow rfl
 ·dsimp only at h hk ⊢;have hk0:0<k:=by omega
  have hkl:=h.hk;have ek:((k:Int)-1).toNat=k-1:=by omega
  have hrd:(Dec.limbs (abx x y k)).length<=400000:=Nat.le_trans (auo hy) hdy;have hR:=aj2 (x:=x) (k:=k) hy;have hval:Dec.valL ((Dec.limbs x).getD (k-1) 0::Dec.limbs (abx x y k))=nextD x y k:=by
   unfold nextD Dec.valL;rw[Dec.val_limbs]
  have hlimb:Dec.Limb ((Dec.limbs x).getD (k-1) 0::Dec.limbs (abx x y k)):=λz hz=>by
   rcases List.mem_cons.1 hz with rfl | hz
   ·exact Dec.getD_lt (Dec.limbs_limb x) _
   ·exact Dec.limbs_limb _ z hz
  rw[ek];simp only[amA,hval];refine⟨by omega,by omega,λj hj=> ?_,hlimb,by omega,⟨k,q,0,10000⟩,⟨⟨h⟩,hk0,⟨by show 0<10000;decide,Nat.le_refl _⟩,by rw[Nat.zero_mul];exact Nat.zero_le _,hR⟩,⟨⟨aac.refl _,aac.ik rfl,aac.ik rfl⟩,aaf.refl _,aaf.refl _⟩,?_⟩
  ·cases j with
   |zero=>exact aan.refl _
   |succ j=>
    rw[if_neg (by omega)];exact aan.refl _
  ·clear h hkl ek hval hlimb hrd hR hk;rintro⟨k2,q2,low,high⟩ ⟨⟨h⟩,hk2,⟨hlh,hh⟩,h1,h2⟩ e;dsimp only at h hk2 hlh hh h1 h2 e ⊢;subst e;have hkl:=h.hk;have hnd:Dec.dg (nextD x y k2)<=400001:=Nat.le_trans (auJ hy) (by omega);have w1:IntKind.i64.wrap ((high:Int)-(low:Int))=(high:Int)-low:=by rw[IntKind.wrap_i64];omega
   have w2:IntKind.i64.wrap ((IntKind.i64.wrap ((low:Int)+(high:Int))).tdiv 2)=(((low+high)/2:Nat):Int):=by
    have:IntKind.i64.wrap ((low:Int)+(high:Int))=((low+high:Nat):Int):=by rw[IntKind.wrap_i64];omega
    rw[this];have:=afw (low+high) 2;rw[show ((2:Nat):Int)=2 from rfl] at this;rw[this,IntKind.wrap_i64];omega
   rw[w1,w2,Int.toNat_natCast];refine⟨λhg=> ?_,λhg=> ?_⟩
   ·obtain⟨mid,hmid⟩:∃ mid,mid=(low+high)/2:=⟨_,rfl⟩
    rw[<- hmid];have hm1:low<mid/\mid<high:=by omega
    have hdm:Dec.dg (y*mid)<=1000000:=by
     refine Nat.le_trans (Dec.dg_mul y mid) ?_;have:Dec.dg mid<=5:=am3 (by omega);omega
    have hcz:(abe ((y*mid:Nat):Int) ((nextD x y k2:Nat):Int)<=0)=(y*mid<=nextD x y k2):=by
     unfold abe;apply propext;(repeat' split)<;>omega
    rw[hcz];refine⟨by decide,by omega,by omega,hdm,λhc=>⟨⟨k2,q2,mid,high⟩,⟨⟨h⟩,hk2,⟨hm1.2,hh⟩,by rw[Nat.mul_comm];exact hc,h2⟩,rfl,by show high-mid<high-low;omega,⟨aac.refl _,aac.refl _,aac.refl _⟩,aaf.refl _,aaf.refl _⟩,λhc=>⟨⟨k2,q2,low,mid⟩,⟨⟨h⟩,hk2,⟨hm1.1,by show mid<=10000;omega⟩,h1,by show nextD x y k2<mid*y;rw[Nat.mul_comm];omega⟩,rfl,by show mid-low<high-low;omega,⟨aac.refl _,aac.refl _,aac.refl _⟩,aaf.refl _,aaf.refl _⟩⟩
   ·have ehl:high=low+1:=by omega
    subst ehl;have eq:nextD x y k2/y=low:=by
     refine Nat.div_eq_of_lt_le h1 h2
    have er:nextD x y k2-y*low=abx x y (k2-1):=by
     rw[aoZ hk2 hkl,<- eq];have:=Nat.div_add_mod (nextD x y k2) y;omega
    have hs:=h.step hk2 hy;rw[eq] at hs;have ek2:((k2:Int)-1).toNat=k2-1:=by omega
    rw[ek2,er];refine⟨by omega,by omega,by omega,by omega,by rw[Nat.mul_comm];exact h1,by omega,⟨k2-1,q2.set (k2-1) low,0,0⟩,⟨hs⟩,by show k2-1<k2;omega,aac.ik ?_,aaf.st (aan.cons (CLe.m_row _) aan.nil),akc h.len.symm rfl⟩;show _=((k2-1:Nat):Int)-1;rw[IntKind.wrap_i64];omega
 ·dsimp only at h hk ⊢;have hk0:k=0:=by omega
  subst hk0;have hv:=h.val;rw[List.drop_zero,List.drop_zero,Dec.val_limbs] at hv;have hr:abx x y 0=x%y:=by
   unfold abx;rw[List.drop_zero,Dec.val_limbs]
  rw[<- h.len,ahz,hv,hr];refine⟨λ_ _=>aan.refl _,h.limb,by rw[h.len];omega,aac.tup rfl λi p q' h1 h2=> ?_⟩;match i,h1,h2 with
  |0,h1,h2=>cases h1;cases h2;exact aac.refl _
  |1,h1,h2=>cases h1;cases h2;exact aac.s (aan.cons (CLe.row_m rfl λ_ _=>aan.refl _) aan.nil)
set_option maxRecDepth 100000 in
theorem aoe (D:Prop) (B:Nat):aai Tryz.prog D B 179 (aaF ap9):=by
 refine aam (c:=Tryz.f179.body.getD .skip) (aau (ayf D)) (by kernel_rfl) Tryz.func179 (by kernel_rfl) (by kernel_rfl) ?_ B;intro pvs av ps h hp;unfold ap9 at h;split at h
 ·rename_i x y;cases h;obtain⟨h1,h2,h3,_⟩:=hp;exact⟨[.s true [adO (Dec.limbs x)],.s true [.m y]],[(4,aiX x y),(8,aiW x y)],aaj.cons (aac.s (aan.cons (CLe.m_row x) aan.nil)) (aaj.cons (aac.refl _) aaj.nil),by rw[Tryz.ntmps179];simp,api x y h1 h2 h3⟩
 ·cases h
def atu:abF
 |[.o (.s true [.m x]),.o (.s true [.m y])]=>some (.s true [.m (Nat.gcd x y)],[Dec.dg x<=400000,Dec.dg y<=400000])
 |_=>none
def gGc:List (Nat × Run):=[(179,aaF ap9)]
theorem aye (D:Prop):∀ p∈gGc,∀ B,aai Tryz.prog D B p.1 p.2:=aad (aoe D) λp hp=>by cases hp
def alv (x y:Nat):abW:=⟨Nat × Nat,λp=>PW (Nat.gcd p.1 p.2=Nat.gcd x y/\Dec.dg p.1<=400000/\Dec.dg p.2<=400000),λp=>⟨[(2,.s false [.own 2 0]),(3,.s false [.own 3 0]),(4,.s false [.own 4 0])],[(2,.st 58 [.m p.1]),(3,.st 58 [.m p.2]),(4,.st 58 [.v (.slice none 0 0)])]⟩,λp=>p.2,[],[],none⟩
theorem auQ (x y:Nat):vc Tryz.prog (lk gGc) Tryz.f178.ntmps [(1,alv x y)] (Tryz.f178.body.getD .skip) ⟨aao [.s true [.m x],.s true [.m y]] 0,[]⟩ (aaH Tryz.prog Tryz.f178.results.toList (.s true [.m (Nat.gcd x y)]))=(let p0:=SmA (AV.s false [aaa.own 2 0])/\SmA (AV.s false [aaa.own 3 0])/\SmA (AV.s false [aaa.own 4 0])/\True;let p1:=SmB (aae.st 58 [aaa.v (Value.slice none 0 0)])/\True;let p2:=λ(i:Nat × Nat)=>Nat.gcd i.1 i.2=Nat.gcd x y/\Dec.dg i.1<=400000/\Dec.dg i.2<=400000;(Exists λ(i:Nat × Nat)=>PW ((p2 i))/\(p0)/\aaf (aae.st 58 [aaa.m x]) (aae.st 58 [aaa.m i.1])/\aaf (aae.st 58 [aaa.m y]) (aae.st 58 [aaa.m i.2])/\p1)/\∀ (i:Nat × Nat),PW ((p2 i))->(decide ((↑(Dec.limbs i.2).length:Int)>(0:Int))=true->0<i.2/\Dec.dg i.1<=400000/\Dec.dg i.2<=400000/\Exists λ(i':Nat × Nat)=>PW (Nat.gcd i'.1 i'.2=Nat.gcd x y/\Dec.dg i'.1<=400000/\Dec.dg i'.2<=400000)/\i'.2<i.2/\(p0)/\aaf (aae.st 58 [aaa.m i.2]) (aae.st 58 [aaa.m i'.1])/\aaf (aae.st 58 [aaa.m (i.1%i.2)]) (aae.st 58 [aaa.m i'.2])/\p1)/\(decide ((↑(Dec.limbs i.2).length:Int)>(0:Int))=false->aac (AV.s true [aaa.m i.1]) (AV.s true [aaa.m (Nat.gcd x y)]))):=by kernel_rfl
set_option maxRecDepth 100000 in
theorem auR (D:Prop) (B:Nat):aai Tryz.prog D B 178 (aaF atu):=by
 refine aam (c:=Tryz.f178.body.getD .skip) (aau (aye D)) (by kernel_rfl) Tryz.func178 (by kernel_rfl) (by kernel_rfl) ?_ B;intro pvs av ps h hp;unfold atu at h;split at h
 ·rename_i x y;cases h;obtain⟨h1,h2,_⟩:=hp;refine⟨[.s true [.m x],.s true [.m y]],[(1,alv x y)],aaj.refl _,by rw[Tryz.ntmps178];simp,?_⟩;rw[auQ];simp only[SmA,SmB,aaP,abj,true_and,and_true,decide_eq_true_eq,decide_eq_false_iff_not];refine⟨⟨(x,y),⟨rfl,h1,h2⟩,aaf.refl _,aaf.refl _⟩,λ⟨a,b⟩ ⟨hg,ha,hb⟩=>⟨λhl=> ?_,λhl=> ?_⟩⟩
  ·dsimp only at hg ha hb hl ⊢;have hb0:0<b:=Nat.pos_of_ne_zero λz=>by
    subst z;rw[Dec.limbs_zero] at hl;exact absurd hl (by decide)
   have hm:=Nat.mod_lt a hb0;exact⟨hb0,ha,hb,(b,a%b),⟨by rw[Nat.gcd_comm b,<- Nat.gcd_rec,Nat.gcd_comm b,hg],hb,Nat.le_trans (Dec.dg_mono (Nat.le_of_lt hm)) hb⟩,hm,aaf.refl _,aaf.refl _⟩
  ·dsimp only at hg ha hb hl ⊢;have hb0:b=0:=by
    have e:Dec.limbs b=[]:=List.length_eq_zero_iff.1 (by omega);have v:=Dec.val_limbs b;rw[e] at v;exact v.symm
   subst hb0;rw[Nat.gcd_zero_right] at hg;rw[hg];exact aac.refl _
 ·cases h
end Go.Proofs.YtcmplpkmfbhpdaaGreat
namespace Go.Proofs.YtcmplpkmfbhpdaaGreat
open Go Go.RowKit
def bA (l:List Int):ByteArray:=amU l.length (agH l)
def b4 (d:Nat):List Int:=[((48+d/1000:Nat):Int),((48+d/100%10:Nat):Int),((48+d/10%10:Nat):Int),((48+d%10:Nat):Int)]
def amV:List Nat->List Int
 |[]=>[]
 |d::l=>amV l++b4 d
def alt (x:Nat):abW:=⟨Nat,λk=>k<=(Dec.limbs x).length,λk=>⟨[(1,.s false [.own 1 0]),(3,.s false [.v (.string (bA (amV ((Dec.limbs x).drop k))))]),(4,.s false [.v (.int .i64 ((k:Int)-1))])],[(1,.st 58 [adO (Dec.limbs x)])]⟩,λk=>k,[],[],none⟩
def als (x:Nat):abW:=⟨Nat,λ_=>True,λz=>⟨[(3,.s false [.v (.string (bA (List.replicate z 48++(acI x).reverse)))])],[]⟩,λz=>z,[],[],none⟩
abbrev awv (x:Nat):Prop:=vc Tryz.prog (lk []) Tryz.f180.ntmps [(5,alt x),(10,als x)] (Tryz.f180.body.getD .skip) ⟨aao [.s true [adO (Dec.limbs x)]] 0,[]⟩ (aaH Tryz.prog Tryz.f180.results.toList (.s false [.v (.string (ad8 x))]))
theorem axB (x:Nat):awv x=(let k1:=λ(zz:Nat)=>(bA (List.replicate zz (48:Int)++List.reverse (acI x)));let k6:=Dec.limbs x;let k7:=λ(zz:Nat)=>(AV.s false [aaa.v (Value.string (bA (amV (List.drop zz k6))))]);let k8:=(0:Int);let k9:=λ(zz:Nat)=>(↑(ByteArray.size (k1 zz)):Int);let k10:=aae.st 58 [aaa.row 1 k6.length (acv k6)];let k11:=(↑k6.length:Int);let k12:=(1:Int);let k13:=λ(zz:Nat)=>(AV.s false [aaa.v (Value.string (k1 zz))]);let k14:=AV.s false [aaa.v (Value.string (ad8 x))];let k15:=λ(zz:Nat)=>(AV.s false [aaa.v (Value.int IntKind.i64 ((↑zz:Int)-k12))]);let k16:=AV.s false [aaa.own 1 0];let k17:=(10:Int);let k0:=λ(zz:Nat)=>(↑(List.getD k6 ((↑zz:Int)-k12).toNat 0):Int);let k2:=λ(zz:Nat)=>(Value.int IntKind.u8 (IntKind.wrap IntKind.u8 (IntKind.wrap IntKind.i64 ((48:Int)+Int.tmod (IntKind.wrap IntKind.i64 (Int.tdiv (k0 zz) (100:Int))) k17))));let k3:=λ(zz:Nat)=>(Value.int IntKind.u8 (IntKind.wrap IntKind.u8 (IntKind.wrap IntKind.i64 ((48:Int)+Int.tmod (IntKind.wrap IntKind.i64 (Int.tdiv (k0 zz) k17)) k17))));let k4:=λ(zz:Nat)=>(Value.int IntKind.u8 (IntKind.wrap IntKind.u8 (IntKind.wrap IntKind.i64 ((48:Int)+IntKind.wrap IntKind.i64 (Int.tdiv (k0 zz) (1000:Int))))));let k5:=λ(zz:Nat)=>(Value.int IntKind.u8 (IntKind.wrap IntKind.u8 (IntKind.wrap IntKind.i64 ((48:Int)+Int.tmod (k0 zz) k17))));((k11 == k8)=true->aac (AV.s false [aaa.v (Value.string { data:=#[(48:UInt8)] })]) k14)/\((k11 == k8)=false->(Exists λ(i:Nat)=>i<=k6.length/\(SmA k16/\aac (AV.s false [aaa.v (Value.string { data:=#[] })]) (k7 i)/\aac (AV.s false [aaa.v (Value.int IntKind.i64 (IntKind.wrap IntKind.i64 (k11-k12)))]) (k15 i)/\True)/\SmB k10/\True)/\∀ (i:Nat),i<=k6.length->(decide ((↑i:Int)-k12>=k8)=true->(k8<=(↑i:Int)-k12/\(↑i:Int)-k12<k11)/\(1000:Int)≠k8/\(100:Int)≠k8/\k17≠k8/\k17≠k8/\k17≠k8/\k17≠k8/\(∀ (i_1:Nat),i_1<4->Exists λ(x_1:Int)=>List.getD [[aaa.v (k4 i)],[aaa.v (k2 i)],[aaa.v (k3 i)],[aaa.v (k5 i)]] i_1 []=[aaa.v (Value.int IntKind.u8 x_1)])/\(↑(ByteArray.size (bA (amV (List.drop i k6)))+ByteArray.size (amU 4 λ(i_1:Nat)=>List.getD [[aaa.v (k4 i)],[aaa.v (k2 i)],[aaa.v (k3 i)],[aaa.v (k5 i)]] i_1 [])):Int)<=(9223372036854775807:Int)/\Exists λ(i':Nat)=>i'<=k6.length/\i'<i/\(SmA k16/\aac (AV.s false [aaa.v (Value.string (bA (amV (List.drop i k6))++amU 4 λ(i_1:Nat)=>List.getD [[aaa.v (k4 i)],[aaa.v (k2 i)],[aaa.v (k3 i)],[aaa.v (k5 i)]] i_1 []))]) (k7 i')/\aac (AV.s false [aaa.v (Value.int IntKind.i64 (IntKind.wrap IntKind.i64 ((↑i:Int)-k12-k12)))]) (k15 i')/\True)/\SmB k10/\True)/\(decide ((↑i:Int)-k12>=k8)=false->(Exists λ(i_1:Nat)=>True/\(aac (k7 i) (k13 i_1)/\True)/\True)/\∀ (i:Nat),True->(k8<=k8/\k8<(k9 i))/\((ajx (k1 i) 0 == (48:Int))=true->(k8<=k12/\k12<=(k9 i)/\(k9 i)<=(k9 i))/\Exists λ(i':Nat)=>True/\i'<i/\(aac (AV.s false [aaa.v (Value.string (ByteArray.extract (k1 i) 1 (k9 i).toNat))]) (k13 i')/\True)/\True)/\((ajx (k1 i) 0 == (48:Int))=false->aac (k13 i) k14)))):=by kernel_rfl
theorem aiq (l:List Int):bA l=⟨(l.map λx=>UInt8.ofNat x.toNat).toArray⟩:=by
 have e:bA l=(ack l.length (agH l)).foldl (λr x=>r.push (UInt8.ofNat x.toNat)) ByteArray.empty:=rfl;rw[e,akg];have go:∀ (l:List Int) (b:ByteArray),l.foldl (λr x=>r.push (UInt8.ofNat x.toNat)) b=⟨b.data++(l.map λx=>UInt8.ofNat x.toNat).toArray⟩:=by
  intro l;induction l with
  |nil=>intro b;simp
  |cons a l ih=>
   intro b;rw[List.foldl_cons,ih];congr 1
   apply Array.ext';simp[ByteArray.push]
 rw[go];congr 1
 show #[]++_=_;apply Array.ext';simp
theorem ayp (a b:List Int):bA a++bA b=bA (a++b):=by
 rw[aiq,aiq,aiq];apply ByteArray.ext;rw[ByteArray.data_append];simp
theorem aeN (l:List Int):(bA l).size=l.length:=by
 rw[aiq];show (List.toArray _).size=_;simp
theorem ayn:bA []=⟨#[]⟩:=by rw[aiq];rfl
theorem awI (c:Int) (l:List Int) (h:0<=c/\c<256):ajx (bA (c::l)) 0=c:=by
 have hs:0<(bA (c::l)).size:=by rw[aeN];simp
 unfold ajx;rw[dif_pos hs];have e:(bA (c::l))[0]'hs=UInt8.ofNat c.toNat:=by
  have:=aiq (c::l);simp only[this];rfl
 rw[e];have:(UInt8.ofNat c.toNat).toNat=c.toNat%256:=by simp
 rw[this];omega
theorem ayo (c:Int) (l:List Int):(bA (c::l)).extract 1 (bA (c::l)).size=bA l:=by
 rw[aeN,aiq,aiq];apply ByteArray.ext;rw[ByteArray.data_extract];apply Array.ext';simp;rw[List.take_of_length_le (by simp)]
def aig:Nat->Nat->List Int
 |0,_=>[]
 |k+1,n=>((48+n%10:Nat):Int)::aig k (n/10)
theorem aiw:acI 0=[]:=by rw[acI];rfl
theorem anJ {n:Nat} (h:n≠0):acI n=((48+n%10:Nat):Int)::acI (n/10):=by rw[acI,dif_neg h]
theorem ai1:∀ k,aig k 0=List.replicate k 48
 |0=>rfl
 |k+1=>by
  show ((48+0%10:Nat):Int)::aig k (0/10)=_;rw[Nat.zero_div,ai1 k,List.replicate_succ];rfl
theorem alF:∀ (k n:Nat),n<10 ^ k->∃ z,aig k n=acI n++List.replicate z 48
 |0,n,h=>⟨0,by rw[show n=0 by simp at h;exact h,aiw];rfl⟩
 |k+1,n,h=>by
  by_cases h0:n=0
  ·subst h0;exact⟨k+1,by rw[ai1,aiw];rfl⟩
  ·obtain⟨z,e⟩:=alF k (n/10) (by rw[Nat.pow_succ] at h;omega);exact⟨z,by rw[anJ h0];show _::aig k (n/10)=_;rw[e];rfl⟩
theorem alG:∀ (k n:Nat),0<n/10 ^ k->aig k n++acI (n/10 ^ k)=acI n
 |0,n,_=>by show []++acI (n/1)=_;rw[Nat.div_one];rfl
 |k+1,n,h=>by
  have e:n/10 ^ (k+1)=n/10/10 ^ k:=by rw[Nat.pow_succ,Nat.mul_comm,Nat.div_div_eq_div_mul]
  have h0:n≠0:=λz=>by subst z;simp at h
  rw[e] at h ⊢;have:=alG k (n/10) h;rw[anJ h0,<- this];rfl
theorem alE:∀ (k n m:Nat),aig k (n+10 ^ k*m)=aig k n
 |0,n,m=>rfl
 |k+1,n,m=>by
  have e1:(n+10 ^ (k+1)*m)%10=n%10:=by rw[Nat.pow_succ,Nat.mul_comm (10 ^ k) 10,Nat.mul_assoc,Nat.add_mul_mod_self_left]
  have e2:(n+10 ^ (k+1)*m)/10=n/10+10 ^ k*m:=by rw[Nat.pow_succ,Nat.mul_comm (10 ^ k) 10,Nat.mul_assoc,Nat.add_mul_div_left _ _ (by decide)]
  show _::aig k _=_::aig k _;rw[e1,e2,alE k]
theorem ayq {d:Nat} (h:d<10000):(b4 d).reverse=aig 4 d:=by
 have e1:d/10/10=d/100:=by omega
 have e2:d/10/10/10%10=d/1000:=by omega
 unfold b4 aig aig aig aig aig;simp only[List.reverse_cons,List.reverse_nil,List.nil_append,List.cons_append];rw[e2,e1]
theorem ajW:∀ (l:List Nat),Dec.Limb l->∃ z,amV l=List.replicate z 48++(acI (Dec.valL l)).reverse
 |[],_=>⟨0,by show []=_;rw[show Dec.valL []=0 from rfl,aiw];rfl⟩
 |d::l,h=>by
  obtain⟨z,e⟩:=ajW l λx hx=>h x (List.mem_cons_of_mem _ hx);have hd:d<10000:=h d List.mem_cons_self;have hv:Dec.valL (d::l)=d+10000*Dec.valL l:=rfl;have e4:b4 d=(aig 4 d).reverse:=by rw[<- ayq hd,List.reverse_reverse]
  show ∃ z,amV l++b4 d=_;rw[e,hv,e4];by_cases h0:Dec.valL l=0
  ·rw[h0,aiw];obtain⟨y,ey⟩:=alF 4 d hd;refine⟨z+y,?_⟩;rw[ey,List.reverse_append,List.reverse_replicate,List.reverse_nil,List.append_nil,<- List.append_assoc,List.replicate_append_replicate];simp
  ·refine⟨z,?_⟩;have e5:(d+10000*Dec.valL l)/10 ^ 4=Dec.valL l:=by
    show (d+10000*Dec.valL l)/10000=_;omega
   have:=alG 4 (d+10000*Dec.valL l) (by rw[e5];omega);rw[e5,alE 4 d] at this;rw[<- this,List.reverse_append,List.append_assoc]
theorem arI {n:Nat} (h:n≠0):∃ c r,(acI n).reverse=c::r/\c≠48/\0<=c/\c<256:=by
 induction n using Nat.strongRecOn with
 |ind n ih=>
  rw[anJ h,List.reverse_cons];by_cases h1:n/10=0
  ·rw[h1,aiw];exact⟨_,[],rfl,by omega,by omega,by omega⟩
  ·obtain⟨c,r,e,k⟩:=ih (n/10) (by omega) h1;rw[e];exact⟨c,_,rfl,k⟩
theorem aqh {n:Nat} (h:n<=9):IntKind.u8.wrap (IntKind.i64.wrap (48+(n:Int)))=((48+n:Nat):Int):=by
 rw[ar3,IntKind.wrap_i64];omega
theorem aj7 {n:Nat} (h:n<10000):IntKind.i64.wrap (n:Int)=(n:Int):=by
 rw[IntKind.wrap_i64];omega
theorem arS {d:Nat} (hd:d<10000):IntKind.u8.wrap (IntKind.i64.wrap (48+IntKind.i64.wrap ((d:Int).tdiv 1000)))=((48+d/1000:Nat):Int)/\IntKind.u8.wrap (IntKind.i64.wrap (48+(IntKind.i64.wrap ((d:Int).tdiv 100)).tmod 10))=((48+d/100%10:Nat):Int)/\IntKind.u8.wrap (IntKind.i64.wrap (48+(IntKind.i64.wrap ((d:Int).tdiv 10)).tmod 10))=((48+d/10%10:Nat):Int)/\IntKind.u8.wrap (IntKind.i64.wrap (48+(d:Int).tmod 10))=((48+d%10:Nat):Int):=by
 have t1:(d:Int).tdiv 1000=((d/1000:Nat):Int):=afw d 1000;have t2:(d:Int).tdiv 100=((d/100:Nat):Int):=afw d 100;have t3:(d:Int).tdiv 10=((d/10:Nat):Int):=afw d 10;have m:∀ n:Nat,(n:Int).tmod 10=((n%10:Nat):Int):=λn=>aik n 10;have l1:d/1000<10000:=by omega
 have l2:d/100<10000:=by omega
 have l3:d/10<10000:=by omega
 rw[t1,t2,t3,aj7 l1,aj7 l2,aj7 l3,m,m,m];exact⟨aqh (by omega),aqh (by omega),aqh (by omega),aqh (by omega)⟩
theorem awg (d:Nat):(amU 4 λi=>List.getD [[aaa.v (.int .u8 ((48+d/1000:Nat):Int))],[aaa.v (.int .u8 ((48+d/100%10:Nat):Int))],[aaa.v (.int .u8 ((48+d/10%10:Nat):Int))],[aaa.v (.int .u8 ((48+d%10:Nat):Int))]] i [])=bA (b4 d):=rfl
theorem ajV:∀ l:List Nat,(amV l).length=4*l.length
 |[]=>rfl
 |d::l=>by
  show (amV l++b4 d).length=_;rw[List.length_append,ajV l,List.length_cons];show _+4=_;omega
set_option maxRecDepth 100000 in
theorem arc (x:Nat) (hx:Dec.dg x<=1000):awv x:=by
 rw[axB];simp only[SmA,SmB,aaP,abj,true_and,and_true,decide_eq_true_eq,decide_eq_false_iff_not];unfold Dec.dg at hx;refine⟨λh=> ?_,λh=>⟨⟨(Dec.limbs x).length,Nat.le_refl _,?_,aac.ik (by rw[IntKind.wrap_i64];omega)⟩,λk hk=>⟨λh1=> ?_,λh1=> ?_⟩⟩⟩
 ·have e:x=0:=by
   have h0:(Dec.limbs x).length=0:=by
    have:=eq_of_beq h;omega
   have v:=Dec.val_limbs x;rw[List.length_eq_zero_iff.1 h0] at v;exact v.symm
  subst e;exact aac.refl _
 ·rw[List.drop_eq_nil_of_le (Nat.le_refl _)];show aac _ (.s false [.v (.string (bA []))]);rw[ayn];exact aac.refl _
 ·have ek:((k:Int)-1).toNat=k-1:=by omega
  rw[ek];have hd:(Dec.limbs x).getD (k-1) 0<10000:=Dec.getD_lt (Dec.limbs_limb x) (k-1);have eg:(Dec.limbs x).getD (k-1) 0=(Dec.limbs x)[k-1]'(by omega):=by
   rw[List.getD_eq_getElem?_getD,List.getElem?_eq_getElem (by omega)];rfl
  have ep:amV ((Dec.limbs x).drop (k-1))=amV ((Dec.limbs x).drop k)++b4 ((Dec.limbs x).getD (k-1) 0):=by
   rw[List.drop_eq_getElem_cons (show k-1<(Dec.limbs x).length by omega),show k-1+1=k by omega,<- eg];rfl
  have hl:=ajV ((Dec.limbs x).drop k);rw[List.length_drop] at hl;clear eg;generalize (Dec.limbs x).getD (k-1) 0=d at *;obtain⟨w0,w1,w2,w3⟩:=arS hd;simp only[w0,w1,w2,w3,awg,ayp,aeN];refine⟨by omega,by decide,by decide,by decide,by decide,by decide,by decide,λi hi=> ?_,by rw[hl,show (b4 d).length=4 from rfl];omega,k-1,by omega,by omega,?_,aac.ik (by rw[IntKind.wrap_i64];omega)⟩
  ·match i,hi with
   |0,_=>exact⟨_,rfl⟩
   |1,_=>exact⟨_,rfl⟩
   |2,_=>exact⟨_,rfl⟩
   |3,_=>exact⟨_,rfl⟩
  ·rw[ep];exact aac.refl _
 ·have hk0:k=0:=by omega
  subst hk0;have hx0:x≠0:=λe=>by
   subst e;rw[Dec.limbs_zero] at h;cases h
  obtain⟨z,ez⟩:=ajW (Dec.limbs x) (Dec.limbs_limb x);have ev:Dec.valL (Dec.limbs x)=x:=Dec.val_limbs x;rw[ev] at ez;have et:ad8 x=bA (acI x).reverse:=by
   unfold ad8 bA;rw[if_neg hx0,List.length_reverse]
  obtain⟨c,r,ec,hc1,hc2,hc3⟩:=arI hx0;rw[List.drop_zero,ez,et,ec];refine⟨⟨z,aac.refl _⟩,λi _=> ?_⟩;cases i with
  |zero=>
   rw[List.replicate_zero,List.nil_append,awI c r ⟨hc2,hc3⟩,aeN];exact⟨⟨by omega,by simp⟩,λhh=>absurd (eq_of_beq hh) hc1,λ_=>aac.refl _⟩
  |succ i=>
   rw[List.replicate_succ,List.cons_append,awI 48 _ (by decide)];refine⟨⟨by omega,by rw[aeN,List.length_cons];omega⟩,λ_=>⟨⟨by omega,by rw[aeN,List.length_cons];omega,by omega⟩,i,by omega,?_⟩,λhh=>by cases hh⟩;rw[Int.toNat_natCast,ayo];exact aac.refl _
def aze:abF
 |[.o (.s true [.m x])]=>some (.s false [.v (.string (ad8 x))],[Dec.dg x<=1000])
 |_=>none
set_option maxRecDepth 100000 in
theorem axC (D:Prop) (B:Nat):aai Tryz.prog D B 180 (aaF aze):=by
 refine aam (c:=Tryz.f180.body.getD .skip) (Γ :=lk []) (λ_ _ _ h=>by cases h) (by kernel_rfl) Tryz.func180 (by kernel_rfl) (by kernel_rfl) ?_ B;intro pvs av ps h hp;unfold aze at h;split at h
 ·rename_i x;cases h;obtain⟨h1,_⟩:=hp;exact⟨[.s true [adO (Dec.limbs x)]],[(5,alt x),(10,als x)],aaj.cons (aac.s (aan.cons (CLe.m_row x) aan.nil)) aaj.nil,by rw[Tryz.ntmps180];simp,arc x h1⟩
 ·cases h
def gJt:List (Nat × Run):=[(180,aaF aze)]
theorem ayb (D:Prop):∀ p∈gJt,∀ B,aai Tryz.prog D B p.1 p.2:=aad (axC D) λp hp=>by cases hp
theorem axN (z:Int):vc Tryz.prog (lk gJt) Tryz.f130.ntmps [] (Tryz.f130.body.getD .skip) ⟨aao [.s true (jC z)] 0,[]⟩ (aaH Tryz.prog Tryz.f130.results.toList (.s false [.v (.string (adg z))]))=((decide (z.sign<(0:Int))=true->Dec.dg z.natAbs<=1000/\(↑(ByteArray.size { data:= #[(45:UInt8)] } + ByteArray.size (ad8 z.natAbs)):Int)<=(9223372036854775807:Int)/\aac (AV.s false [aaa.v (Value.string ({ data:= #[(45:UInt8)] } ++ ad8 z.natAbs))]) (AV.s false [aaa.v (Value.string (adg z))]))/\(decide (z.sign<(0:Int))=false->Dec.dg z.natAbs<=1000/\aac (AV.s false [aaa.v (Value.string (ad8 z.natAbs))]) (AV.s false [aaa.v (Value.string (adg z))]))):=by kernel_rfl
theorem aos (x:Nat):(ad8 x).size<=4*Dec.dg x+1:=by
 by_cases h:x=0
 ·subst h;exact Nat.le_add_left _ _
 ·obtain⟨z,ez⟩:=ajW (Dec.limbs x) (Dec.limbs_limb x);have ev:Dec.valL (Dec.limbs x)=x:=Dec.val_limbs x;rw[ev] at ez;have hl:=ajV (Dec.limbs x);rw[ez,List.length_append,List.length_reverse] at hl;unfold ad8 Dec.dg;rw[if_neg h,aiC];omega
theorem afg {x:Int} : x.sign<0↔x<0:=by
 rcases Int.lt_trichotomy x 0 with k | k | k
 ·rw[Int.sign_eq_neg_one_of_neg k];exact⟨λ_=>k,λ_=>by decide⟩
 ·subst k;simp
 ·rw[Int.sign_eq_one_of_pos k];omega
def azi:abF
 |[.o (.s true [.v (.int .i64 s0),.m n0])]=>some (.s false [.v (.string (adg (jv s0 n0)))],[JV s0 n0,Dec.dg (jv s0 n0).natAbs<=1000])
 |_=>none
set_option maxRecDepth 100000 in
theorem axO (D:Prop) (B:Nat):aai Tryz.prog D B 130 (aaF azi):=by
 refine aam (c:=Tryz.f130.body.getD .skip) (aau (ayb D)) (by kernel_rfl) Tryz.func130 (by kernel_rfl) (by kernel_rfl) ?_ B;intro pvs av ps h hp;unfold azi at h;split at h
 ·rename_i s0 n0;cases h;obtain⟨hj0,hx,_⟩:=hp;have q0:=adL hj0;clear hj0;generalize jv s0 n0=x at *;refine⟨[.s true (jC x)],[],aaj.cons q0 aaj.nil,by rw[Tryz.ntmps130];simp,?_⟩;rw[axN];have hs:=aos x.natAbs;refine⟨λh=>⟨hx,?_,?_⟩,λh=>⟨hx,?_⟩⟩
  ·rw[show ByteArray.size ⟨#[45]⟩=1 from rfl];omega
  ·have hn:x<0:=afg.1 (of_decide_eq_true h);unfold adg;rw[if_pos hn];exact aac.refl _
  ·have hn:¬ x<0:=λk=>of_decide_eq_false h (afg.2 k);unfold adg;rw[if_neg hn];exact aac.refl _
 ·cases h
theorem ase {n:Int} {k:Nat} (hk:0<k):(Rat.divInt n (k:Int)).num=n/((n.natAbs.gcd k:Nat):Int)/\(Rat.divInt n (k:Int)).den=k/n.natAbs.gcd k:=by
 have e:Rat.divInt n (k:Int)=Rat.normalize n k (by omega):=by
  show mkRat n k=_;unfold mkRat;rw[dif_neg (by omega)]
 rw[e,Rat.normalize_eq];exact⟨rfl,rfl⟩
theorem axM {n:Int} {g:Nat} (hg:0<g) (hd:g ∣ n.natAbs):jv n.sign (n.natAbs/g)=n/(g:Int):=by
 obtain⟨m,hm⟩:=hd;unfold jv;rw[hm,Nat.mul_div_cancel_left _ hg];have hn:n=n.sign*((g*m:Nat):Int):=by
  have:=Int.sign_mul_natAbs n;rw[hm] at this;exact this.symm
 have e:n=(g:Int)*(n.sign*(m:Int)):=by
  rw[Int.natCast_mul] at hn;rw[Int.mul_left_comm,<- hn]
 conv=>rhs;rw[e]
 rw[Int.mul_ediv_cancel_left _ (by omega)]
def gLw:List (Nat × Run):=[(178,aaF atu),(179,aaF ap9),(166,aaF agN)]
theorem ax8 (D:Prop):∀ p∈gLw,∀ B,aai Tryz.prog D B p.1 p.2:=aad (auR D) (aad (aoe D) (aad (afk D) λp hp=>by cases hp))
theorem auO (n d:Int):vc Tryz.prog (lk gLw) Tryz.f129.ntmps [] (Tryz.f129.body.getD .skip) ⟨aao [.s true [.v (.int .i64 n.sign),.m n.natAbs,.v (.int .i64 d.sign),.m d.natAbs]] 0,[]⟩ (aaH Tryz.prog Tryz.f129.results.toList (.tup [(true,jC (Rat.divInt n d).num),(true,jC ((Rat.divInt n d).den:Int))]))=(let p0:=λ(Z:Prop)=>Dec.dg (Nat.gcd n.natAbs d.natAbs)<=400000/\Z;let p1:=λ(Z:Prop)=>0<Nat.gcd n.natAbs d.natAbs/\Z;Dec.dg n.natAbs<=400000/\Dec.dg d.natAbs<=400000/\p1 (Dec.dg n.natAbs<=400000/\p0 (p1 (Dec.dg d.natAbs<=400000/\p0 ((n.sign=(1:Int)\/n.sign=(-1:Int)\/n.natAbs/Nat.gcd n.natAbs d.natAbs=0)/\((1:Int)=(1:Int)\/(1:Int)=(-1:Int)\/d.natAbs/Nat.gcd n.natAbs d.natAbs=0)/\aac (AV.tup [(true,[aaa.v (Value.int IntKind.i64 (jv n.sign (n.natAbs/Nat.gcd n.natAbs d.natAbs)).sign),aaa.m (jv n.sign (n.natAbs/Nat.gcd n.natAbs d.natAbs)).natAbs]),(true,[aaa.v (Value.int IntKind.i64 (jv (1:Int) (d.natAbs/Nat.gcd n.natAbs d.natAbs)).sign),aaa.m (jv (1:Int) (d.natAbs/Nat.gcd n.natAbs d.natAbs)).natAbs])]) (AV.tup [(true,[aaa.v (Value.int IntKind.i64 (Rat.num (Rat.divInt n d)).sign),aaa.m (Rat.num (Rat.divInt n d)).natAbs]),(true,[aaa.v (Value.int IntKind.i64 (↑(Rat.den (Rat.divInt n d)):Int).sign),aaa.m (↑(Rat.den (Rat.divInt n d)):Int).natAbs])])))))):=by kernel_rfl
def att:abF
 |[.o (.s true [.v (.int .i64 s0),.m n0,.v (.int .i64 s1),.m n1])]=>some (.tup [(true,jC (Rat.divInt (jv s0 n0) (jv s1 n1)).num),(true,jC ((Rat.divInt (jv s0 n0) (jv s1 n1)).den:Int))],[JV s0 n0,JV s1 n1,0<jv s1 n1,Dec.dg (jv s0 n0).natAbs<=1000,Dec.dg (jv s1 n1).natAbs<=1000])
 |_=>none
theorem ai7 {s0 s1:Int} {n0 n1:Nat} (h0:JV s0 n0) (h1:JV s1 n1):[aaa.v (.int .i64 s0),.m n0,.v (.int .i64 s1),.m n1]=[.v (.int .i64 (jv s0 n0).sign),.m (jv s0 n0).natAbs,.v (.int .i64 (jv s1 n1).sign),.m (jv s1 n1).natAbs]:=by
 rw[aeL h0,agM h0,aeL h1,agM h1]
theorem aac.cells {g:Bool} {l m:List aaa} (h:l=m):aac (.s g l) (.s g m):=by subst h;exact aac.refl _
set_option maxRecDepth 100000 in
theorem auP (D:Prop) (B:Nat):aai Tryz.prog D B 129 (aaF att):=by
 refine aam (c:=Tryz.f129.body.getD .skip) (aau (ax8 D)) (by kernel_rfl) Tryz.func129 (by kernel_rfl) (by kernel_rfl) ?_ B;intro pvs av ps h hp;unfold att at h;split at h
 ·rename_i s0 n0 s1 n1;cases h;obtain⟨hj0,hj1,hpos,hx,hy,_⟩:=hp;have q:=ai7 hj0 hj1;clear hj0 hj1;generalize jv s0 n0=n at *;generalize jv s1 n1=d at *;refine⟨[.s true [.v (.int .i64 n.sign),.m n.natAbs,.v (.int .i64 d.sign),.m d.natAbs]],[],aaj.cons (aac.cells q) aaj.nil,by rw[Tryz.ntmps129];simp,?_⟩;clear q;rw[auO];obtain⟨k,rfl⟩:=Int.eq_ofNat_of_zero_le (Int.le_of_lt hpos);have hk:0<k:=by omega
  rw[Int.natAbs_natCast] at hy ⊢;have hg:0<n.natAbs.gcd k:=Nat.gcd_pos_of_pos_right _ hk;have hdg:Dec.dg (n.natAbs.gcd k)<=1000:=Nat.le_trans (Dec.dg_mono (Nat.le_of_dvd hk (Nat.gcd_dvd_right _ _))) hy;obtain⟨l1,l2⟩:=ase (n:=n) hk;have e2:jv 1 (k/n.natAbs.gcd k)=((k/n.natAbs.gcd k:Nat):Int):=Int.one_mul _;rw[axM hg (Nat.gcd_dvd_left _ _),e2,l1,l2];refine⟨by omega,by omega,hg,by omega,by omega,hg,by omega,by omega,?_,.inl rfl,aac.refl _⟩;rcases Int.lt_trichotomy n 0 with h | h | h
  ·exact .inr (.inl (Int.sign_eq_neg_one_of_neg h))
  ·subst h;exact .inr (.inr (Nat.zero_div _))
  ·exact .inl (Int.sign_eq_one_of_pos h)
 ·cases h
def gQt:List (Nat × Run):=[(129,aaF att),(130,aaF azi),(110,aaF ayE),(131,aaF aqf)]
theorem ax0 (D:Prop):∀ p∈gQt,∀ B,aai Tryz.prog D B p.1 p.2:=aad (auP D) (aad (axO D) (aad (asI D) (aad (aol D) λp hp=>by cases hp)))
theorem aw9 (n d:Int):vc Tryz.prog (lk gQt) Tryz.f70.ntmps [] (Tryz.f70.body.getD .skip) ⟨aao [.s true [.v (.int .i64 n.sign),.m n.natAbs,.v (.int .i64 d.sign),.m d.natAbs]] 0,[]⟩ (aaH Tryz.prog Tryz.f70.results.toList (.s false [.v (.string (adc (Rat.divInt n d)))]))=(let k3:=AV.s false [aaa.v (Value.string (adc (Rat.divInt n d)))];let k6:=(9223372036854775807:Int);let k7:=d.natAbs;let k8:=d.sign;let k9:=(47:UInt8);let k0:=Rat.divInt (jv n.sign n.natAbs) (jv k8 k7);let k2:=jv (Rat.num k0).sign (Rat.num k0).natAbs;let k4:=(↑(Rat.den k0):Int);let k1:=jv k4.sign k4.natAbs;let k5:=abe k1 (jv (1:Int).sign 1) != (0:Int);JV n.sign n.natAbs/\JV k8 k7/\(0:Int)<jv k8 k7/\Dec.dg (jv n.sign n.natAbs).natAbs<=1000/\Dec.dg (jv k8 k7).natAbs<=1000/\JV (Rat.num k0).sign (Rat.num k0).natAbs/\Dec.dg k2.natAbs<=1000/\abB (1:Int)/\JV k4.sign k4.natAbs/\JV (1:Int).sign 1/\Dec.dg k1.natAbs<=1000000/\(k5=true->(↑(ByteArray.size (adg k2)+ByteArray.size { data:= #[k9] }):Int)<=k6/\JV k4.sign k4.natAbs/\Dec.dg k1.natAbs<=1000/\(↑(ByteArray.size (adg k2 ++ { data:= #[k9] })+ByteArray.size (adg k1)):Int)<=k6/\aac (AV.s false [aaa.v (Value.string (adg k2 ++ { data:= #[k9] } ++ adg k1))]) k3)/\(k5=false->aac (AV.s false [aaa.v (Value.string (adg k2))]) k3)):=by kernel_rfl
theorem ahs (x:Int):(adg x).size<=4*Dec.dg x.natAbs+2:=by
 have h:=aos x.natAbs;unfold adg;split
 ·rw[ByteArray.size_append,show ByteArray.size ⟨#[45]⟩=1 from rfl];omega
 ·omega
theorem awj {n d:Int} (hd:0<d):Dec.dg (Rat.divInt n d).num.natAbs<=Dec.dg n.natAbs/\Dec.dg (Rat.divInt n d).den<=Dec.dg d.natAbs:=by
 obtain⟨k,rfl⟩:=Int.eq_ofNat_of_zero_le (Int.le_of_lt hd);have hk:0<k:=by omega
 obtain⟨l1,l2⟩:=ase (n:=n) hk;rw[l1,l2,Int.natAbs_natCast];exact⟨Dec.dg_mono (Int.natAbs_ediv_le_natAbs _ _),Dec.dg_mono (Nat.div_le_self _ _)⟩
def ay3:abF
 |[.o (.s true [.v (.int .i64 s0),.m n0,.v (.int .i64 s1),.m n1])]=>some (.s false [.v (.string (adc (Rat.divInt (jv s0 n0) (jv s1 n1))))],[JV s0 n0,JV s1 n1,0<jv s1 n1,Dec.dg (jv s0 n0).natAbs<=1000,Dec.dg (jv s1 n1).natAbs<=1000])
 |_=>none
set_option maxRecDepth 100000 in
theorem axa (D:Prop) (B:Nat):aai Tryz.prog D B 70 (aaF ay3):=by
 refine aam (c:=Tryz.f70.body.getD .skip) (aau (ax0 D)) (by kernel_rfl) Tryz.func70 (by kernel_rfl) (by kernel_rfl) ?_ B;intro pvs av ps h hp;unfold ay3 at h;split at h
 ·rename_i s0 n0 s1 n1;cases h;obtain⟨hj0,hj1,hpos,hx,hy,_⟩:=hp;have q:=ai7 hj0 hj1;clear hj0 hj1;generalize jv s0 n0=n at *;generalize jv s1 n1=d at *;refine⟨[.s true [.v (.int .i64 n.sign),.m n.natAbs,.v (.int .i64 d.sign),.m d.natAbs]],[],aaj.cons (aac.cells q) aaj.nil,by rw[Tryz.ntmps70];simp,?_⟩;clear q;rw[aw9];simp only[agz,al8,true_and];obtain⟨dn,dd⟩:=awj (n:=n) hpos;have z1:=ahs (Rat.divInt n d).num;have z2:=ahs ((Rat.divInt n d).den:Int);rw[Int.natAbs_natCast] at z2;have e1:jv (Int.sign 1) 1=1:=agz 1;have es:ByteArray.size ⟨#[47]⟩=1:=rfl;rw[e1,aow,Int.natAbs_natCast];refine⟨hpos,hx,hy,by omega,by unfold abB;omega,am4 1,by omega,λh=>⟨by rw[es];omega,by omega,by rw[ByteArray.size_append,es];omega,?_⟩,λh=> ?_⟩
  ·have hne:¬ (Rat.divInt n d).den=1:=λe=>of_decide_eq_true h (by rw[e];rfl);unfold adc;rw[if_neg hne];exact aac.refl _
  ·have he:(Rat.divInt n d).den=1:=by
    have:=of_decide_eq_false h;omega
   unfold adc;rw[if_pos he];exact aac.refl _
 ·cases h
def gPt:List (Nat × Run):=[(70,aaF ay3)]
theorem ax3 (D:Prop):∀ p∈gPt,∀ B,aai Tryz.prog D B p.1 p.2:=aad (axa D) λp hp=>by cases hp
def rpv (a:Int) (b:Nat) (c:Int) (d:Nat) (e:Int) (f:Nat):Rp:=(jv a b,jv c d,jv e f)
structure JP (a:Int) (b:Nat) (c:Int) (d:Nat) (e:Int) (f:Nat):Prop where
 x:JV a b
 y:JV c d
 w:JV e f
theorem ail (p:Rp):rpv p.1.sign p.1.natAbs p.2.1.sign p.2.1.natAbs p.2.2.sign p.2.2.natAbs=p:=by
 unfold rpv;rw[agz,agz,agz]
theorem as3 (p:Rp):JP p.1.sign p.1.natAbs p.2.1.sign p.2.1.natAbs p.2.2.sign p.2.2.natAbs=True:=eq_true ⟨am4 _,am4 _,am4 _⟩
theorem aax {a:Int} {b:Nat} {c:Int} {d:Nat} {e:Int} {f:Nat} (h:JP a b c d e f):[aaa.v (.int .i64 a),.m b,.v (.int .i64 c),.m d,.v (.int .i64 e),.m f]=rpC (rpv a b c d e f):=by
 unfold rpC rpv;dsimp only;rw[aeL h.x,agM h.x,aeL h.y,agM h.y,aeL h.w,agM h.w]
structure SzR (p:Rp) (k:Nat):Prop where
 x:Dec.dg p.1.natAbs<=k
 y:Dec.dg p.2.1.natAbs<=k
 w:Dec.dg p.2.2.natAbs<=k
theorem aqQ (p:Rp):vc Tryz.prog (lk gPt) Tryz.f25.ntmps [] (Tryz.f25.body.getD .skip) ⟨aao [.s true [.v (.int .i64 p.1.sign),.m p.1.natAbs,.v (.int .i64 p.2.1.sign),.m p.2.1.natAbs,.v (.int .i64 p.2.2.sign),.m p.2.2.natAbs]] 0,[]⟩ (aaH Tryz.prog Tryz.f25.results.toList (.s false [.v (.string (ptT (toQ p)))]))=(let p0:=λ(Z:Prop)=>JV p.2.2.sign p.2.2.natAbs/\(0:Int)<jv p.2.2.sign p.2.2.natAbs/\Z;let p1:=λ(Z:Prop)=>Dec.dg (jv p.2.2.sign p.2.2.natAbs).natAbs<=1000/\Z;JV p.1.sign p.1.natAbs/\p0 (Dec.dg (jv p.1.sign p.1.natAbs).natAbs<=1000/\p1 ((↑(ByteArray.size (adc (Rat.divInt (jv p.1.sign p.1.natAbs) (jv p.2.2.sign p.2.2.natAbs)))+ByteArray.size { data:=#[(32:UInt8)] }):Int)<=(9223372036854775807:Int)/\JV p.2.1.sign p.2.1.natAbs/\p0 (Dec.dg (jv p.2.1.sign p.2.1.natAbs).natAbs<=1000/\p1 ((↑(ByteArray.size (adc (Rat.divInt (jv p.1.sign p.1.natAbs) (jv p.2.2.sign p.2.2.natAbs)) ++ { data:=#[(32:UInt8)] })+ByteArray.size (adc (Rat.divInt (jv p.2.1.sign p.2.1.natAbs) (jv p.2.2.sign p.2.2.natAbs)))):Int)<=(9223372036854775807:Int)/\aac (AV.s false [aaa.v (Value.string (adc (Rat.divInt (jv p.1.sign p.1.natAbs) (jv p.2.2.sign p.2.2.natAbs)) ++ { data:=#[(32:UInt8)] } ++ adc (Rat.divInt (jv p.2.1.sign p.2.1.natAbs) (jv p.2.2.sign p.2.2.natAbs))))]) (AV.s false [aaa.v (Value.string (ptT (Rat.divInt p.1 p.2.2,Rat.divInt p.2.1 p.2.2)))])))))):=by kernel_rfl
theorem an0 {n d:Int} (hd:0<d):(adc (Rat.divInt n d)).size<=4*Dec.dg n.natAbs+4*Dec.dg d.natAbs+5:=by
 obtain⟨dn,dd⟩:=awj (n:=n) hd;have z1:=ahs (Rat.divInt n d).num;have z2:=ahs ((Rat.divInt n d).den:Int);rw[Int.natAbs_natCast] at z2;unfold adc;split
 ·omega
 ·rw[ByteArray.size_append,ByteArray.size_append,show ByteArray.size ⟨#[47]⟩=1 from rfl];omega
def ann:abF
 |[.o (.s true [.v (.int .i64 a),.m b,.v (.int .i64 c),.m d,.v (.int .i64 e),.m f])]=>some (.s false [.v (.string (ptT (toQ (rpv a b c d e f))))],[JP a b c d e f,OkR (rpv a b c d e f),SzR (rpv a b c d e f) 1000])
 |_=>none
set_option maxRecDepth 100000 in
theorem aqR (D:Prop) (B:Nat):aai Tryz.prog D B 25 (aaF ann):=by
 refine aam (c:=Tryz.f25.body.getD .skip) (aau (ax3 D)) (by kernel_rfl) Tryz.func25 (by kernel_rfl) (by kernel_rfl) ?_ B;intro pvs av ps h hp;unfold ann at h;split at h
 ·rename_i a b c d e f;cases h;obtain⟨hj,ho,hs,_⟩:=hp;have q:=aax hj;clear hj;generalize rpv a b c d e f=p at *;refine⟨[.s true [.v (.int .i64 p.1.sign),.m p.1.natAbs,.v (.int .i64 p.2.1.sign),.m p.2.1.natAbs,.v (.int .i64 p.2.2.sign),.m p.2.2.natAbs]],[],aaj.cons (aac.cells q) aaj.nil,by rw[Tryz.ntmps25];simp,?_⟩;clear q;rw[aqQ];simp only[agz,al8,true_and];have ho:0<p.2.2:=ho;have r1:=an0 (n:=p.1) ho;have r2:=an0 (n:=p.2.1) ho;have h1:=hs.x;have h2:=hs.y;have h3:=hs.w;have es:ByteArray.size ⟨#[32]⟩=1:=rfl;exact⟨ho,h1,h3,by rw[es];omega,ho,h2,h3,by rw[ByteArray.size_append,es];omega,aac.refl _⟩
 ·cases h
end Go.Proofs.YtcmplpkmfbhpdaaGreat
