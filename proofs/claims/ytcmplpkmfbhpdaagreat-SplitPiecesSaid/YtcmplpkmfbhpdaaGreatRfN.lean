import Derived.Test.YtcmplpkmfbhpdaaGreatGC
import Derived.Test.YtcmplpkmfbhpdaaGreatGDec
import Derived.Test.YtcmplpkmfbhpdaaGreatGX
namespace Go.Proofs.YtcmplpkmfbhpdaaGreat
open Go Go.RowKit
def KI (w w':World):Prop:=∀ (g:Nat) (cs:Array Value),w.heap[g]? =some (Obj.cells cs 3 (0,0))->w'.heap[g]? =some (Obj.cells cs 3 (0,0))
theorem KI.refl (w:World):KI w w:=λ_ _ h=>h
theorem KI.trans {a b c:World} (h:KI a b) (k:KI b c):KI a c:=λg cs e=>k g cs (h g cs e)
theorem arp {w w':World} (hg:w.grownBy w' none):KI w w':=λg cs e=>(hg.block g (Array.getElem?_eq_some_iff.1 e).1 (by simp)).trans e
theorem asH {T:TypeId} {w:World} {g j:Nat} {cs:List Value} (hB:aak T w g cs) (hT:T≠3) (v:Value):KI w (w.setCell ⟨g,j,none⟩ v):=by
 intro b c e;have hne:b≠g:=by
  rintro rfl;unfold aak at hB;rw[hB] at e;injection e with e
  injection e with _ e2
  exact hT e2
 rw[Below.heap_setCell _ _ _ _ hne];exact e
end Go.Proofs.YtcmplpkmfbhpdaaGreat
namespace Go.Proofs.YtcmplpkmfbhpdaaGreat
open Go Go.RowKit
end Go.Proofs.YtcmplpkmfbhpdaaGreat
namespace Go.Proofs.YtcmplpkmfbhpdaaGreat
open Go Go.RowKit
structure aij (x y i:Nat) (o:List Nat) (c:Nat):Prop where
 len:o.length=i
 limb:Dec.Limb o
 cb:c<=1
 val:Dec.valL o+10000 ^ i*c=Dec.valL ((Dec.limbs x).take i)+Dec.valL ((Dec.limbs y).take i)
 top:i=0\/10000 ^ (i-1)<=x+y
theorem arm {o:List Nat} (h:Dec.Limb o) (s:Nat):Dec.Limb (o++[s%10000]):=Dec.limb_snoc h (Nat.mod_lt _ (by omega))
theorem aeQ {x i:Nat} (h:i<(Dec.limbs x).length):10000 ^ i<=x:=by
 rcases Nat.lt_or_ge x (10000 ^ i) with h1 | h1
 ·have:=(Dec.limbs_len x i).2 h1;omega
 ·exact h1
theorem aff {l:List Nat} {i:Nat} (h:¬ i<l.length):l.take (i+1)=l.take i:=by rw[List.take_of_length_le (by omega),List.take_of_length_le (by omega)]
theorem aeD {x y i c p q:Nat} {o:List Nat} (h:aij x y i o c) (hp:p<10000) (hq:q<10000) (e1:Dec.valL ((Dec.limbs x).take (i+1))=Dec.valL ((Dec.limbs x).take i)+10000 ^ i*p) (e2:Dec.valL ((Dec.limbs y).take (i+1))=Dec.valL ((Dec.limbs y).take i)+10000 ^ i*q) (ht:10000 ^ i<=x+y):aij x y (i+1) (o++[(c+p+q)%10000]) ((c+p+q)/10000):=by
 refine⟨by simp[h.len],arm h.limb _,by have:=h.cb;omega,?_,.inr (by simpa using ht)⟩;rw[Dec.val_snoc,h.len,e1,e2,Nat.pow_succ];have:=Dec.add_step (x:=p) (y:=q) h.val;omega
theorem apP {x y i c p q:Nat} {o:List Nat} (h:aij x y i o c) (hp:(Dec.limbs x)[i]? =some p) (hq:(Dec.limbs y)[i]? =some q) (hpb:p<10000) (hqb:q<10000):aij x y (i+1) (o++[(c+p+q)%10000]) ((c+p+q)/10000):=
 aeD h hpb hqb (Dec.val_take_succ hp) (Dec.val_take_succ hq) (by have:=aeQ (List.getElem?_eq_some_iff.1 hp).1;omega)
theorem apO {x y i c p:Nat} {o:List Nat} (h:aij x y i o c) (hp:(Dec.limbs x)[i]? =some p) (hl:¬ i<(Dec.limbs y).length) (hpb:p<10000):aij x y (i+1) (o++[(c+p)%10000]) ((c+p)/10000):=by
 have:=aeD (q:=0) h hpb (by omega) (Dec.val_take_succ hp) (by rw[aff hl];simp) (by have:=aeQ (List.getElem?_eq_some_iff.1 hp).1;omega);simpa using this
theorem amR {x y i c q:Nat} {o:List Nat} (h:aij x y i o c) (hl:¬ i<(Dec.limbs x).length) (hq:(Dec.limbs y)[i]? =some q) (hqb:q<10000):aij x y (i+1) (o++[(c+q)%10000]) ((c+q)/10000):=by
 have:=aeD (p:=0) h (by omega) hqb (by rw[aff hl];simp) (Dec.val_take_succ hq) (by have:=aeQ (List.getElem?_eq_some_iff.1 hq).1;omega);simpa using this
theorem ahh {x y i c:Nat} {o:List Nat} (h:aij x y i o c) (hl:¬ i<(Dec.limbs x).length) (hm:¬ i<(Dec.limbs y).length):Dec.valL o+10000 ^ i*c=x+y:=by
 have:=h.val;rwa [List.take_of_length_le (by omega),List.take_of_length_le (by omega),Dec.val_limbs,Dec.val_limbs] at this
theorem apN {x y i c:Nat} {o:List Nat} (h:aij x y i o c) (hl:¬ i<(Dec.limbs x).length) (hm:¬ i<(Dec.limbs y).length) (hc:0<c):aij x y (i+1) (o++[c%10000]) (c/10000):=by
 have hw:=ahh h hl hm;have h1:10000 ^ i<=10000 ^ i*c:=Nat.le_mul_of_pos_right _ hc;have:=aeD (p:=0) (q:=0) h (by omega) (by omega) (by rw[aff hl];simp) (by rw[aff hm];simp) (by omega);simpa using this
theorem ajp {o:List Nat} (h:Dec.Limb o) (ht:o.length=0\/10000 ^ (o.length-1)<=Dec.valL o):Dec.limbs (Dec.valL o)=o:=by
 have e:=Dec.cut_limbs h o.length (Nat.le_refl _) (λj hj x hx=>by rw[List.getElem?_eq_none hj] at hx;cases hx) ?_
 ·rw[List.take_length] at e;exact e.symm
 ·rcases ht with h0 | h0
  ·exact .inl h0
  ·right;intro hz;have hpos:0<o.length:=by
    have:=(List.getElem?_eq_some_iff.1 hz).1;omega
   have h1:=Dec.val_take_succ hz;rw[show o.length-1+1=o.length by omega,List.take_length] at h1;have h2:=Dec.val_lt (l:=o.take (o.length-1)) (λx hx=>h x (List.mem_of_mem_take hx));rw[List.length_take,Nat.min_eq_left (by omega)] at h2;omega
theorem arX {x y i c:Nat} {o:List Nat} (h:aij x y i o c) (hl:¬ i<(Dec.limbs x).length) (hm:¬ i<(Dec.limbs y).length) (hc:¬ 0<c):Dec.limbs (x+y)=o:=by
 have hw:=ahh h hl hm;obtain rfl:c=0:=by omega
 rw[Nat.mul_zero,Nat.add_zero] at hw;have:=ajp h.limb (by rw[h.len,hw];exact h.top);rwa [hw] at this
theorem arW {x y i c:Nat} {o:List Nat} (h:aij x y i o c):i<=(Dec.limbs x).length+(Dec.limbs y).length+1:=by
 rcases h.top with h0 | h0
 ·omega
 ·have h1:=(Dec.limbs_len x (Dec.limbs x).length).1 (Nat.le_refl _);have h2:=(Dec.limbs_len y (Dec.limbs y).length).1 (Nat.le_refl _);rcases Nat.lt_or_ge ((Dec.limbs x).length+(Dec.limbs y).length+1) i with h3 | h3
  ·exfalso;have h4:10000 ^ ((Dec.limbs x).length+(Dec.limbs y).length+1)<=10000 ^ (i-1):=Nat.pow_le_pow_right (by omega) (by omega);rw[Nat.pow_succ,Nat.pow_add] at h4;have h5:10000 ^ (Dec.limbs x).length<=10000 ^ (Dec.limbs x).length*10000 ^ (Dec.limbs y).length:=Nat.le_mul_of_pos_right _ (Nat.pow_pos (by omega));have h6:10000 ^ (Dec.limbs y).length<=10000 ^ (Dec.limbs x).length*10000 ^ (Dec.limbs y).length:=Nat.le_mul_of_pos_left _ (Nat.pow_pos (by omega));omega
  ·exact h3
end Go.Proofs.YtcmplpkmfbhpdaaGreat
namespace Go.Proofs.YtcmplpkmfbhpdaaGreat
open Go Go.RowKit
end Go.Proofs.YtcmplpkmfbhpdaaGreat
namespace Go.Proofs.YtcmplpkmfbhpdaaGreat
open Go Go.RowKit
end Go.Proofs.YtcmplpkmfbhpdaaGreat
namespace Go.Proofs.YtcmplpkmfbhpdaaGreat
open Go Go.RowKit
def KK (w w':World):Prop:=aaR w w'/\KI w w'
theorem KK.refl (w:World):KK w w:=⟨aaR.refl w,KI.refl w⟩
theorem KK.trans {a b c:World} (h:KK a b) (k:KK b c):KK a c:=⟨h.1.trans k.1,h.2.trans k.2⟩
theorem ahX {w w':World} (hg:w.grownBy w' none):KK w w':=⟨aaC hg,arp hg⟩
theorem adC {w w':World} (h:Below w.heap.size w w'):KK w w':=ahX (aar h none)
inductive PtK (K:World->World->Prop) where
 |any
 |is (v:Value)
 |p (S:World->Value->Prop) (h:∀ w w' v,K w w'->S w v->S w' v)
def PtK.ok {K:World->World->Prop} (w:World):PtK K->Value->Prop
 | .any,_=>True
 | .is v,u=>u=v
 | .p S _,u=>S w u
theorem PtK.ok.keep {K:World->World->Prop} {w w':World} (k:K w w'):∀ {p:PtK K} {v:Value},p.ok w v->p.ok w' v
 | .any,_,_=>trivial
 | .is _,_,h=>h
 | .p _ hk,_,h=>hk _ _ _ k h
theorem kkz {z:Int} (w w':World) (v:Value) (k:KK w w') (h:ZIs w v z):ZIs w' v z:=h.keep k.1
theorem kkr {q:Rat} (w w':World) (v:Value) (k:KK w w') (h:RIs w v q):RIs w' v q:=h.keep k.1
theorem ao1 {P:Program} {id:Nat} {ops:List Oper} {m:Nat} {a0:Act} {w0:World} {Q:Exit->Act->World->Prop} (hx:P.follows .mixedOrders=true) (hp:apT m ops=true) (hm:a0.tmps.size=m)
  (K:World->World->Prop) (s:Nat->PtK K) (J:(Nat->Bool)->Act->World->Prop) (hJ:∀ f g a w,(∀ j,j<ops.length->f j=g j)->J f a w->J g a w) (h0:J (λ_=>false) a0 w0.drew)
  (hstep:∀ i o f a w,ops[i]? =some o->J f a w->f i=false->
   (∀ j p d,ops[j]? =some p->(o.after.any λe=>Region.binds .any e && e.on == j)=true->p.dst=some d->(s j).ok w (a.tmps.getD d undef))->
   (∀ j,(o.after.any λe=>Region.binds .any e && e.on == j)=true->f j=true)->
   (∀ k p j,ops[k]? =some p->f k=true->(p.after.any λe=>Region.binds .any e && e.on == j)=true->f j=true)->
   (∀ t,(∀ p∈ops,p.dst≠some t)->a.tmps.getD t undef=a0.tmps.getD t undef)->
   a.tmps.size=a0.tmps.size->
   acF P o a w (λv w'=>K w w'/\J (upd f i) (a.put o.dst v) w'/\(s i).ok w' v))
  (hend:∀ (vs:Nat->Value) w,J (λ_=>true) (aaK ops vs a0) w->(∀ j p d,ops[j]? =some p->p.dst=some d->(s j).ok w (vs d))->Q .normal (aaK ops vs a0) w) :
  (Code.region id ops.toArray true).wp P Q a0 w0:=by
 refine agX hx hp hm J (λi v w=>(s i).ok w v) hJ h0 ?_ hend;intro i o f a w hi hW hf hdep hS hcl hfr hsz;have hany:∀ (p:Oper) j,(∀ e∈p.after,Region.binds .any e=true->f e.on=true)->(p.after.any λe=>Region.binds .any e && e.on == j)=true->f j=true:=by
  intro p j h hj;rw[Array.any_eq_true'] at hj;obtain⟨e,he,hb⟩:=hj;simp only[Bool.and_eq_true,beq_iff_eq] at hb;rw[<- hb.2];exact h e he hb.1
 intro Q';refine Oper.wp_mono ?_ (hstep i o f a w hi hW hf (λj p d hp hj hd=>hS j p d hp (hany o j hdep hj) hd) (λj hj=>hany o j hdep hj) (λk p j hk hfk hj=>hany p j (hcl k p hk hfk) hj) hfr hsz Q');rintro a' w' ⟨v,rfl,hk,hj,hv⟩;exact⟨v,rfl,λ_ _ h=>PtK.ok.keep hk h,hj,hv⟩
structure TgK where
 d:Nat
 ia:Option Nat
 st:Nat
 T:TypeId
 K:Bool->World->List Value->Prop
 kk:∀ (c:Bool) (w w':World) (cs:List Value),KK w w'->K c w cs->K c w' cs
def TgK.there (t:TgK) (f:Nat->Bool):Prop:=∀ i,t.ia=some i->f i=true
structure MK (B:Nat) (w0 wk:World) (bx:List (TypeId × Nat × List Value)) (tg:List TgK) (f:Nat->Bool) (a:Act) (w:World):Prop where
 b:Below B w0 w
 k:KK wk w
 hs:B<=w.heap.size
 kept:∀ x:TypeId × Nat × List Value,x∈bx->aak x.1 w x.2.1 x.2.2
 at':∀ t:TgK,t∈tg->t.there f->∃ g cs,a.tmps.getD t.d undef= .pointer (some ⟨g,0,none⟩)/\B<=g/\aak t.T w g cs/\t.K (f t.st) w cs/\∀ x:TypeId × Nat × List Value,x∈bx->x.2.1≠g
 ne:∀ t u:TgK,t∈tg->u∈tg->t.d≠u.d->t.there f->u.there f->a.tmps.getD t.d undef≠a.tmps.getD u.d undef
section
variable {B:Nat} {w0 wk:World} {bx:List (TypeId × Nat × List Value)} {tg:List TgK} {f:Nat->Bool} {a:Act} {w:World}
theorem acg {t:TgK} {i:Nat} (h:t.ia≠some i):t.there (upd f i)↔t.there f:=by
 unfold TgK.there upd;constructor
 ·intro g j hj;have:=g j hj;rwa [if_neg (by rintro rfl;exact h hj)] at this
 ·intro g j hj;rw[if_neg (by rintro rfl;exact h hj)];exact g j hj
theorem MK.ext {g:Nat->Bool} {n:Nat} (hn:∀ t,t∈tg->t.st<n/\∀ i,t.ia=some i->i<n) (e:∀ j,j<n->f j=g j) (h:MK B w0 wk bx tg f a w):MK B w0 wk bx tg g a w:=by
 have ht:∀ t,t∈tg->(t.there g↔t.there f):=λt ht=>by
  unfold TgK.there;constructor
  ·intro k i hi;rw[e i ((hn t ht).2 i hi)];exact k i hi
  ·intro k i hi;rw[<- e i ((hn t ht).2 i hi)];exact k i hi
 refine⟨h.b,h.k,h.hs,h.kept,λt hm hth=> ?_,λt u h1 h2 hd c1 c2=>h.ne t u h1 h2 hd ((ht t h1).1 c1) ((ht u h2).1 c2)⟩;rw[<- e t.st (hn t hm).1];exact h.at' t hm ((ht t hm).1 hth)
theorem MK.gr (h:MK B w0 wk bx tg f a w) {w':World} (hb:Below w.heap.size w w') (i:Nat) (o:Option Nat) (v:Value)
  (hc:∀ t,t∈tg->o≠some t.d/\t.ia≠some i/\t.st≠i):MK B w0 wk bx tg (upd f i) (a.put o v) w':=by
 have hg:=aar hb none;refine⟨h.b.trans (hb.mono h.hs),h.k.trans (ahX hg),Nat.le_trans h.hs hb.size,λx hx=>(h.kept x hx).still hg,λt hm hth=> ?_,λt u h1 h2 hd c1 c2=> ?_⟩
 ·obtain⟨c1,c2,c3⟩:=hc t hm;obtain⟨g,cs,k1,k2,k3,k4,k5⟩:=h.at' t hm ((acg c2).1 hth);refine⟨g,cs,by rw[abS v c1];exact k1,k2,k3.still hg,?_,k5⟩;have e:upd f i t.st=f t.st:=by unfold upd;rw[if_neg c3]
  rw[e];exact t.kk _ _ _ _ (ahX hg) k4
 ·obtain⟨d1,d2,d3⟩:=hc t h1;obtain⟨e1,e2,e3⟩:=hc u h2;rw[abS v d1,abS v e1];exact h.ne t u h1 h2 hd ((acg d2).1 c1) ((acg e2).1 c2)
theorem MK.same (h:MK B w0 wk bx tg f a w) (i:Nat) (o:Option Nat) (v:Value)
  (hc:∀ t,t∈tg->o≠some t.d/\t.ia≠some i/\t.st≠i):MK B w0 wk bx tg (upd f i) (a.put o v) w:=
 h.gr (Below.refl _ _) i o v hc
theorem MK.ahead (h:MK B w0 wk bx tg f a w) {t0:TgK} (hm0:t0∈tg) (hth:t0.there f) (hf:f t0.st=false):∃ g cs,a.tmps.getD t0.d undef= .pointer (some ⟨g,0,none⟩)/\aak t0.T w g cs/\t0.K false w cs:=by
 obtain⟨g,cs,k1,k2,k3,k4,k5⟩:=h.at' t0 hm0 hth;rw[hf] at k4;exact⟨g,cs,k1,k3,k4⟩
theorem MK.put (h:MK B w0 wk bx tg f a w) {t0:TgK} {w':World} {g:Nat} {cs:List Value} (i:Nat) (v:Value) (hm0:t0∈tg) (hth:t0.there f) (hi:t0.st=i) (hp:a.tmps.getD t0.d undef= .pointer (some ⟨g,0,none⟩))
  (hgr:w.grownBy w' (some g)) (hk:KK w w') (hB:aak t0.T w' g cs) (hK1:t0.K true w' cs)
  (hc:∀ t,t∈tg->t=t0\/(t.d≠t0.d/\t.st≠i)) (hia:∀ t,t∈tg->t.ia≠some i):MK B w0 wk bx tg (upd f i) (a.put none v) w':=by
 obtain⟨g0,cs0,k1,k2,k3,k4,k5⟩:=h.at' t0 hm0 hth;have eg:g0=g:=by
  rw[hp] at k1;injection k1 with e
  injection e with e
  injection e with e
  exact e.symm
 subst eg;refine⟨h.b.grown hgr h.hs (λq hq=>by cases hq;exact k2),h.k.trans hk,Nat.le_trans h.hs hgr.size,λx hx=>(h.kept x hx).grown hgr (λe=>k5 x hx (Option.some.inj e)),λt hm ht=> ?_,λt u h1 h2 hd c1 c2=>h.ne t u h1 h2 hd ((acg (hia t h1)).1 c1) ((acg (hia u h2)).1 c2)⟩;rcases Classical.em (t=t0) with rfl | hn
 ·refine⟨g0,cs,hp,k2,hB,?_,k5⟩;have e:upd f i t.st=true:=by unfold upd;rw[if_pos hi]
  rw[e];exact hK1
 ·obtain⟨c1,c2⟩:=(hc t hm).resolve_left hn;have ht':=(acg (hia t hm)).1 ht;obtain⟨g1,cs1,j1,j2,j3,j4,j5⟩:=h.at' t hm ht';have hne:=h.ne t t0 hm hm0 c1 ht' hth;rw[j1,hp] at hne;refine⟨g1,cs1,j1,j2,j3.grown hgr (λe=>hne (by cases e;rfl)),?_,j5⟩;have e:upd f i t.st=f t.st:=by unfold upd;rw[if_neg c2]
  rw[e];exact t.kk _ _ _ _ hk j4
end
def KT (n:Nat) (S:World->Value->Prop):Bool->World->List Value->Prop
 |false,_,cs=>cs.length=n
 |true,w,cs=>S w (.agg cs.toArray)
abbrev tgK (d:Nat) (ia:Option Nat) (st:Nat) (T:TypeId) (n:Nat) (S:World->Value->Prop) (hS:∀ w w' v,KK w w'->S w v->S w' v):TgK:=⟨d,ia,st,T,KT n S,λc _ _ _ k h=>by
 cases c with
 |false=>exact h
 |true=>exact hS _ _ _ k h⟩
theorem aAJ {cs:List Value} (h:cs.length=4):∃ a b c d,cs=[a,b,c,d]:=by
 match cs,h with
 |[a,b,c,d],_=>exact⟨a,b,c,d,rfl⟩
structure StK (T:TypeId) (w:World) (g:Nat) (w':World) (cs:List Value):Prop where
 gr:w.grownBy w' (some g)
 kk:KK w w'
 bb:aak T w' g cs
theorem StK.more {T:TypeId} {w w':World} {g:Nat} {cs:List Value} (s:StK T w g w' cs) (hT:T≠213 /\T≠3) (j:Nat) (c:Value):StK T w g (w'.setCell ⟨g,j,none⟩ c) (cs.set j c):=
 ⟨abk s.gr (aaU _ _ _),s.kk.trans ⟨aaL s.bb hT.1 _,asH s.bb hT.2 _⟩,s.bb.set j c⟩
theorem StK.one {T:TypeId} {w:World} {g:Nat} {cs:List Value} (h:aak T w g cs) (hT:T≠213 /\T≠3) (j:Nat) (c:Value):StK T w g (w.setCell ⟨g,j,none⟩ c) (cs.set j c):=
 ⟨aaU _ _ _,⟨aaL h hT.1 _,asH h hT.2 _⟩,h.set j c⟩
end Go.Proofs.YtcmplpkmfbhpdaaGreat
