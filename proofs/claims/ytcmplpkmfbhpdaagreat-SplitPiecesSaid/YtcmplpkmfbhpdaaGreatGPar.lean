import Derived.Orders
import Derived.WalkKit
namespace Go.Proofs.YtcmplpkmfbhpdaaGreat
open Go Go.RowKit
def upd (f:Nat->Bool) (i:Nat):Nat->Bool:=λj=>if j=i then true else f j
def apT (m:Nat) (ops:List Oper):Bool:=
 (List.range ops.length).all λi=>match ops[i]? with
  |none=>true
  |some o=>o.guard.isNone && o.after.all (λe=> !Region.binds .any e || decide (e.on<i)) &&
   (match o.dst with | none=>true | some d=>decide (d<m) && (List.range ops.length).all λj=>j == i || (ops[j]?).bind (·.dst) != some d)
def acF (P:Program) (o:Oper) (a:Act) (w:World) (K:Value->World->Prop):Prop:=
 ∀ Q:Exit->Act->World->Prop,o.wp P a w (λa' w'=>∃ v,a'=a.put o.dst v/\K v w') Q
def aaK (l:List Oper) (vs:Nat->Value) (a:Act):Act:=l.foldl (λa o=>match o.dst with | some t=>a.put (some t) (vs t) | none=>a) a
theorem ahM {m:Nat} {ops:List Oper} (h:apT m ops=true) {i:Nat} {o:Oper} (hi:ops[i]? =some o) :
  o.guard=none/\(∀ e∈o.after,Region.binds .any e=true->e.on<i)/\∀ d,o.dst=some d->d<m/\∀ j p,ops[j]? =some p->p.dst=some d->j=i:=by
 have hil:i<ops.length:=(List.getElem?_eq_some_iff.1 hi).1;unfold apT at h;rw[List.all_eq_true] at h;have h1:=h i (List.mem_range.2 hil);simp only[hi,Bool.and_eq_true] at h1;obtain⟨⟨h2,h3⟩,h4⟩:=h1;refine⟨by simpa using h2,λe he hb=> ?_,λd hd=> ?_⟩
 ·rw[Array.all_eq_true'] at h3;have:=h3 e he;simp only[hb,Bool.not_true,Bool.false_or,decide_eq_true_eq] at this;exact this
 ·simp only[hd,Bool.and_eq_true,decide_eq_true_eq] at h4;refine⟨h4.1,λj p hj hp=> ?_⟩;have hjl:j<ops.length:=(List.getElem?_eq_some_iff.1 hj).1;have h5:=List.all_eq_true.1 h4.2 j (List.mem_range.2 hjl);simp only[hj,Option.bind_some,hp,bne_self_eq_false,Bool.or_false,beq_iff_eq] at h5;exact h5
theorem acP {ops:List Oper} {listed:Array Bool} {i:Nat} (h:i∈Region.ready .any ops.toArray listed) :
  listed.getD i true=false/\∃ o,ops[i]? =some o/\∀ e∈o.after,Region.binds .any e=true->listed.getD e.on false=true:=by
 unfold Region.ready at h;rw[List.mem_filter] at h;obtain⟨h1,h2⟩:=h;simp only[List.size_toArray,List.mem_range] at h1;have ho:ops[i]? =some ops[i]:=List.getElem?_eq_getElem h1;have ho2:ops.toArray[i]? =some ops[i]:=by simp[ho]
 simp only[ho2,Option.map_some,Option.getD_some,Bool.and_eq_true,Bool.not_eq_true'] at h2;refine⟨h2.1,_,ho,λe he hb=> ?_⟩;have:=(Array.all_eq_true'.1 h2.2) e he;simpa[hb] using this
theorem aiH {m:Nat} {ops:List Oper} (hp:apT m ops=true) {listed:Array Bool} (hs:listed.size=ops.length) (h:Region.ready .any ops.toArray listed=[]):∀ i,i<ops.length->listed.getD i false=true:=by
 intro i;induction i using Nat.strongRecOn with
 |ind i ih=>
  intro hi;cases hl:listed.getD i false with
  |true=>rfl
  |false=>
   exfalso;have ho:ops[i]? =some ops[i]:=List.getElem?_eq_getElem hi;have hm:i∈Region.ready .any ops.toArray listed:=by
    unfold Region.ready;rw[List.mem_filter];refine⟨by simpa using hi,?_⟩;have ho2:ops.toArray[i]? =some ops[i]:=by simp[ho]
    simp only[ho2,Option.map_some,Option.getD_some,Bool.and_eq_true,Bool.not_eq_true'];refine⟨?_,?_⟩
    ·have e:listed[i]? =some (listed[i]'(by omega)):=Array.getElem?_eq_getElem (by omega);simp only[Array.getD_eq_getD_getElem?,e,Option.getD_some] at hl ⊢;exact hl
    ·rw[Array.all_eq_true'];intro e he;cases hb:Region.binds .any e with
     |false=>rfl
     |true=>
      have h1:=(ahM hp ho).2.1 e he hb;simp[ih e.on h1 (by omega)]
   rw[h] at hm;cases hm
def PJ (ops:List Oper) (W:(Nat->Bool)->World->Prop) (S:Nat->Value->World->Prop) (a0:Act) (listed:Array Bool) (a:Act) (w:World):Prop:=
 listed.size=ops.length/\W (λj=>listed.getD j false) w/\a.defers=a0.defers/\a.tmps.size=a0.tmps.size/\
  (∀ t,(∀ j o,ops[j]? =some o->listed.getD j false=true->o.dst≠some t)->a.tmps[t]? =a0.tmps[t]?)/\
  (∀ j o d,ops[j]? =some o->listed.getD j false=true->o.dst=some d->S j (a.tmps.getD d undef) w)
theorem aja (vs:Nat->Value):∀ (l:List Oper) (a:Act),(aaK l vs a).defers=a.defers/\(aaK l vs a).tmps.size=a.tmps.size/\
  ∀ t,(aaK l vs a).tmps[t]? =if (∃ o∈l,o.dst=some t)/\t<a.tmps.size then some (vs t) else a.tmps[t]? :=by
 intro l;induction l with
 |nil=>intro a;refine⟨rfl,rfl,λt=> ?_⟩;rw[if_neg (by simp)];rfl
 |cons o r ih=>
  intro a;unfold aaK at ih ⊢;rw[List.foldl_cons];cases ho:o.dst with
  |none=>
   obtain⟨h1,h2,h3⟩:=ih a;refine⟨h1,h2,λt=> ?_⟩;simp only[h3 t,List.mem_cons,exists_eq_or_imp,ho,reduceCtorEq,false_or]
  |some d=>
   obtain⟨h1,h2,h3⟩:=ih (a.put (some d) (vs d));simp only[Act.put] at h1 h2 h3 ⊢;refine⟨h1,by rw[h2];simp,λt=> ?_⟩;rw[h3 t];simp only[List.mem_cons,exists_eq_or_imp,ho,Option.some.injEq,Array.size_setIfInBounds];by_cases hr:(∃ p∈r,p.dst=some t)/\t<a.tmps.size
   ·rw[if_pos hr,if_pos ⟨.inr hr.1,hr.2⟩]
   ·rw[if_neg hr,Array.getElem?_setIfInBounds];by_cases hd:d=t
    ·subst hd;by_cases hs:d<a.tmps.size
     ·simp[hs]
     ·simp[hs]
    ·rw[if_neg hd,if_neg (λh=>hr ⟨h.1.resolve_left hd,h.2⟩)]
theorem count_set {l:Array Bool} {i:Nat} (h:l.getD i true=false):(l.setIfInBounds i true).toList.count false+1=l.toList.count false:=by
 have hi:i<l.size:=by
  rcases Nat.lt_or_ge i l.size with h' | h'
  ·exact h'
  ·simp[Array.getD_eq_getD_getElem?,Array.getElem?_eq_none h'] at h
 have e:l[i]=false:=by
  have:l[i]? =some l[i]:=Array.getElem?_eq_getElem hi;simpa[Array.getD_eq_getD_getElem?,this] using h
 rw[Array.toList_setIfInBounds,List.count_set (by simpa using hi)];have hm:0<l.toList.count false:=List.count_pos_iff.2 (by rw[<- e];simp);rw[Array.getElem_toList,e];rw[if_neg (show ¬ ((true == false)=true) by decide)];simp only[beq_self_eq_true,if_true];omega
theorem adI {P:Program} {o:Oper} {a:Act} {w:World} {K:Value->World->Prop} {N:Act->World->Prop} {Q:Exit->Act->World->Prop} (h:acF P o a w K) (hk:∀ v w',K v w'->N (a.put o.dst v) w'):o.wp P a w N Q:=
 Oper.wp_mono (λ_ _ ⟨v,e,h1⟩=>e ▸ hk v _ h1) (h Q)
theorem auv {P:Program} {ops:List Oper} {m:Nat} {a0:Act} {Q:Exit->Act->World->Prop} (hp:apT m ops=true) (hm:a0.tmps.size=m)
  (W:(Nat->Bool)->World->Prop) (S:Nat->Value->World->Prop)
  (hW:∀ f g w,(∀ j,j<ops.length->f j=g j)->W f w->W g w)
  (hstep:∀ i o f a w,ops[i]? =some o->W f w->f i=false->(∀ e∈o.after,Region.binds .any e=true->f e.on=true)->
   (∀ j p d,ops[j]? =some p->f j=true->p.dst=some d->S j (a.tmps.getD d undef) w)->
   (∀ t,(∀ p∈ops,p.dst≠some t)->a.tmps.getD t undef=a0.tmps.getD t undef)->
   acF P o a w (λv w'=>(∀ j u,S j u w->S j u w')/\W (upd f i) w'/\S i v w'))
  (hend:∀ (vs:Nat->Value) w,W (λ_=>true) w->(∀ j p d,ops[j]? =some p->p.dst=some d->S j (vs d) w)->Q .normal (aaK ops vs a0) w) :
  ∀ (fuel:Nat) (listed:Array Bool) (a:Act) (w:World),listed.toList.count false<=fuel->PJ ops W S a0 listed a w->wpAny P .any ops.toArray Q fuel listed a w:=by
 have fin:∀ listed a w,PJ ops W S a0 listed a w->Region.ready .any ops.toArray listed=[]->Q .normal a w:=by
  intro listed a w ⟨j1,j2,j3,j4,j5,j6⟩ hr;have hall:=aiH hp j1 hr;have e:a=aaK ops (λt=>a.tmps.getD t undef) a0:=by
   obtain⟨p1,p2,p3⟩:=aja (λt=>a.tmps.getD t undef) ops a0;have et:a.tmps=(aaK ops (λt=>a.tmps.getD t undef) a0).tmps:=by
    apply Array.ext_getElem?;intro t;rw[p3 t];by_cases hc:(∃ o∈ops,o.dst=some t)/\t<a0.tmps.size
    ·rw[if_pos hc];have:t<a.tmps.size:=by rw[j4];exact hc.2
     simp[Array.getD_eq_getD_getElem?,Array.getElem?_eq_getElem this]
    ·rw[if_neg hc];by_cases ht:t<a0.tmps.size
     ·exact j5 t (λj o ho _ hd=>hc ⟨⟨o,List.mem_of_getElem? ho,hd⟩,ht⟩)
     ·rw[Array.getElem?_eq_none (by omega),Array.getElem?_eq_none (by omega)]
   calc a=⟨a.tmps,a.defers⟩:=rfl
    _=⟨(aaK ops (λt=>a.tmps.getD t undef) a0).tmps,(aaK ops (λt=>a.tmps.getD t undef) a0).defers⟩:=by rw[<- et,p1,j3]
    _=_:=rfl
  rw[e];refine hend _ w (hW _ _ w (λj hj=>hall j hj) j2) (λj p d hj hd=> ?_);have hjl:j<ops.length:=(List.getElem?_eq_some_iff.1 hj).1;exact j6 j p d hj (hall j hjl) hd
 intro fuel;induction fuel with
 |zero=>
  intro listed a w hc hJ;have hr:Region.ready .any ops.toArray listed=[]:=by
   apply List.eq_nil_iff_forall_not_mem.2;intro i hi;have h1:=(acP hi).1;have:=count_set h1;omega
  exact⟨hr,fin _ _ _ hJ hr⟩
 |succ fuel ih=>
  intro listed a w hc hJ;refine⟨fin _ _ _ hJ,λi hi=> ?_⟩;obtain⟨h1,o,ho,hdep⟩:=acP hi;obtain⟨j1,j2,j3,j4,j5,j6⟩:=hJ;obtain⟨hg,_,hdst⟩:=ahM hp ho;have hil:i<listed.size:=by rw[j1];exact (List.getElem?_eq_some_iff.1 ho).1
  have hf:listed.getD i false=false:=by
   simp only[Array.getD_eq_getD_getElem?,Array.getElem?_eq_getElem hil,Option.getD_some] at h1 ⊢;exact h1
  have hfr:∀ t,(∀ p∈ops,p.dst≠some t)->a.tmps.getD t undef=a0.tmps.getD t undef:=λt ht=>by
   simp only[Array.getD_eq_getD_getElem?,j5 t (λj o ho _=>ht o (List.mem_of_getElem? ho))]
  have hok:=hstep i o _ a w ho j2 hf hdep j6 hfr;unfold wpOp;have ho2:ops.toArray[i]? =some o:=by simpa using ho
  simp only[ho2];have hw:Region.wanted o (yielded ops.toArray a.tmps)=true:=by simp[Region.wanted,hg]
  rw[if_pos hw];refine .inl (adI hok ?_);intro v w' ⟨hmono,hW',hS'⟩;have hget:∀ j,(listed.setIfInBounds i true).getD j false=upd (λj=>listed.getD j false) i j:=λj=>by
   unfold upd;simp only[Array.getD_eq_getD_getElem?,Array.getElem?_setIfInBounds];by_cases hij:i=j
   ·subst hij;simp[hil]
   ·rw[if_neg hij,if_neg (Ne.symm hij)]
  refine ih _ _ _ (by have:=count_set h1;omega) ⟨by simp[j1],?_,?_,?_,?_,?_⟩
  ·exact hW _ _ w' (λj _=>(hget j).symm) hW'
  ·cases hd:o.dst<;>simp[Act.put,j3]
  ·cases hd:o.dst<;>simp[Act.put,j4]
  ·intro t ht;cases hd:o.dst with
   |none=>exact j5 t (λj p hj hl=>ht j p hj (by rw[hget];unfold upd;split<;>first | rfl | exact hl))
   |some d=>
    have hne:d≠t:=by
     rintro rfl;exact ht i o ho (by rw[hget];simp[upd]) hd
    simp only[Act.put,Array.getElem?_setIfInBounds,if_neg hne];exact j5 t (λj p hj hl=>ht j p hj (by rw[hget];unfold upd;split<;>first | rfl | exact hl))
  ·intro j p d hj hl hd;by_cases hij:j=i
   ·subst hij;rw[ho] at hj;cases hj;have hdm:=(hdst d hd).1;simp only[hd,Act.put,Array.getD_eq_getD_getElem?,Array.getElem?_setIfInBounds,if_pos,j4,hm,hdm,Option.getD_some];exact hS'
   ·have hl2:listed.getD j false=true:=by rw[hget] at hl;unfold upd at hl;rwa [if_neg hij] at hl
    have h3:=hmono _ _ (j6 j p d hj hl2 hd);cases hd2:o.dst with
    |none=>exact h3
    |some d2=>
     have hne:d2≠d:=by
      rintro rfl;exact hij ((hdst d2 hd2).2 j p hj hd)
     simp only[Act.put,Array.getD_eq_getD_getElem?,Array.getElem?_setIfInBounds,if_neg hne];simpa[Array.getD_eq_getD_getElem?] using h3
theorem ams {P:Program} {id:Nat} {ops:List Oper} {m:Nat} {a0:Act} {w0:World} {Q:Exit->Act->World->Prop} (hx:P.follows .mixedOrders=true) (hp:apT m ops=true) (hm:a0.tmps.size=m)
  (W:(Nat->Bool)->World->Prop) (S:Nat->Value->World->Prop)
  (hW:∀ f g w,(∀ j,j<ops.length->f j=g j)->W f w->W g w) (h0:W (λ_=>false) w0.drew)
  (hstep:∀ i o f a w,ops[i]? =some o->W f w->f i=false->(∀ e∈o.after,Region.binds .any e=true->f e.on=true)->
   (∀ j p d,ops[j]? =some p->f j=true->p.dst=some d->S j (a.tmps.getD d undef) w)->
   (∀ t,(∀ p∈ops,p.dst≠some t)->a.tmps.getD t undef=a0.tmps.getD t undef)->
   acF P o a w (λv w'=>(∀ j u,S j u w->S j u w')/\W (upd f i) w'/\S i v w'))
  (hend:∀ (vs:Nat->Value) w,W (λ_=>true) w->(∀ j p d,ops[j]? =some p->p.dst=some d->S j (vs d) w)->Q .normal (aaK ops vs a0) w) :
  (Code.region id ops.toArray true).wp P Q a0 w0:=by
 refine wp_region_any hx ?_;refine auv hp hm W S hW hstep hend _ _ _ _ (by simp) ⟨by simp,?_,rfl,rfl,λ_ _=>rfl,?_⟩
 ·refine hW _ _ _ (λj hj=> ?_) h0;simp[Array.getD_eq_getD_getElem?,hj]
 ·intro j o d hj hl;have hjl:j<ops.length:=(List.getElem?_eq_some_iff.1 hj).1;simp[Array.getD_eq_getD_getElem?,hjl] at hl
end Go.Proofs.YtcmplpkmfbhpdaaGreat
