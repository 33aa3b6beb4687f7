import Derived.Test.YtcmplpkmfbhpdaaGreatSyB
namespace Go.Proofs.YtcmplpkmfbhpdaaGreat
open Go Go.RowKit
structure aah where
  slots:List (Nat × AV)
  blks:List (Nat × aae)
def aah.fs (s:aah):FS:=⟨lk s.slots,lk s.blks⟩
def er {α:Type} : List (Nat × α)->Nat->List (Nat × α)
  |[],_=>[]
  |(k',x)::l,k=>match Nat.beq k' k with
    |true=>er l k
    |false=>(k',x)::er l k
def erL {α:Type} : List Nat->List (Nat × α)->List (Nat × α)
  |[],l=>l
  |k::ks,l=>erL ks (er l k)
def aah.app (s:aah) (r:Rec):aah:=
  ⟨match r.dst with
    |some t=>match r.val with
      |some av=>(t,av)::er s.slots t
      |none=>er s.slots t
    |none=>s.slots,
   r.set++erL r.del (erL (r.set.map (·.1)) s.blks)⟩
theorem abI {a b:Nat} (h:a≠b):Nat.beq a b=false:=by
  cases hb:Nat.beq a b with
  |false=>rfl
  |true=>exact absurd (aaq hb) h
theorem abG {α:Type} (k k':Nat):∀ l:List (Nat × α),lk (er l k) k'=if k=k' then none else lk l k'
  |[]=>by simp[er,lk]
  |(j,x)::l=>by
    simp only[er];by_cases h:j=k
    · subst h
      rw[Nat.beq_refl];simp only[abG j k' l,lk];by_cases h2:j=k'
      · simp[h2]
      · simp[h2,abI h2]
    · rw[abI h]
      simp only[lk];by_cases h2:j=k'
      · subst h2
        simp[Nat.beq_refl,Ne.symm h]
      · simp[abI h2,abG k k' l]
theorem anu {α:Type} (k':Nat):∀ (ks:List Nat) (l:List (Nat × α)),lk (erL ks l) k'=if k'∈ks then none else lk l k'
  |[],l=>by simp[erL]
  |k::ks,l=>by
    simp only[erL];rw[anu k' ks,abG];by_cases h1:k'∈ks
    · simp[h1]
    · by_cases h2:k=k'
      · simp[h2]
      · simp[h1,h2,Ne.symm h2]
theorem ai2 {α:Type} (k:Nat):∀ (l m:List (Nat × α)),lk (l++m) k=match lk l k with | some x=>some x | none=>lk m k
  |[],m=>rfl
  |(j,x)::l,m=>by
    simp only[List.cons_append,lk];split
    · rfl
    · exact ai2 k l m
theorem ayr (s:aah) (r:Rec):(s.app r).fs=r.app s.fs:=by
  have h1:(s.app r).fs.s=(r.app s.fs).s:=by
    funext t;simp only[aah.fs,aah.app,Rec.app];cases hd:r.dst with
    |none=>simp
    |some d=>
      cases hv:r.val with
      |none=>simp[abG]
      |some av=>
        simp only[lk,Option.some.injEq];by_cases h:d=t
        · simp[h,Nat.beq_refl]
        · simp[h,abI h,abG]
  have h2:(s.app r).fs.b=(r.app s.fs).b:=by
    funext k;simp only[aah.fs,aah.app,Rec.app];rw[ai2];cases hs:lk r.set k with
    |some b=>rfl
    |none=>
      simp only;rw[anu,anu,if_neg (afP hs)]
  cases ha:(s.app r).fs;cases hb:r.app s.fs;rw[ha,hb] at h1 h2;simp only at h1 h2;rw[h1,h2]
theorem abH {k:Nat} : ∀ {l:List Nat},has l k=true↔k∈l
  |[]=>by simp[has]
  |a::l=>by
    simp only[has,List.mem_cons];by_cases h:a=k
    · simp[h,Nat.beq_refl]
    · rw[abI h]
      simp only[abH (l:=l)];constructor
      · exact .inr
      · rintro (h2 | h2)
        · exact absurd h2.symm h
        · exact h2
theorem ab0 {k:Nat} {l:List Nat} (h:has l k=false):k ∉ l:=λhm=>by
  rw[abH.2 hm] at h;cases h
def only {α:Type} (ks:List Nat):List (Nat × α)->List (Nat × α)
  |[]=>[]
  |(k,x)::l=>match has ks k with
    |true=>(k,x)::only ks l
    |false=>only ks l
theorem afO {α:Type} (ks:List Nat) (k:Nat):∀ l:List (Nat × α),lk (only ks l) k=if k∈ks then lk l k else none
  |[]=>by simp[only,lk]
  |(j,x)::l=>by
    simp only[only];cases h:has ks j with
    |true=>
      simp only[lk];by_cases h2:j=k
      · subst h2
        simp[Nat.beq_refl,abH.1 h]
      · simp[abI h2,afO ks k l]
    |false=>
      simp only[lk];by_cases h2:j=k
      · subst h2
        simp[afO ks j l,ab0 h]
      · simp[abI h2,afO ks k l]
def adb (l:List Operand):List Nat:=l.filterMap fun | .tmp t=>some t | _=>none
def afN (s:aah) (l:List Nat):List Nat:=l.flatMap λt=>match lk s.slots t with
  |some av=>av.nm
  |none=>[]
def anq (s:aah) (l:List Nat):List Nat:=l.flatMap λk=>match lk s.blks k with
  |some b=>b.nm
  |none=>[]
def azS:aaa->List Nat
  | .fh k _ _=>[k]
  |_=>[]
def azR (s:aah) (l:List Nat):List Nat:=l.flatMap λt=>match lk s.slots t with
  |some (.s _ l)=>l.flatMap azS
  |_=>[]
def avP (s:aah) (o:Oper) (rs:List Nat):List Nat:=
  match o.op with
  | .move _ | .assign _ | .pick .. =>[]
  | .call { callee:= .builtin _,.. } =>afN s rs++azR s rs
  | .call _=>afN s rs++(anq s (afN s rs)++anq s (anq s (afN s rs)))
  |_=>afN s rs
inductive SR where
  |ok (r:Rec) (ps:List Prop)
  |need (b:Bool)
  |bad
def am2 (P:Program) (Γ : FuncId->Option Run) (asm:Option Bool) (isg:Bool) (o:Oper) (s:aah) (gs:List Nat):SR:=
  let rs:=adb o.op.operands.toList++gs
  let br:=avP s o rs
  match opx P Γ ⟨lk (only rs s.slots),lk (only br s.blks)⟩ o with
  |none=> .bad
  |some e=>match isg with
    |false=> .ok (e.rc o.dst rs br) e.ps
    |true=>match e.val with
      |some (.s false [.t])=> .ok (e.rc o.dst rs br) e.ps
      |some (.s false [.f])=> .ok (e.rc o.dst rs br) e.ps
      |some (.s false [.v (.bool b)])=>match asm with
        |some c=> .ok (Eff.rc { e with val:=some (.s false [tf c]) } o.dst rs br) ((b=c)::e.ps)
        |none=> .need b
      |_=> .bad
def as9 (P:Program) (Γ : FuncId->Option Run) (asm:Option Bool) (isg:Bool) (ops:List Oper) (o:Oper) (s:aah):SR:=
  match o.guard with
  |none=>am2 P Γ asm isg o s []
  |some (j,want)=>match ops[j]? with
    |some p=>match p.dst with
      |some d=>match lk s.slots d with
        |some (.s false [.t])=>match want with
          |true=>am2 P Γ asm isg o s [d]
          |false=> .ok ⟨o.dst,[d],[],some (.tup []),[],[],[]⟩ []
        |some (.s false [.f])=>match want with
          |true=> .ok ⟨o.dst,[d],[],some (.tup []),[],[],[]⟩ []
          |false=>am2 P Γ asm isg o s [d]
        |some (.tup [])=> .ok ⟨o.dst,[d],[],some (.tup []),[],[],[]⟩ []
        |_=> .bad
      |none=> .bad
    |none=> .bad
theorem ada.mono {P:Program} {D:Prop} {B:Nat} {o:Oper} {R R':FS} {r r':Rec} (h:ada P D B o R r) (hs:∀ t av,R.s t=some av->R'.s t=some av) (hb:∀ k b,R.b k=some b->R'.b k=some b) (e1:r'.set=r.set) (e2:r'.nws=r.nws) (e3:r'.del=r.del)
    (hv:∀ G F w v av,r'.val=some av->(∀ av,r.val=some av->av.ok (GOk G F w) v)->av.ok (GOk G F w) v):ada P D B o R' r':=by
  intro G F a w V;have hn:∀ k,R.b k≠none->R'.b k≠none:=λk hk=>by
    obtain⟨b,hb'⟩:=Option.ne_none_iff_exists'.1 hk;rw[hb k b hb'];simp
  refine alm (h G F a w ⟨V.bs,V.fl,λk b hk=>V.bk k b (hb k b hk),λk k' h1 h2=>V.ne k k' (hn k h1) (hn k' h2),λk g h1=>V.nf k g (hn k h1),λt av ht=>V.sl t av (hs t av ht)⟩) ?_;rintro v w' ⟨G',F',p⟩;have ew:r'.wb=r.wb:=by simp[Rec.wb,e1,e3]
  refine⟨G',F',λk hk=>p.g k (by rw[e1] at hk;exact hk),λk hk=>p.gv k (by rw[e2] at hk;exact hk),p.f,λb hb'=>(p.fn b hb').imp id (λh=>h.imp id (λ⟨k,q1,q2,q3⟩=>⟨k,by rw[ew];exact q1,hn k q2,q3⟩)),p.fl,p.os,p.tape,p.out,p.sz,p.dr,p.k,λg hg hne=>p.h g hg λk hk hR=>hne k (by rw[ew];exact hk) (hn k hR),λav hav=>hv G' F' w' v av hav p.v,λk b hkb=> ?_,λk k' b b' h1 h2=>p.d k k' b b' (by rw[e1] at h1;exact h1) (by rw[e1] at h2;exact h2)⟩;rw[e1] at hkb;obtain⟨q1,q2⟩:=p.s k b hkb;refine⟨q1,λg hg=>⟨(q2 g hg).1,?_⟩⟩;rcases (q2 g hg).2 with h3 | ⟨k0,h4,h5,h6⟩
  · exact .inl h3
  · exact .inr ⟨k0,by rw[ew];exact h4,hn k0 h5,h6⟩
section
variable {P:Program} {D:Prop} {B:Nat} {Γ : FuncId->Option Run} {asm:Option Bool} {isg:Bool} {o:Oper} {s:aah} {gs:List Nat} {r:Rec} {ps:List Prop} {ops:List Oper}
theorem ah1 (hΓ : ∀ f run,Γ f=some run->aai P D B f run) (h:am2 P Γ asm isg o s gs= .ok r ps) (hp:aca ps) :
    r.dst=o.dst/\r.rs=adb o.op.operands.toList++gs/\ada P D B o (abJ s.fs r) r:=by
  have view:∀ (r:Rec),r.rs=adb o.op.operands.toList++gs->r.br=avP s o (adb o.op.operands.toList++gs)->
      (∀ t av,lk (only (adb o.op.operands.toList++gs) s.slots) t=some av->(abJ s.fs r).s t=some av)/\∀ k b,lk (only (avP s o (adb o.op.operands.toList++gs)) s.blks) k=some b->(abJ s.fs r).b k=some b:=by
    intro r e1 e2;refine⟨λt av ht=> ?_,λk b hk=> ?_⟩
    · rw[afO] at ht
      split at ht
      · rename_i hm
        simp only[abJ,e1,if_pos hm];exact ht
      · cases ht
    · rw[afO] at hk
      split at hk
      · rename_i hm
        simp only[abJ,e2,if_pos hm];exact hk
      · cases hk
  unfold am2 at h;simp only at h;split at h
  · cases h
  · rename_i e he
    have base:aca e.ps->ada P D B o _ (e.rc o.dst (adb o.op.operands.toList++gs) (avP s o (adb o.op.operands.toList++gs))):=λhp=>axn hΓ he hp;have same:aca e.ps->ada P D B o (abJ s.fs (e.rc o.dst (adb o.op.operands.toList++gs) (avP s o (adb o.op.operands.toList++gs)))) (e.rc o.dst (adb o.op.operands.toList++gs) (avP s o (adb o.op.operands.toList++gs))):=λhp=>
      (base hp).mono (view _ rfl rfl).1 (view _ rfl rfl).2 rfl rfl rfl (λG F w v av hav hv=>hv av hav)
    split at h
    · cases h
      exact⟨rfl,rfl,same hp⟩
    · split at h
      · cases h
        exact⟨rfl,rfl,same hp⟩
      · cases h
        exact⟨rfl,rfl,same hp⟩
      · rename_i b hv
        split at h
        · rename_i c
          cases h;refine⟨rfl,rfl,(base hp.2).mono (view _ rfl rfl).1 (view _ rfl rfl).2 rfl rfl rfl (λG F w v av hav hvv=> ?_)⟩;cases hav;have h1:=abE (b:=b) (aal (hvv _ hv)) (.inr rfl);have hbc:b=c:=hp.1;rw[h1,hbc];refine aaG ?_;cases c
          · exact GOk.of .f
          · exact GOk.of .t
        · cases h
      · cases h
theorem aqy (hΓ : ∀ f run,Γ f=some run->aai P D B f run) (h:as9 P Γ asm isg ops o s= .ok r ps) (hp:aca ps):atJ P D B ops o (abJ s.fs r) r:=by
  unfold as9 at h;split at h
  · rename_i hg
    obtain⟨h1,_,h2⟩:=ah1 hΓ h hp;refine⟨h1,?_⟩;rw[hg];exact h2
  · rename_i j want hg
    split at h
    · rename_i p hp2
      split at h
      · rename_i d hd
        split at h
        · rename_i hl
          split at h
          · obtain⟨h1,h3,h2⟩:=ah1 hΓ h hp
            refine⟨h1,?_⟩;rw[hg];exact .inl ⟨p,d,true,hp2,hd,by simp only[abJ,h3,if_pos (show d∈_++[d] by simp)];exact hl,.inl ⟨rfl,h2⟩⟩
          · cases h
            refine⟨rfl,?_⟩;rw[hg];exact .inl ⟨p,d,true,hp2,hd,by simp only[abJ,if_pos (show d∈[d] by simp)];exact hl,.inr ⟨by simp,rfl,rfl,rfl⟩⟩
        · rename_i hl
          split at h
          · cases h
            refine⟨rfl,?_⟩;rw[hg];exact .inl ⟨p,d,false,hp2,hd,by simp only[abJ,if_pos (show d∈[d] by simp)];exact hl,.inr ⟨by simp,rfl,rfl,rfl⟩⟩
          · obtain⟨h1,h3,h2⟩:=ah1 hΓ h hp
            refine⟨h1,?_⟩;rw[hg];exact .inl ⟨p,d,false,hp2,hd,by simp only[abJ,h3,if_pos (show d∈_++[d] by simp)];exact hl,.inl ⟨rfl,h2⟩⟩
        · rename_i hl
          cases h;refine⟨rfl,?_⟩;rw[hg];exact .inr ⟨p,d,hp2,hd,by simp only[abJ,if_pos (show d∈[d] by simp)];exact hl,rfl,rfl,rfl⟩
        · cases h
      · cases h
    · cases h
end
end Go.Proofs.YtcmplpkmfbhpdaaGreat
namespace Go.Proofs.YtcmplpkmfbhpdaaGreat
open Go Go.RowKit
def aj8 (x0:aah) (k:Nat):Bool:=(lk x0.blks k).isNone && x0.slots.all (λp=> !has p.2.nm k) && x0.blks.all (λp=> !has p.2.nm k)
def azl (m:Nat) (x0 s:aah) (r:Rec) (tch:List Nat):Bool:=
 (match r.dst with | some d=>Nat.blt d m | none=>true) &&
 (r.set.all (λp=>(has r.nws p.1 || (has r.br p.1 && (lk s.blks p.1).isSome))) &&
 (r.nws.all (λk=>aj8 x0 k && (!has tch k && (has r.wb k && Nat.blt k 1000000))) &&
 r.del.all (λk=>has r.br k && (lk s.blks k).isSome)))
inductive RR where
 |ok (rs:List Rec) (ps:List Prop) (s:aah)
 |need (i:Nat) (b:Bool)
 |bad (i:Nat)
def avU (P:Program) (Γ : FuncId->Option Run) (m:Nat) (asm:List (Nat × Bool)) (gl:List Nat) (all:List Oper) (x0:aah):List Oper->Nat->aah->List Nat->RR
 |[],_,s,_=> .ok [] [] s
 |o::os,i,s,tch=>match as9 P Γ (lk asm i) (has gl i) all o s with
  | .ok r ps=>match azl m x0 s r tch with
   |true=>match avU P Γ m asm gl all x0 os (i+1) (s.app r) (r.mn++r.wb++tch) with
    | .ok rs ps' s'=> .ok (r::rs) (ps++ps') s'
    |e=>e
   |false=> .bad i
  | .need b=> .need i b
  | .bad=> .bad i
structure aAy (m:Nat) (x0:FS) (y:FS) (r:Rec) (tch:List Nat):Prop where
 dst:∀ d,r.dst=some d->d<m
 old:∀ k b,lk r.set k=some b->k ∉ r.nws->k∈r.br/\y.b k≠none
 del:∀ k,k∈r.del->k∈r.br/\y.b k≠none
 nwb:∀ k,k∈r.nws->k∈r.wb
 nx:∀ k,k∈r.nws->x0.b k=none/\(∀ t av,x0.s t=some av->k ∉ av.nm)/\(∀ k' b',x0.b k'=some b'->k ∉ b'.nm)/\k<1000000/\k ∉ tch
theorem amJ {x0:aah} {k:Nat} (h:aj8 x0 k=true):x0.fs.b k=none/\(∀ t av,x0.fs.s t=some av->k ∉ av.nm)/\∀ k' b',x0.fs.b k'=some b'->k ∉ b'.nm:=by
 unfold aj8 at h;simp only[Bool.and_eq_true,Option.isNone_iff_eq_none,List.all_eq_true,Bool.not_eq_true'] at h;exact⟨h.1.1,λt av ht=>ab0 (h.1.2 _ (agL ht)),λk' b' hb=>ab0 (h.2 _ (agL hb))⟩
theorem avB {m:Nat} {x0 s:aah} {r:Rec} {tch:List Nat} (h:azl m x0 s r tch=true):aAy m x0.fs s.fs r tch:=by
 unfold azl at h;rw[Bool.and_eq_true,Bool.and_eq_true,Bool.and_eq_true] at h;obtain⟨h1,h2,h5,h3⟩:=h;have some_ne:∀ k,(lk s.blks k).isSome=true->s.fs.b k≠none:=λk hk e=>by
  rw[show lk s.blks k=none from e] at hk;cases hk
 refine⟨λd hd=> ?_,λk b hs hn=> ?_,λk hd=> ?_,λk hn=> ?_,λk hn=> ?_⟩
 ·rw[hd] at h1;simpa[Nat.blt_eq] using h1
 ·have h6:=List.all_eq_true.1 h2 _ (agL hs);simp only[Bool.and_eq_true,Bool.or_eq_true] at h6;rcases h6 with h7 | h7
  ·exact absurd (abH.1 h7) hn
  ·exact⟨abH.1 h7.1,some_ne k h7.2⟩
 ·have h6:=List.all_eq_true.1 h3 _ hd;simp only[Bool.and_eq_true] at h6;exact⟨abH.1 h6.1,some_ne k h6.2⟩
 ·have h6:=List.all_eq_true.1 h5 _ hn;simp only[Bool.and_eq_true] at h6;exact abH.1 h6.2.2.1
 ·have h6:=List.all_eq_true.1 h5 _ hn;simp only[Bool.and_eq_true,Bool.not_eq_true'] at h6;obtain⟨q1,q2,q3⟩:=amJ h6.1;exact⟨q1,q2,q3,by simpa[Nat.blt_eq] using h6.2.2.2,ab0 h6.2.1⟩
theorem af0 (f:Nat->Bool):∀ (rs:List Rec) (i:Nat) (x:FS),stF rs (i+1) f x=stF rs i (λn=>f (n+1)) x
 |[],_,_=>rfl
 |r::rs,i,x=>by
  simp only[stF];exact af0 f rs (i+1) _
theorem aiD (rs:List Rec) (x:FS):ajr rs 0 x=x:=by
 have:∀ (rs:List Rec) (i:Nat),stF rs i (λj=>decide (j<0)) x=x:=λrs=>by
  induction rs with
  |nil=>intro i;rfl
  |cons r rs ih=>intro i;simp only[stF];exact ih _
 exact this rs 0
theorem aiE (r:Rec) (rs:List Rec) (j:Nat) (x:FS):ajr (r::rs) (j+1) x=ajr rs j (r.app x):=by
 unfold ajr;simp only[stF];rw[af0];simp
section
variable {P:Program} {D:Prop} {B m:Nat} {Γ : FuncId->Option Run} {asm:List (Nat × Bool)} {gl:List Nat} {all:List Oper} {x0:aah}
theorem anV (hΓ : ∀ f run,Γ f=some run->aai P D B f run):∀ (os:List Oper) (i:Nat) (s:aah) (tch:List Nat) {rs:List Rec} {ps:List Prop} {s':aah},avU P Γ m asm gl all x0 os i s tch= .ok rs ps s'->aca ps->
  rs.length=os.length/\s'.fs=stF rs 0 (λ_=>true) s.fs/\(∀ (j:Nat) (o:Oper) (r:Rec),os[j]? =some o->rs[j]? =some r->atJ P D B all o (abJ (ajr rs j s.fs) r) r)/\
  ∀ (j:Nat) (r:Rec),rs[j]? =some r->∃ tch':List Nat,aAy m x0.fs (ajr rs j s.fs) r tch'/\(∀ k,k∈tch->k∈tch')/\∀ (j':Nat) (r':Rec),j'<j->rs[j']? =some r'->∀ k,(k∈r'.mn\/k∈r'.wb)->k∈tch'
 |[],_,s,_,rs,ps,s',h,_=>by
  cases h;exact⟨rfl,rfl,λj o r h1=>by simp at h1,λj r h1=>by simp at h1⟩
 |o::os,i,s,tch,rs,ps,s',h,hp=>by
  simp only[avU] at h;split at h
  ·rename_i r ps1 h1;split at h
   ·rename_i hc;split at h
    ·rename_i rs2 ps2 s2 h2;cases h;obtain⟨p1,p2⟩:=ac8 hp;obtain⟨q1,q2,q3,q4⟩:=anV hΓ os (i+1) (s.app r) _ h2 p2;rw[ayr] at q2 q3 q4;refine⟨by simp[q1],?_,λj o' r' h3 h4=> ?_,λj r' h4=> ?_⟩
     ·simp only[stF,if_true];rw[af0];exact q2
     ·match j,h3,h4 with
      |0,h3,h4=>
       cases h3;cases h4;rw[aiD];exact aqy hΓ h1 p1
      |j+1,h3,h4=>
       rw[aiE];exact q3 j o' r' (by simpa using h3) (by simpa using h4)
     ·match j,h4 with
      |0,h4=>
       cases h4;rw[aiD];exact⟨tch,avB hc,λk hk=>hk,λj' r' hlt=>by omega⟩
      |j+1,h4=>
       rw[aiE];obtain⟨t,k1,k2,k3⟩:=q4 j r' (by simpa using h4);refine⟨t,k1,λk hk=>k2 k (List.mem_append_right _ hk),λj' r'' hlt h5 k hk=> ?_⟩;match j',h5 with
       |0,h5=>
        cases h5;exact k2 k (List.mem_append_left _ (List.mem_append.2 hk))
       |j'+1,h5=>exact k3 j' r'' (by omega) (by simpa using h5) k hk
    ·rename_i hne;exact absurd h (hne rs ps s')
   ·cases h
  ·cases h
  ·cases h
end
def anA (r q:Rec):Bool:=
 (match r.dst with | some d=> !has q.rs d && (match q.dst with | some d'=> !Nat.beq d' d | none=>true) | none=>true) &&
 ((match q.dst with | some d=> !has r.rs d | none=>true) &&
 (r.wb.all (λk=> !has q.wb k && !has q.br k) && (q.wb.all (λk=> !has r.br k) && r.nws.all (λk=> !has q.mn k))))
theorem apv {r q:Rec} (h:anA r q=true):am5 r q:=by
 unfold anA at h;rw[Bool.and_eq_true,Bool.and_eq_true,Bool.and_eq_true,Bool.and_eq_true] at h;obtain⟨h1,h2,h3,h4,h5⟩:=h;refine⟨λd hd=> ?_,λd hd=> ?_,λk hk=> ?_,λk hk=> ?_,λk hk=> ?_⟩
 ·rw[hd] at h1;simp only[Bool.and_eq_true,Bool.not_eq_true'] at h1;refine⟨ab0 h1.1,λe=> ?_⟩;rw[e] at h1;simp[Nat.beq_refl] at h1
 ·rw[hd] at h2;simp only[Bool.not_eq_true'] at h2;exact ab0 h2
 ·have:=List.all_eq_true.1 h3 k hk;simp only[Bool.and_eq_true,Bool.not_eq_true'] at this;exact⟨ab0 this.1,ab0 this.2⟩
 ·have:=List.all_eq_true.1 h4 k hk;simp only[Bool.not_eq_true'] at this;exact ab0 this
 ·have:=List.all_eq_true.1 h5 k hk;simp only[Bool.not_eq_true'] at this;exact ab0 this
def ahB (i:Nat) (r:Rec) (D:List (List Nat)):List Rec->Nat->Bool
 |[],_=>true
 |q::qs,j=>(has (D.getD j []) i || anA r q) && ahB i r D qs (j+1)
def akU (D:List (List Nat)):List Rec->Nat->Bool
 |[],_=>true
 |r::rs,i=>ahB i r D rs (i+1) && akU D rs (i+1)
theorem ag6 {i:Nat} {r:Rec} {D:List (List Nat)} : ∀ {qs:List Rec} {j0:Nat},ahB i r D qs j0=true->∀ (j:Nat) (q:Rec),qs[j]? =some q->i∈D.getD (j0+j) []\/am5 r q
 |[],_,_,j,q,h=>by simp at h
 |q0::qs,j0,h,j,q,hq=>by
  simp only[ahB,Bool.and_eq_true,Bool.or_eq_true] at h;match j,hq with
  |0,hq=>cases hq;exact h.1.imp abH.1 apv
  |j+1,hq=>
   have:=ag6 h.2 j q (by simpa using hq);rwa [show j0+1+j=j0+(j+1) by omega] at this
theorem agd {D:List (List Nat)} : ∀ {rs:List Rec} {i0:Nat},akU D rs i0=true->∀ (i j:Nat) (r q:Rec),i<j->rs[i]? =some r->rs[j]? =some q->i0+i∈D.getD (i0+j) []\/am5 r q
 |[],_,_,i,j,r,q,_,h,_=>by simp at h
 |r0::rs,i0,h,i,j,r,q,hij,hr,hq=>by
  simp only[akU,Bool.and_eq_true] at h;match i,j,hij,hr,hq with
  |0,j+1,_,hr,hq=>
   cases hr;have:=ag6 h.1 j q (by simpa using hq);rwa [show i0+1+j=i0+(j+1) by omega] at this
  |i+1,j+1,hij,hr,hq=>
   have:=agd h.2 i j r q (by omega) (by simpa using hr) (by simpa using hq);rwa [show i0+1+i=i0+(i+1) by omega,show i0+1+j=i0+(j+1) by omega] at this
def anc:List Nat->List Nat->List Nat
 |[],m=>m
 |a::l,m=>match has m a with
  |true=>anc l m
  |false=>anc l (a::m)
def afR (o:Oper):List Nat:=(o.after.toList.filter (Region.binds .any)).map (·.on)
def amh:List Oper->List (List Nat)->List (List Nat)
 |[],acc=>acc
 |o::os,acc=>amh os (acc++[(afR o).foldl (λl e=>anc (e::acc.getD e []) l) []])
def akV:List Oper->Nat->Bool
 |[],_=>true
 |o::os,i=>(afR o).all (λe=>Nat.blt e i) && akV os (i+1)
def agO (D:List (List Nat)):List (List Nat)->List Oper->Bool
 |[],_=>true
 |d::ds,os=>match os with
  |[]=>d.isEmpty && agO D ds []
  |o::os=>d.all (λj=>(afR o).any λe=>Nat.beq e j || has (D.getD e []) j) && agO D ds os
theorem aiV {o:Oper} {k:Nat} : k∈afR o↔∃ e∈o.after,Region.binds .any e=true/\e.on=k:=by
 simp only[afR,List.mem_map,List.mem_filter,Array.mem_toList_iff];constructor
 ·rintro⟨e,⟨h1,h2⟩,h3⟩;exact⟨e,h1,h2,h3⟩
 ·rintro⟨e,h1,h2,h3⟩;exact⟨e,⟨h1,h2⟩,h3⟩
theorem agh:∀ {os:List Oper} {i0:Nat},akV os i0=true->∀ (i:Nat) (o:Oper),os[i]? =some o->∀ e∈o.after,Region.binds .any e=true->e.on<i0+i
 |[],_,_,i,o,h=>by simp at h
 |o0::os,i0,h,i,o,ho=>by
  simp only[akV,Bool.and_eq_true] at h;match i,ho with
  |0,ho=>
   cases ho;intro e he hb;have:=List.all_eq_true.1 h.1 e.on (aiV.2 ⟨e,he,hb,rfl⟩);simpa[Nat.blt_eq] using this
  |i+1,ho=>
   have:=agh h.2 i o (by simpa using ho);rwa [show i0+1+i=i0+(i+1) by omega] at this
theorem aeB {D:List (List Nat)} : ∀ {ds:List (List Nat)} {os:List Oper},agO D ds os=true->∀ (i j:Nat),j∈ds.getD i []->∃ o,os[i]? =some o/\∃ e∈o.after,Region.binds .any e=true/\(j=e.on\/j∈D.getD e.on [])
 |[],_,_,i,j,h=>by simp at h
 |d::ds,[],h,i,j,hj=>by
  simp only[agO,Bool.and_eq_true,List.isEmpty_iff] at h;match i,hj with
  |0,hj=>rw[h.1] at hj;simp at hj
  |i+1,hj=>
   obtain⟨o,ho,_⟩:=aeB h.2 i j (by simpa using hj);simp at ho
 |d::ds,o0::os,h,i,j,hj=>by
  simp only[agO,Bool.and_eq_true] at h;match i,hj with
  |0,hj=>
   have:=List.all_eq_true.1 h.1 j (by simpa using hj);rw[List.any_eq_true] at this;obtain⟨e,he,h2⟩:=this;obtain⟨e',h3,h4,h5⟩:=aiV.1 he;rw[Bool.or_eq_true] at h2;refine⟨o0,rfl,e',h3,h4,?_⟩;rw[h5];exact h2.imp (λq=>(aaq q).symm) abH.1
  |i+1,hj=>
   obtain⟨o,ho,h3⟩:=aeB h.2 i j (by simpa using hj);exact⟨o,by simpa using ho,h3⟩
def ac1 (ops:List Oper):List Nat:=ops.filterMap λo=>match o.op with
 | .alloc _ | .box .. | .buildSlice .. | .makeSlice .. | .makeMap .. | .call _=>o.dst
 |_=>none
def avL (ts:List Nat) (l:List Nat):Bool:=l.all λk=> !has ts k
def ajA (ts:List Nat):List (Nat × AV)->List (Nat × AV)
 |[]=>[]
 |(t,av)::l=>match avL ts av.nm with
  |true=>(t,av)::ajA ts l
  |false=>er (ajA ts l) t
def ahq (ts:List Nat):List (Nat × aae)->List (Nat × aae)
 |[]=>[]
 |(k,b)::l=>match avL ts b.nm && !has ts k with
  |true=>(k,b)::ahq ts l
  |false=>er (ahq ts l) k
def aah.kill (s:aah) (ts:List Nat):aah:=⟨ajA ts s.slots,ahq ts s.blks⟩
theorem aey {ts:List Nat} {t:Nat} {av:AV} : ∀ {l:List (Nat × AV)},lk (ajA ts l) t=some av->lk l t=some av
 |[],h=>h
 |(t',a')::l,h=>by
  simp only[ajA] at h;split at h
  ·simp only[lk] at h ⊢;split at h
   ·exact h
   ·exact aey h
  ·rw[abG] at h;split at h
   ·cases h
   ·rename_i e;simp only[lk,abI e];exact aey h
theorem aez {ts:List Nat} {t:Nat} {b:aae} : ∀ {l:List (Nat × aae)},lk (ahq ts l) t=some b->lk l t=some b
 |[],h=>h
 |(t',a')::l,h=>by
  simp only[ahq] at h;split at h
  ·simp only[lk] at h ⊢;split at h
   ·exact h
   ·exact aez h
  ·rw[abG] at h;split at h
   ·cases h
   ·rename_i e;simp only[lk,abI e];exact aez h
theorem Rep.sub {D:Prop} {B m:Nat} {F0:akF} {w0:World} {x y:FS} {G:Nat->GV} {F:Nat->Prop} {a:Act} {w:World} (h:Rep D B m F0 w0 x G F a w) (hs:∀ t av,y.s t=some av->x.s t=some av) (hb:∀ k b,y.b k=some b->x.b k=some b):Rep D B m F0 w0 y G F a w:=by
 have hn:∀ k,y.b k≠none->x.b k≠none:=λk hk=>by
  obtain⟨b,hb'⟩:=Option.ne_none_iff_exists'.1 hk;rw[hb k b hb'];simp
 exact⟨h.own,h.bs,h.f0,h.f1,h.fl,λk b hk=>h.bk k b (hb k b hk),λk k' h1 h2=>h.ne k k' (hn k h1) (hn k' h2),λk g h1=>h.nf k g (hn k h1),λt av ht=>h.sl t av (hs t av ht),h.sz,h.df,h.pin,h.fr.1,λg hg=>⟨(h.fr.2 g hg).1,(h.fr.2 g hg).2.1,(h.fr.2 g hg).2.2.1,λk hk=>(h.fr.2 g hg).2.2.2 k (hn k hk)⟩⟩
def as2:List Prop->Prop->Prop
 |[],q=>q
 |p::l,q=>p/\as2 l q
theorem acX:∀ {l:List Prop} {q:Prop},as2 l q->aca l/\q
 |[],_,h=>⟨trivial,h⟩
 |_::_,_,h=>⟨⟨h.1,(acX h.2).1⟩,(acX h.2).2⟩
def alP (ops:List Oper):List Nat:=ops.filterMap λo=>match o.guard with | some (j,_)=>some j | none=>none
def ajy (P:Program) (Γ : FuncId->Option Run) (m:Nat) (ops:List Oper) (draw:Bool) (s:aah) (Q:aah->Prop):Nat->List (Nat × Bool)->Prop
 |fuel,asm=>match avU P Γ m asm (alP ops) ops (s.kill (ac1 ops)) ops 0 (s.kill (ac1 ops)) [] with
  | .ok rs ps s'=>match draw with
   |false=>as2 ps (Q s')
   |true=>match akV ops 0 && (agO (amh ops []) (amh ops []) ops && akU (amh ops []) rs 0) with
    |true=>as2 ps (Q s')
    |false=>False
  | .need i b=>match fuel with
   |0=>False
   |n+1=>(b=true->ajy P Γ m ops draw s Q n ((i,true)::asm))/\(b=false->ajy P Γ m ops draw s Q n ((i,false)::asm))
  | .bad _=>False
theorem alf {P:Program} {D:Prop} {B m:Nat} {Γ : FuncId->Option Run} (hΓ : ∀ f run,Γ f=some run->aai P D B f run) (hx:P.follows .mixedOrders=true) {ops:List Oper} {draw:Bool} {s:aah} {Q:aah->Prop} {F0:akF} {w0:World} {G:Nat->GV} {F:Nat->Prop} {a:Act} {w:World} {id:Nat} {Qx:Exit->Act->World->Prop}
  (hrep:Rep D B m F0 w0 s.fs G F a w) (hQ:∀ s' G F a w,Q s'->Rep D B m F0 w0 s'.fs G F a w->Qx .normal a w):∀ (fuel:Nat) (asm:List (Nat × Bool)),ajy P Γ m ops draw s Q fuel asm->(Code.region id ops.toArray draw).wp P Qx a w:=by
 have hk:Rep D B m F0 w0 (s.kill (ac1 ops)).fs G F a w:=hrep.sub (λt av h=>aey h) (λk b h=>aez h);have main:∀ (rs:List Rec) (ps:List Prop) (s':aah) (asm:List (Nat × Bool)),avU P Γ m asm (alP ops) ops (s.kill (ac1 ops)) ops 0 (s.kill (ac1 ops)) []= .ok rs ps s'->aca ps->Q s'->
   ∀ dep:Nat->Nat->Prop,(∀ (i j:Nat) (r q:Rec),i<j->rs[i]? =some r->rs[j]? =some q->dep j i\/am5 r q)->ahr P D B m ops rs (s.kill (ac1 ops)).fs dep/\stF rs 0 (λ_=>true) (s.kill (ac1 ops)).fs=s'.fs:=by
  intro rs ps s' asm h hp _ dep hi;obtain⟨q1,q2,q3,q4⟩:=anV hΓ ops 0 _ _ h hp;refine⟨⟨q1,q3,λi r d hr=> ?_,λi r k b hr=> ?_,λi r k hr=> ?_,λi r k hr=> ?_,λi r k hr hn=> ?_,hi⟩,q2.symm⟩
  ·obtain⟨t,h1,_⟩:=q4 i r hr;exact h1.dst d
  ·obtain⟨t,h1,_⟩:=q4 i r hr;exact h1.old k b
  ·obtain⟨t,h1,_⟩:=q4 i r hr;exact h1.del k
  ·obtain⟨t,h1,_⟩:=q4 i r hr;exact h1.nwb k
  ·obtain⟨t,h1,_,h3⟩:=q4 i r hr;obtain⟨k1,k2,k3,k5,k4⟩:=h1.nx k hn;exact⟨k1,k2,k3,k5,λj r' hr' hlt=>⟨λhk=>k4 (h3 j r' hlt hr' k (.inl hk)),λhk=>k4 (h3 j r' hlt hr' k (.inr hk))⟩⟩
 intro fuel;induction fuel with
 |zero=>
  intro asm h;unfold ajy at h;split at h
  ·rename_i rs ps s' hr;split at h
   ·obtain⟨hp,hq⟩:=acX h;obtain⟨H,e⟩:=main rs ps s' asm hr hp hq (λj i=>i<j) (λi j r q hlt _ _=> .inl hlt);exact H.seq hk λG F a w hrep'=>hQ s' G F a w hq (by rw[<- e];exact hrep')
   ·split at h
    ·rename_i hc;simp only[Bool.and_eq_true] at hc;obtain⟨hp,hq⟩:=acX h;obtain⟨H,e⟩:=main rs ps s' asm hr hp hq (λj i=>i∈(amh ops []).getD j []) (λi j r q hlt h1 h2=>by simpa using agd hc.2.2 i j r q hlt h1 h2);exact H.draw hx (λi o ho e he hb=>by simpa using agh hc.1 i o ho e he hb) (λi j hj=>aeB hc.2.1 i j hj) hk λG F a w hrep'=>hQ s' G F a w hq (by rw[<- e];exact hrep')
    ·exact h.elim
  ·exact h.elim
  ·exact h.elim
 |succ n ih=>
  intro asm h;unfold ajy at h;split at h
  ·rename_i rs ps s' hr;split at h
   ·obtain⟨hp,hq⟩:=acX h;obtain⟨H,e⟩:=main rs ps s' asm hr hp hq (λj i=>i<j) (λi j r q hlt _ _=> .inl hlt);exact H.seq hk λG F a w hrep'=>hQ s' G F a w hq (by rw[<- e];exact hrep')
   ·split at h
    ·rename_i hc;simp only[Bool.and_eq_true] at hc;obtain⟨hp,hq⟩:=acX h;obtain⟨H,e⟩:=main rs ps s' asm hr hp hq (λj i=>i∈(amh ops []).getD j []) (λi j r q hlt h1 h2=>by simpa using agd hc.2.2 i j r q hlt h1 h2);exact H.draw hx (λi o ho e he hb=>by simpa using agh hc.1 i o ho e he hb) (λi j hj=>aeB hc.2.1 i j hj) hk λG F a w hrep'=>hQ s' G F a w hq (by rw[<- e];exact hrep')
    ·exact h.elim
  ·rename_i i b hr;cases b with
   |true=>exact ih _ (h.1 rfl)
   |false=>exact ih _ (h.2 rfl)
  ·exact h.elim
end Go.Proofs.YtcmplpkmfbhpdaaGreat
namespace Go.Proofs.YtcmplpkmfbhpdaaGreat
open Go Go.RowKit
structure azp (s s':aah):Prop where
 h:∀ (D:Prop) (B m:Nat) (F0:akF) (w0:World) (G:Nat->GV) (F:Nat->Prop) (a:Act) (w:World),Rep D B m F0 w0 s.fs G F a w->∃ G' F',Rep D B m F0 w0 s'.fs G' F' a w
structure CLe (c c':aaa):Prop where
 h:∀ G F w v,GOk G F w c v->GOk G F w c' v
structure aac (av av':AV):Prop where
 h:∀ G F w v,av.ok (GOk G F w) v->av'.ok (GOk G F w) v
structure aan (l l':List aaa):Prop where
 len:l.length=l'.length
 h:∀ (i:Nat) (c c':aaa),l[i]? =some c->l'[i]? =some c'->CLe c c'
theorem aac.refl (av:AV):aac av av:=⟨λ_ _ _ _ h=>h⟩
theorem CLe.refl (c:aaa):CLe c c:=⟨λ_ _ _ _ h=>h⟩
theorem aan.nil:aan [] []:=⟨rfl,λi c c' h=>by simp at h⟩
theorem aan.cons {c c':aaa} {l l':List aaa} (h:CLe c c') (h':aan l l'):aan (c::l) (c'::l'):=
 ⟨by simp[h'.len],λi x y h1 h2=>by
  match i,h1,h2 with
  |0,h1,h2=>cases h1;cases h2;exact h
  |i+1,h1,h2=>exact h'.h i x y (by simpa using h1) (by simpa using h2)⟩
theorem aan.refl (l:List aaa):aan l l:=⟨rfl,λi c c' h1 h2=>by rw[h1] at h2;cases h2;exact CLe.refl _⟩
theorem abu.le {G:Nat->GV} {F:Nat->Prop} {w:World} {l l':List aaa} {vs:List Value} (h:abu (GOk G F w) l vs) (k:aan l l'):abu (GOk G F w) l' vs:=
 ⟨by rw[<- k.len];exact h.1,λi c v h1 h2=>by
  have hi:i<l.length:=by rw[k.len];exact (List.getElem?_eq_some_iff.1 h1).1
  exact (k.h i _ c (List.getElem?_eq_getElem hi) h1).h _ _ _ _ (h.2 i _ v (List.getElem?_eq_getElem hi) h2)⟩
theorem aac.s {a:Bool} {l l':List aaa} (h:aan l l'):aac (.s a l) (.s a l'):=by
 refine⟨λG F w v hv=> ?_⟩;cases a with
 |true=>obtain⟨cs,h1,h2⟩:=hv;exact⟨cs,h1,h2.le h⟩
 |false=>
  obtain⟨c,rfl,h1⟩:=hv;match l',h with
  |[c'],h=>exact⟨c',rfl,(h.h 0 c c' rfl rfl).h G F w v h1⟩
theorem aac.one {c c':aaa} (h:CLe c c'):aac (.s false [c]) (.s false [c']):=aac.s (aan.cons h aan.nil)
theorem CLe.v {x y:Value} (h:x=y):CLe (.v x) (.v y):=h ▸ CLe.refl _
theorem CLe.q {x y:Rat} {s t i:Nat} (h:x=y) (h':s<=t):CLe (.q x s i) (.q y t i):=by
 refine⟨λG F w v hv=> ?_⟩;subst h;have hv':COk F w (.q x s i) v:=hv;cases hv' with
 |q h hs=>exact GOk.of (.q h (Nat.le_trans hs h'))
theorem CLe.z {x y:Int} {s t i:Nat} (h:x=y) (h':s<=t):CLe (.z x s i) (.z y t i):=by
 refine⟨λG F w v hv=> ?_⟩;subst h;have hv':COk F w (.z x s i) v:=hv;cases hv' with
 |z h hs=>exact GOk.of (.z h (Nat.le_trans hs h'))
theorem CLe.tv {b:Bool} (h:b=true):CLe .t (.v (.bool b)):=by
 refine⟨λG F w v hv=> ?_⟩;subst h;have hv':COk F w .t v:=hv;cases hv';exact GOk.of (.v _ rfl)
theorem CLe.fv {b:Bool} (h:b=false):CLe .f (.v (.bool b)):=by
 refine⟨λG F w v hv=> ?_⟩;subst h;have hv':COk F w .f v:=hv;cases hv';exact GOk.of (.v _ rfl)
theorem CLe.nilrow {sz:Nat} {e:Nat->List aaa} {n:Nat} (h:n=0):CLe (.v (.slice none 0 0)) (.row sz n e):=by
 refine⟨λG F w v hv=> ?_⟩;subst h;obtain⟨rfl,_⟩:=abm hv;exact GOk.of .row0
theorem CLe.row {sz n n':Nat} {e e':Nat->List aaa} (h:n=n') (k:∀ i,i<n->aan (e i) (e' i)) (hcl:∀ i,i<n->(e i).all aaa.cl=true/\(e' i).all aaa.cl=true):CLe (.row sz n e) (.row sz n' e'):=by
 refine⟨λG F w v hv=> ?_⟩;subst h;have hv':COk F w (.row sz n e) v:=hv;cases hv' with
 |row0=>exact GOk.of .row0
 |row vals hF hn hl hc ho=>
  refine GOk.of (.row vals hF hn (λi hi=>by rw[<- (k i hi).len];exact hl i hi) hc λi j c hi hj=> ?_);have hjl:j<(e i).length:=by rw[(k i hi).len];exact (List.getElem?_eq_some_iff.1 hj).1
  have h1:=List.getElem?_eq_getElem hjl;have h2:=((k i hi).h j _ c h1 hj).h G F w _ (GOk.of (ho i j _ hi h1));exact COk.of h2 (List.all_eq_true.1 (hcl i hi).2 c (List.mem_of_getElem? hj))
theorem aac.tup {l l':List (Bool × List aaa)} (h:l.length=l'.length) (k:∀ (i:Nat) (p q:Bool × List aaa),l[i]? =some p->l'[i]? =some q->aac (.s p.1 p.2) (.s q.1 q.2)):aac (.tup l) (.tup l'):=by
 refine⟨λG F w v hv=> ?_⟩;obtain⟨vs,e1,e2,e3⟩:=hv;refine⟨vs,e1,by rw[<- h];exact e2,λi p u h1 h2=> ?_⟩;have hi:i<l.length:=by rw[h];exact (List.getElem?_eq_some_iff.1 h1).1
 exact (k i _ p (List.getElem?_eq_getElem hi) h1).h G F w u (e3 i _ u (List.getElem?_eq_getElem hi) h2)
theorem aaZ (l:List aaa):aan l l=True:=eq_true (aan.refl l)
theorem aaP (a:AV):aac a a=True:=eq_true (aac.refl a)
structure aaf (b b':aae):Prop where
 h:∀ B G F w u,b.ok B G F w u->b'.ok B G F w u
theorem SOk.map {p q:aaa->Value->Prop} {f:aaa->aaa} {a:Bool} {l:List aaa} {v:Value} (h:SOk p a l v) (k:∀ c∈l,∀ v,p c v->q (f c) v):SOk q a (l.map f) v:=by
 cases a with
 |true=>
  obtain⟨cs,h1,h2⟩:=h;refine⟨cs,h1,by simpa using h2.1,λi c u h3 h4=> ?_⟩;rw[List.getElem?_map] at h3;cases hc:l[i]? with
  |none=>rw[hc] at h3;cases h3
  |some c'=>
   rw[hc] at h3;cases h3;exact k c' (List.mem_of_getElem? hc) u (h2.2 i c' u hc h4)
 |false=>
  obtain⟨c,rfl,h2⟩:=h;exact⟨f c,rfl,k c (by simp) v h2⟩
theorem aaf.refl (b:aae):aaf b b:=⟨λ_ _ _ _ _ h=>h⟩
abbrev SmA (a:AV):Prop:=aac a a
abbrev SmC (l:List aaa):Prop:=aan l l
abbrev SmB (b:aae):Prop:=aaf b b
theorem abj (b:aae):aaf b b=True:=eq_true (aaf.refl b)
theorem aaf.st {T:TypeId} {l l':List aaa} (h:aan l l'):aaf (.st T l) (.st T l'):=
 ⟨λ_B _G _F _w _u ⟨g,cs,e,h1,hT,h2,h3⟩=>⟨g,cs,e,h1,hT,h2,h3.le h⟩⟩
theorem aec.le {B:Nat} {F:Nat->Prop} {w:World} {v:Value} {T:TypeId} {sz n:Nat} {e e':Nat->List aaa} (h:aec B F w T sz n e v) (k:∀ i,i<n->aan (e i) (e' i)) (hcl:∀ i,i<n->(e' i).all aaa.cl=true):aec B F w T sz n e' v:=by
 obtain⟨xs,h1,hT,h0,h2,h3⟩:=h;refine⟨xs,h1,hT,h0,λi hi=>by rw[<- (k i hi).len];exact h2 i hi,λi j c v hi hc hv=> ?_⟩;have hjl:j<(e i).length:=by rw[(k i hi).len];exact (List.getElem?_eq_some_iff.1 hc).1
 have h4:=List.getElem?_eq_getElem hjl;have G0:Nat->GV:=λ_=>⟨undef,λ_=>False⟩
 exact COk.of (((k i hi).h j _ c h4 hc).h G0 F w v (GOk.of (h3 i j _ v hi h4 hv))) (List.all_eq_true.1 (hcl i hi) c (List.mem_of_getElem? hc))
theorem aaf.row {T:TypeId} {sz n n':Nat} {e e':Nat->List aaa} (hn:n=n') (k:∀ i,i<n->aan (e i) (e' i)) (hcl:∀ i,i<n->(e' i).all aaa.cl=true):aaf (.row T sz n e) (.row T sz n' e'):=by
 subst hn;exact⟨λB G F w u ⟨v,eu,h⟩=>⟨v,eu,h.le k hcl⟩⟩
theorem aaf.rowN {T:TypeId} {sz n n':Nat} {e e':Nat->List aaa} {nms:List Nat} (hn:n=n') (k:∀ i,i<n->aan (e i) (e' i)) (hcl:∀ i,i<n->(e' i).all aaa.cl=true):aaf (.rowN T sz n e nms) (.row T sz n' e'):=by
 subst hn;refine⟨λB G F w u ⟨v,eu,⟨xs,h1,hT,h0,h2,h3⟩,_⟩=>⟨v,eu,xs,h1,hT,h0,λi hi=>by rw[<- (k i hi).len];exact h2 i hi,λi j c v hi hc hv=> ?_⟩⟩;have hjl:j<(e i).length:=by rw[(k i hi).len];exact (List.getElem?_eq_some_iff.1 hc).1
 have h4:=List.getElem?_eq_getElem hjl;exact COk.of (((k i hi).h j _ c h4 hc).h G F w v (GOk.of0 (h3 i j _ v hi h4 hv))) (List.all_eq_true.1 (hcl i hi) c (List.mem_of_getElem? hc))
theorem aaf.fam {T:TypeId} {sz n n':Nat} {hc hc':Nat->Option aaa} {len len':Nat->Nat} {e e':Nat->Nat->List aaa} {nms nms':List Nat} (hn:n=n') (hh:∀ i,i<n->match hc i,hc' i with
   |none,none=>True
   |some c,some c'=>CLe c c'/\c'.cl=true
   |_,_=>False) (hl:∀ i,i<n->hc i≠none->len i=len' i) (k:∀ i j,i<n->hc i≠none->j<len i->aan (e i j) (e' i j)/\(e' i j).all aaa.cl=true):aaf (.fam T sz n hc len e nms) (.fam T sz n' hc' len' e' nms'):=by
 subst hn;refine⟨λB G F w u ⟨vs,h1,h2,h3⟩=> ?_⟩;have hnn:∀ i,i<n->(hc i≠none↔hc' i≠none):=λi hi=>by
  have:=hh i hi;cases h4:hc i with
  |none=>
   rw[h4] at this;cases h5:hc' i with
   |none=>simp
   |some c'=>rw[h5] at this;exact this.elim
  |some c=>
   rw[h4] at this;cases h5:hc' i with
   |none=>rw[h5] at this;exact this.elim
   |some c'=>simp
 refine⟨vs,λi c' hi hci=> ?_,λg=> ?_,λi j g hi hj q1 q2=>h3 i j g hi hj ((hnn i hi).2 q1) ((hnn j hj).2 q2)⟩
 ·have h4:=hh i hi;obtain⟨c,h5⟩:∃ c,hc i=some c:=Option.ne_none_iff_exists'.1 ((hnn i hi).2 (by rw[hci];simp));rw[h5,hci] at h4;obtain⟨k1,k2,k3⟩:=h1 i c hi h5;have hne:hc i≠none:=by rw[h5];simp
  have hv:=h4.1.h G F w _ (GOk.of0 k1);have hcl:=h4.2;refine⟨?_,?_,λq hq=> ?_⟩
  ·cases c' with
   |clo=>cases hcl
   |_=>simpa only[GOk] using hv
  ·rw[<- hl i hi hne];exact k2.le (λj hj=>(k i j hi hne hj).1) (λj hj=>(k i j hi hne hj).2)
  ·cases c' with
   |own | hd | oel | clo | j | pt=>cases hcl
   |_=>cases hq
 ·rw[h2];constructor
  ·rintro⟨i,q1,q2,q3⟩;exact⟨i,q1,(hnn i q1).1 q2,q3⟩
  ·rintro⟨i,q1,q2,q3⟩;exact⟨i,q1,(hnn i q1).2 q2,q3⟩
theorem CLe.fh {x y:Value} {k i:Nat} (h:x=y):CLe (.v x) (.fh k i y):=by
 refine⟨λG F w v hv=> ?_⟩;subst h;obtain⟨rfl,h1⟩:=abm hv;exact GOk.of (.fh _ h1)
def asW (s:aah):List (Nat × AV)->Prop
 |[]=>True
 |(t,av')::l=>match lk s.slots t with
  |some av=>aac av av'/\asW s l
  |none=>False
def apV (s:aah):List (Nat × aae)->Prop
 |[]=>True
 |(k,b')::l=>match lk s.blks k with
  |some b=>aaf b b'/\apV s l
  |none=>False
theorem ajN {s:aah} : ∀ {l:List (Nat × AV)},asW s l->∀ t av',lk l t=some av'->∃ av,lk s.slots t=some av/\aac av av'
 |[],_,t,av',h=>by cases h
 |(t0,a0)::l,hl,t,av',h=>by
  simp only[asW] at hl;split at hl
  ·rename_i av hav;simp only[lk] at h;split at h
   ·rename_i e;cases h;rw[<- aaq e];exact⟨av,hav,hl.1⟩
   ·exact ajN hl.2 t av' h
  ·exact hl.elim
theorem afV {s:aah} : ∀ {l:List (Nat × aae)},apV s l->∀ k b',lk l k=some b'->∃ b,lk s.blks k=some b/\aaf b b'
 |[],_,t,av',h=>by cases h
 |(t0,a0)::l,hl,t,av',h=>by
  simp only[apV] at hl;split at hl
  ·rename_i av hav;simp only[lk] at h;split at h
   ·rename_i e;cases h;rw[<- aaq e];exact⟨av,hav,hl.1⟩
   ·exact afV hl.2 t av' h
  ·exact hl.elim
theorem anQ {s s':aah} (h1:∀ t av',lk s'.slots t=some av'->∃ av,lk s.slots t=some av/\aac av av') (h2:∀ k b',lk s'.blks k=some b'->∃ b,lk s.blks k=some b/\aaf b b'):azp s s':=by
 refine⟨λD B m F0 w0 G F a w h=>⟨G,F,?_⟩⟩;have hn:∀ k,s'.fs.b k≠none->s.fs.b k≠none:=λk hk=>by
  obtain⟨b',hb'⟩:=Option.ne_none_iff_exists'.1 hk;obtain⟨b,hb,_⟩:=h2 k b' hb';rw[show s.fs.b k=some b from hb];simp
 refine⟨h.own,h.bs,h.f0,h.f1,h.fl,λk b' hk=> ?_,λk k' q1 q2=>h.ne k k' (hn k q1) (hn k' q2),λk g q1=>h.nf k g (hn k q1),λt av' ht=> ?_,h.sz,h.df,h.pin,h.fr.1,λg hg=>⟨(h.fr.2 g hg).1,(h.fr.2 g hg).2.1,(h.fr.2 g hg).2.2.1,λk hk=>(h.fr.2 g hg).2.2.2 k (hn k hk)⟩⟩
 ·obtain⟨b,hb,hle⟩:=h2 k b' hk;exact hle.h _ _ _ _ _ (h.bk k b hb)
 ·obtain⟨av,hav,hle⟩:=h1 t av' ht;exact hle.h _ _ _ _ (h.sl t av hav)
theorem afH {s s':aah} (h1:asW s s'.slots) (h2:apV s s'.blks):azp s s':=anQ (ajN h1) (afV h2)
theorem anv {α:Type _} {k:Nat} {b:List (Nat × α)} : ∀ {a:List (Nat × α)},lk (a++b) k=match lk a k with
  |some x=>some x
  |none=>lk b k
 |[]=>rfl
 |(j,y)::a=>by
  simp only[List.cons_append,lk];split
  ·rfl
  ·exact anv
theorem aqD {s:aah} {sl:List (Nat × AV)} {bl:List (Nat × aae)} (h:asW s sl/\apV s bl):azp s ⟨sl++s.slots,bl++s.blks⟩:=by
 refine anQ (λt av' ht=> ?_) (λk b' hk=> ?_)
 ·rw[anv] at ht;split at ht
  ·rename_i x hx;cases ht;exact ajN h.1 t _ hx
  ·exact⟨av',ht,aac.refl _⟩
 ·rw[anv] at hk;split at hk
  ·rename_i x hx;cases hk;exact afV h.2 k _ hx
  ·exact⟨b',hk,aaf.refl _⟩
def aif (k k' j:Nat):Nat:=if Nat.beq j k then k' else j
def afa (k k':Nat):aaa->aaa
 | .own j o=> .own (aif k k' j) o
 | .hd j=> .hd (aif k k' j)
 | .oel j sz i o=> .oel (aif k k' j) sz i o
 | .pt j sz a n=> .pt (aif k k' j) sz a n
 |c=>c
def avK (k k':Nat):aaa->aaa
 | .clo f caps=> .clo f (caps.map (afa k k'))
 |c=>afa k k' c
def ay1 (k k':Nat):AV->AV
 | .s a l=> .s a (l.map (avK k k'))
 | .tup l=> .tup (l.map λp=>(p.1,p.2.map (avK k k')))
def ayz (k k':Nat):aae->aae
 | .st T l=> .st T (l.map (avK k k'))
 | .rowN T sz n e nms=> .rowN T sz n (λi=>(e i).map (afa k k')) (nms.map (aif k k'))
 | .fam T sz n hc len e nms=> .fam T sz n (λi=>(hc i).map (afa k k')) len e (nms.map (aif k k'))
 | .mp kd zv n key ag val nms=> .mp kd zv n key ag (λi=>(val i).map (afa k k')) (nms.map (aif k k'))
 |b=>b
def abv (k:Nat) (x:aaa):aaa->aaa
 | .hd j=>match Nat.beq j k with
  |true=>x
  |false=> .hd j
 | .own j o=>match Nat.beq j k with
  |true=> .j
  |false=> .own j o
 | .oel j sz i o=>match Nat.beq j k with
  |true=> .j
  |false=> .oel j sz i o
 | .pt j sz a n=>match Nat.beq j k with
  |true=>match x with
   | .row sz' _ e=>match Nat.beq sz sz' with
    |true=> .row sz n λi=>e (i+a)
    |false=> .j
   |_=> .j
  |false=> .pt j sz a n
 |c=>c
def asY (k:Nat):List Nat->List Nat
 |[]=>[]
 |j::l=>match Nat.beq j k with
  |true=>asY k l
  |false=>j::asY k l
def as1 (k:Nat) (x:aaa):aaa->aaa
 | .clo f caps=> .clo f (caps.map (abv k x))
 |c=>abv k x c
def avN (k:Nat) (x:aaa):AV->AV
 | .s a l=> .s a (l.map (as1 k x))
 | .tup l=> .tup (l.map λp=>(p.1,p.2.map (as1 k x)))
def avM (k:Nat) (x:aaa):aae->aae
 | .st T l=> .st T (l.map (as1 k x))
 | .rowN T sz n e nms=> .rowN T sz n (λi=>(e i).map (abv k x)) (asY k nms)
 | .fam T sz n hc len e nms=> .fam T sz n (λi=>(hc i).map (abv k x)) len e (asY k nms)
 | .mp kd zv n key ag val nms=> .mp kd zv n key ag (λi=>(val i).map (abv k x)) (asY k nms)
 |b=>b
def azj (s:aah) (k:Nat):aah:=
 match lk s.blks k with
 |some (.row _ sz n e)=>aah.kill ⟨s.slots.map λp=>(p.1,avN k (.row sz n e) p.2),(er s.blks k).map λp=>(p.1,avM k (.row sz n e) p.2)⟩ [k]
 |_=>s
inductive Adj where
 |nil (t k:Nat) (T sz:Nat)
 |ren (k k':Nat)
 |frz (k:Nat)
 |fam (k T sz:Nat)
 |absorb (p t:Nat)
 |opn (t:Nat)
 |opnR (k:Nat)
 |take (t p:Nat)
 |cut (t k:Nat)
 |say (sl:List (Nat × AV)) (bl:List (Nat × aae))
 |frzM (m p:Nat)
def aAi (s:aah) (t:Nat) (v:Value):aah:=aah.kill ⟨s.slots.map λp=>(p.1,avN t (.v v) p.2),(er s.blks t).map λp=>(p.1,avM t (.v v) p.2)⟩ [t]
def as8 (s:aah) (t p:Nat):Option (aah × List Prop):=
 match lk s.slots t,lk s.blks p with
 |some (.s false [.fh _ i x]),some (.fam T sz n hc len e nms)=>match Nat.beq t p || has nms t || Nat.ble 1000000 t with
  |true=>none
  |false=>some (⟨(t,.s false [.hd t])::er (s.kill [t]).slots t,(t,.row T sz (len i) (e i))::(p,.fam T sz n (λj=>if j=i then none else hc j) len e nms)::er (er (s.kill [t]).blks p) t⟩,[i<n/\hc i=some (.fh p i x)])
 |_,_=>none
def azk (s:aah) (t k:Nat):Option (aah × List Prop):=
 match lk s.slots t with
 |some (.s false [.pt j sz 0 m])=>match lk s.blks j with
  |some (.row T sz' _ e)=>match Nat.beq sz sz' && !Nat.beq k j && !Nat.ble 1000000 k with
   |true=>some (⟨(t,.s false [.hd k])::er (s.kill [k]).slots t,(k,.row T sz m e)::er (er (s.kill [k]).blks j) k⟩,[0<m])
   |false=>none
  |_=>none
 |_=>none
def avQ (s:aah):Adj->aah
 | .nil t k T sz=>match lk s.slots t with
  |some (.s false [.v (.slice none 0 0)])=>match Nat.beq T 213 || Nat.beq sz 0 || Nat.ble 1000000 k with
   |true=>s
   |false=>⟨(t,.s false [.hd k])::er (s.kill [k]).slots t,(k,.row T sz 0 λ_=>[])::er (s.kill [k]).blks k⟩
  |_=>s
 | .ren k k'=>match lk s.blks k with
  |some _=>match Nat.beq k k' || Nat.ble 1000000 k' with
   |true=>s
   |false=>⟨(s.kill [k']).slots.map λp=>(p.1,ay1 k k' p.2),(er (s.kill [k']).blks k').map λp=>(aif k k' p.1,ayz k k' p.2)⟩
  |none=>s
 | .frz k=>azj s k
 | .fam k T sz=>match Nat.ble 1000000 k with
  |true=>s
  |false=>⟨(s.kill [k]).slots,(k,.fam T sz 0 (λ_=>none) (λ_=>0) (λ_ _=>[]) [])::er (s.kill [k]).blks k⟩
 | .absorb p t=>match lk s.blks p,lk s.blks t with
  |some (.fam T sz n hc len e nms),some (.row T' sz' m e')=>match Nat.beq T T' && Nat.beq sz sz' && !Nat.beq p t && !has nms t with
   |true=>⟨s.slots,(p,.fam T sz (n+1) (λj=>if j=n then some (.hd t) else hc j) (λj=>if j=n then m else len j) (λj=>if j=n then e' else e j) (t::nms))::(t,.gho)::er (er s.blks p) t⟩
   |false=>s
  |_,_=>s
 | .opn _=>s
 | .opnR _=>s
 | .take _ _=>s
 | .cut _ _=>s
 | .say _ _=>s
 | .frzM _ _=>s
def atE (s:aah) (m p:Nat):Option (aah × List Prop):=
 match lk s.blks m,lk s.blks p with
 |some (.mp kd zv n key false val _),some (.fam _ sz N hc len e _)=>match Nat.beq m p with
  |true=>none
  |false=>some (⟨s.slots,(m,.mp kd zv n key false (λj=>[.row sz (len j) (e j)]) [])::er (er s.blks m) p⟩,[n<N/\∀ j,j<=n->∃ x,val j=[.fh p j x]/\hc j=some (.fh p j x)])
 |_,_=>none
def agC (s:aah):List Adj->(aah->Prop)->Prop
 |[],Q=>Q s
 | .opn t::l,Q=>∀ v:Value,agC (aAi s t v) l Q
 | .opnR k::l,Q=>match lk s.blks k with
  |some (.rowP T sz n p)=>∀ e:Nat->List aaa,p e->agC ⟨s.slots,(k,.row T sz n e)::er s.blks k⟩ l Q
  |_=>False
 | .take t p::l,Q=>match as8 s t p with
  |some (s',ps)=>as2 ps (agC s' l Q)
  |none=>False
 | .cut t k::l,Q=>match azk s t k with
  |some (s',ps)=>as2 ps (agC s' l Q)
  |none=>False
 | .say sl bl::l,Q=>(asW s sl/\apV s bl)/\agC ⟨sl++s.slots,bl++s.blks⟩ l Q
 | .frzM m p::l,Q=>match atE s m p with
  |some (s',ps)=>as2 ps (agC s' l Q)
  |none=>False
 |a::l,Q=>agC (avQ s a) l Q
theorem anz {s:aah} {ts:List Nat} {t:Nat} {av:AV} (h:lk (s.kill ts).slots t=some av):lk s.slots t=some av/\∀ k∈av.nm,k ∉ ts:=by
 refine⟨aey h,?_⟩;have:∀ {l:List (Nat × AV)},lk (ajA ts l) t=some av->avL ts av.nm=true:=by
  intro l;induction l with
  |nil=>intro h;cases h
  |cons p l ih=>
   intro h;simp only[ajA] at h;split at h
   ·rename_i hn;simp only[lk] at h;split at h
    ·cases h;exact hn
    ·exact ih h
   ·rw[abG] at h;split at h
    ·cases h
    ·exact ih h
 intro k hk;have h2:=List.all_eq_true.1 (this h) k hk;simp only[Bool.not_eq_true'] at h2;exact ab0 h2
theorem ae1 {s:aah} {ts:List Nat} {k:Nat} {b:aae} (h:lk (s.kill ts).blks k=some b):lk s.blks k=some b/\k ∉ ts/\∀ j∈b.nm,j ∉ ts:=by
 refine⟨aez h,?_⟩;have:∀ {l:List (Nat × aae)},lk (ahq ts l) k=some b->(avL ts b.nm && !has ts k)=true:=by
  intro l;induction l with
  |nil=>intro h;cases h
  |cons p l ih=>
   intro h;simp only[ahq] at h;split at h
   ·rename_i hn;simp only[lk] at h;split at h
    ·rename_i e;cases h;rw[<- aaq e];exact hn
    ·exact ih h
   ·rw[abG] at h;split at h
    ·cases h
    ·exact ih h
 have h2:=this h;simp only[Bool.and_eq_true,Bool.not_eq_true'] at h2;refine⟨ab0 h2.2,λj hj=> ?_⟩;have h3:=List.all_eq_true.1 h2.1 j hj;simp only[Bool.not_eq_true'] at h3;exact ab0 h3
theorem ai6 {s:aah} {ts:List Nat} {k:Nat} {b:aae} (h:lk s.blks k=some b) (hk:k ∉ ts) (hb:∀ q∈b.nm,q ∉ ts):lk (s.kill ts).blks k=some b:=by
 have:∀ {l:List (Nat × aae)},lk l k=some b->lk (ahq ts l) k=some b:=by
  intro l;induction l with
  |nil=>intro h;cases h
  |cons p l ih=>
   intro h;simp only[lk] at h;simp only[ahq];split at h
   ·rename_i e;cases h;have e2:=aaq e;split
    ·simp[lk,e]
    ·rename_i hn;exfalso;rw[Bool.and_eq_false_iff] at hn;rcases hn with hn | hn
     ·have:avL ts p.2.nm=true:=by
       unfold avL;rw[List.all_eq_true];intro q hq;simp only[Bool.not_eq_true'];cases hh:has ts q with
       |false=>rfl
       |true=>exact absurd (abH.1 hh) (hb q hq)
      rw[this] at hn;cases hn
     ·have:has ts p.1=false:=by
       cases hh:has ts p.1 with
       |false=>rfl
       |true=>exact absurd (abH.1 hh) (by rw[e2];exact hk)
      rw[this] at hn;cases hn
   ·rename_i e;split
    ·simp only[lk,e];exact ih h
    ·rw[abG,if_neg (aaY e)];exact ih h
 exact this h
section
variable {D:Prop} {B m:Nat} {F0:akF} {w0:World} {G:Nat->GV} {F F':Nat->Prop} {a:Act} {w:World}
theorem ahl {k k' j:Nat} (hj:j≠k'):upG G k' (G k) (aif k k' j)=G j:=by
 unfold aif upG;by_cases h:j=k
 ·simp[h,Nat.beq_refl]
 ·simp[abI h,hj]
theorem aeZ {k k':Nat} {c:aaa} {v:Value} (h:abw G F w c v) (hn:k' ∉ c.nm0):abw (upG G k' (G k)) F w (afa k k' c) v:=by
 cases c with
 |own j o=>obtain⟨g,h1,h2⟩:=h;exact⟨g,by rw[ahl (λe=>hn (by simp[aaa.nm0,e]))];exact h1,h2⟩
 |hd j=>exact⟨by rw[ahl (λe=>hn (by simp[aaa.nm0,e]))];exact h.1,h.2⟩
 |oel j sz i o=>obtain⟨g,n,c,h1,h2⟩:=h;exact⟨g,n,c,by rw[ahl (λe=>hn (by simp[aaa.nm0,e]))];exact h1,h2⟩
 |pt j sz a n=>
  rcases h with h | ⟨h0,g,m,c,h1,h2⟩
  ·exact .inl h
  ·exact .inr ⟨h0,g,m,c,by rw[ahl (λe=>hn (by simp[aaa.nm0,e]))];exact h1,h2⟩
 |clo f caps=>exact h.elim
 |j=>exact h
 |v | t | f | q | z | row | el | fh | m=>exact h
theorem awi {k k':Nat} {c:aaa} {v:Value} (h:GOk G F w c v) (hn:k' ∉ c.nm):GOk (upG G k' (G k)) F w (avK k k' c) v:=by
 cases c with
 |clo f caps=>
  obtain⟨vs,h1,h2,h3⟩:=h;refine⟨vs,h1,by simpa using h2,λi c u h4 h5=> ?_⟩;rw[List.getElem?_map] at h4;cases hc:caps[i]? with
  |none=>rw[hc] at h4;cases h4
  |some c'=>
   rw[hc] at h4;cases h4;exact aeZ (h3 i c' u hc h5) (λhk=>hn (by simp only[aaa.nm,List.mem_flatMap];exact⟨c',List.mem_of_getElem? hc,hk⟩))
 |own j o=>simp only[GOk] at h;exact aeZ h hn
 |hd j=>simp only[GOk] at h;exact aeZ h hn
 |oel j sz i o=>simp only[GOk] at h;exact aeZ h hn
 |pt j sz a n=>simp only[GOk] at h;exact aeZ h hn
 |j=>exact h
 |v | t | f | q | z | row | el | fh | m=>exact h
theorem asd {k k':Nat} {l:List aaa} {vs:List Value} (h:abu (GOk G F w) l vs) (hn:k' ∉ l.flatMap aaa.nm):abu (GOk (upG G k' (G k)) F w) (l.map (avK k k')) vs:=by
 refine⟨by simpa using h.1,λi c u h4 h5=> ?_⟩;rw[List.getElem?_map] at h4;cases hc:l[i]? with
 |none=>rw[hc] at h4;cases h4
 |some c'=>
  rw[hc] at h4;cases h4;exact awi (h.2 i c' u hc h5) (λhk=>hn (List.mem_flatMap.2 ⟨c',List.mem_of_getElem? hc,hk⟩))
theorem asc {k k':Nat} {ag:Bool} {l:List aaa} {v:Value} (h:SOk (GOk G F w) ag l v) (hn:k' ∉ l.flatMap aaa.nm):SOk (GOk (upG G k' (G k)) F w) ag (l.map (avK k k')) v:=by
 cases ag with
 |true=>obtain⟨cs,h1,h2⟩:=h;exact⟨cs,h1,asd h2 hn⟩
 |false=>obtain⟨c,rfl,h2⟩:=h;exact⟨_,rfl,awi h2 (λhk=>hn (by simpa using hk))⟩
theorem azD {k k':Nat} {av:AV} {v:Value} (h:av.ok (GOk G F w) v) (hn:k' ∉ av.nm):(ay1 k k' av).ok (GOk (upG G k' (G k)) F w) v:=by
 cases av with
 |s ag l=>exact asc h hn
 |tup l=>
  obtain⟨vs,h1,h2,h3⟩:=h;refine⟨vs,h1,by simpa using h2,λi p u h4 h5=> ?_⟩;rw[List.getElem?_map] at h4;cases hc:l[i]? with
  |none=>rw[hc] at h4;cases h4
  |some p'=>
   rw[hc] at h4;cases h4;exact asc (h3 i p' u hc h5) (λhk=>hn (List.mem_flatMap.2 ⟨p',List.mem_of_getElem? hc,hk⟩))
theorem akS {α β:Type} (f:α->β) (t:Nat):∀ l:List (Nat × α),lk (l.map λp=>(p.1,f p.2)) t=(lk l t).map f
 |[]=>rfl
 |(t0,x)::l=>by
  simp only[List.map_cons,lk];split
  ·rfl
  ·exact akS f t l
theorem asF {β:Type} {k k':Nat} (f:aae->β) {j:Nat} {b:β} : ∀ {l:List (Nat × aae)},(∀ p∈l,p.1≠k')->lk (l.map λp=>(aif k k' p.1,f p.2)) j=some b->∃ i b0,aif k k' i=j/\i≠k'/\lk l i=some b0/\f b0=b
 |[],_,h=>by cases h
 |(i0,b0)::l,hl,h=>by
  simp only[List.map_cons,lk] at h;split at h
  ·rename_i e;cases h;exact⟨i0,b0,aaq e,hl _ List.mem_cons_self,by simp[lk,Nat.beq_refl],rfl⟩
  ·rename_i e;obtain⟨i,b1,h1,h2,h3,h4⟩:=asF f (λp hp=>hl p (List.mem_cons_of_mem _ hp)) h;refine⟨i,b1,h1,h2,?_,h4⟩;have hne:i0≠i:=by
    rintro rfl;rw[h1,Nat.beq_refl] at e;cases e
   simp only[lk,abI hne];exact h3
theorem anF {α:Type} {k:Nat} : ∀ {l:List (Nat × α)},∀ p∈er l k,p.1≠k
 |[],p,h=>by cases h
 |(j,x)::l,p,h=>by
  simp only[er] at h;split at h
  ·exact anF p h
  ·rename_i e;rcases List.mem_cons.1 h with rfl | h
   ·exact aaY e
   ·exact anF p h
theorem ae2 (hF:∀ g,F g->F' g) {k:Nat} {x:aaa} (hx:(G k).v.oneCell'=true->COk F' w x (G k).v) {c:aaa} {v:Value} (h:abw G F w c v):abw G F' w (abv k x c) v:=by
 have up:∀ {c:aaa} {v:Value},COk F w c v->COk F' w c v:=λh=>h.keep (aaR.refl _) hF (λ_ _=>rfl);have h1:=h.one;cases c with
 |hd j=>
  simp only[abv];split
  ·rename_i e;rw[<- aaq e] at hx;have hx:=hx (by rw[<- h.1];exact h1);rw[show v=(G j).v from h.1];have h2:∀ {c:aaa} {u:Value},COk F' w c u->abw G F' w c u:=λhc=>by
    have:=GOk.of (G:=G) hc;cases hc<;>simpa only[GOk] using this
   exact h2 hx
  ·exact h
 |own j o=>
  simp only[abv];split
  ·exact h1
  ·exact h
 |oel j sz i o=>
  simp only[abv];split
  ·exact h1
  ·exact h
 |pt j sz a n=>
  simp only[abv];split
  ·rename_i e;split
   ·rename_i sz' n' el;split
    ·rename_i e2;have:=aaq e2;subst this;rw[<- aaq e] at hx;show COk F' w _ v;rcases h with ⟨rfl,y,c,rfl⟩ | ⟨h0,g,m,c,h2,h3,rfl⟩
     ·exact .row0
     ·have hx:=hx (by rw[h2];rfl);rw[h2] at hx;cases hx with
      |row0=>omega
      |row vals hF hn hl hc ho=>
       refine .row (λi j=>vals (i+a) j) hF (by omega) (λi hi=>hl _ (by omega)) (λi j hi hj=> ?_) λi j c' hi hj=>ho _ j c' (by omega) hj;have:=hc (i+a) j (by omega) hj;rw[show a*sz+i*sz+j=0+(i+a)*sz+j by rw[Nat.add_mul];omega];exact this
    ·exact h1
   ·exact h1
  ·exact h
 |clo | j=>exact h
 |v | t | f | q | z | row | el | fh | m=>simp only[abw,abv] at h ⊢;exact up h
theorem awF (hF:∀ g,F g->F' g) {k:Nat} {x:aaa} (hx:(G k).v.oneCell'=true->COk F' w x (G k).v) {c:aaa} {v:Value} (h:GOk G F w c v):GOk G F' w (as1 k x c) v:=by
 cases c with
 |clo f caps=>
  obtain⟨vs,rfl,h1,h2⟩:=h;refine⟨vs,rfl,by simpa using h1,λi c v h3 h4=> ?_⟩;rw[List.getElem?_map] at h3;cases hc:caps[i]? with
  |none=>rw[hc] at h3;cases h3
  |some c0=>
   rw[hc] at h3;cases h3;exact ae2 hF hx (h2 i c0 v hc h4)
 |hd j | own j o | oel j sz i o | pt j sz a n | j | v | t | f | q | z | row | el | fh | m=>simp only[GOk,as1] at h ⊢;exact GOk.of0 (ae2 hF hx h)
theorem asO (hF:∀ g,F g->F' g) {k:Nat} {x:aaa} (hx:(G k).v.oneCell'=true->COk F' w x (G k).v) {l:List aaa} {vs:List Value} (h:abu (GOk G F w) l vs):abu (GOk G F' w) (l.map (as1 k x)) vs:=
 ⟨by simpa using h.1,λi c v h3 h4=>by
  rw[List.getElem?_map] at h3;cases hc:l[i]? with
  |none=>rw[hc] at h3;cases h3
  |some c0=>
   rw[hc] at h3;cases h3;exact awF hF hx (h.2 i c0 v hc h4)⟩
theorem awE (hF:∀ g,F g->F' g) {k:Nat} {x:aaa} (hx:(G k).v.oneCell'=true->COk F' w x (G k).v) {ag:Bool} {l:List aaa} {v:Value} (h:SOk (GOk G F w) ag l v):SOk (GOk G F' w) ag (l.map (as1 k x)) v:=by
 cases ag with
 |true=>
  obtain⟨cs,h1,h2⟩:=h;exact⟨cs,h1,asO hF hx h2⟩
 |false=>
  obtain⟨c,rfl,h2⟩:=h;exact⟨_,rfl,awF hF hx h2⟩
theorem azW (hF:∀ g,F g->F' g) {k:Nat} {x:aaa} (hx:(G k).v.oneCell'=true->COk F' w x (G k).v) {av:AV} {v:Value} (h:av.ok (GOk G F w) v):(avN k x av).ok (GOk G F' w) v:=by
 cases av with
 |s ag l=>exact awE hF hx h
 |tup l=>
  obtain⟨vs,rfl,h1,h2⟩:=h;refine⟨vs,rfl,by simpa using h1,λi p u h3 h4=> ?_⟩;rw[List.getElem?_map] at h3;cases hc:l[i]? with
  |none=>rw[hc] at h3;cases h3
  |some p0=>
   rw[hc] at h3;cases h3;exact awE hF hx (h2 i p0 u hc h4)
theorem acZ {T:TypeId} {sz n:Nat} {e:Nat->List aaa} {v:Value} (h:aec B F w T sz n e v) (hF:∀ g,F g->F' g) (hg:∀ g,aa7 v=some g->F' g):COk F' w (.row sz n e) v:=by
 obtain⟨xs,h1,hT,h0,h2,h3⟩:=h;have hcs:=λg hg=>h1.cells (g:=g) hg;obtain⟨hx,⟨e1,hn⟩ | ⟨g,cap,cur,e1,hB,hh,hc,hm,hs,ht⟩⟩:=h1
 ·subst hn;rw[e1];exact .row0
 ·rw[e1] at hcs ⊢;have idx:∀ i j,i<n->j<sz->i*sz+j<xs.length:=λi j hi hj=>by
   rw[hx];have:=Nat.mul_le_mul_right sz (show i+1<=n by omega);rw[Nat.add_mul,Nat.one_mul] at this;omega
  refine .row (λi j=>xs.getD (i*sz+j) undef) (hg g (by rw[e1];rfl)) hc h2 (λi j hi hj=> ?_) λi j c hi hj=> ?_
  ·have hlt:=idx i j hi hj;have:=hcs g rfl _ _ (List.getElem?_eq_getElem hlt);rw[Addr.add_lit] at this;rw[show 0+i*sz+j=0+(i*sz+j) by omega,this];simp[List.getD,List.getElem?_eq_getElem hlt]
  ·have hjl:j<sz:=by rw[<- h2 i hi];exact (List.getElem?_eq_some_iff.1 hj).1
   have hlt:=idx i j hi hjl;have:=h3 i j c _ hi hj (List.getElem?_eq_getElem hlt);simp only[List.getD,List.getElem?_eq_getElem hlt,Option.getD_some];exact this.keep (aaR.refl _) hF (λ_ _=>rfl)
theorem aem {k q:Nat} : ∀ {l:List Nat},q∈l->q≠k->q∈asY k l
 |[],h,_=>by cases h
 |j::l,h,hne=>by
  simp only[asY];split
  ·rename_i e;rcases List.mem_cons.1 h with rfl | h
   ·exact absurd (aaq e) hne
   ·exact aem h hne
  ·rcases List.mem_cons.1 h with rfl | h
   ·exact List.mem_cons_self
   ·exact List.mem_cons_of_mem _ (aem h hne)
theorem ahZ {k q:Nat} {x c:aaa} (hx:x.nm0=[]) (h:q∈(abv k x c).nm0):q∈c.nm0/\q≠k:=by
 cases c with
 |hd j=>
  simp only[abv] at h;split at h
  ·rw[hx] at h;cases h
  ·rename_i e;simp only[aaa.nm0,List.mem_singleton] at h ⊢;exact⟨h,λe2=>aaY e (by rw[<- h];exact e2)⟩
 |own j o=>
  simp only[abv] at h;split at h
  ·cases h
  ·rename_i e;simp only[aaa.nm0,List.mem_singleton] at h ⊢;exact⟨h,λe2=>aaY e (by rw[<- h];exact e2)⟩
 |oel j sz i o=>
  simp only[abv] at h;split at h
  ·cases h
  ·rename_i e;simp only[aaa.nm0,List.mem_singleton] at h ⊢;exact⟨h,λe2=>aaY e (by rw[<- h];exact e2)⟩
 |pt j sz a n=>
  simp only[abv] at h;split at h
  ·split at h
   ·split at h<;>cases h
   ·cases h
  ·rename_i e;simp only[aaa.nm0,List.mem_singleton] at h ⊢;exact⟨h,λe2=>aaY e (by rw[<- h];exact e2)⟩
 |clo | j | v | t | f | q | z | row | el | fh | m=>cases h
theorem ak4 {s:aah} (h:Rep D B m F0 w0 s.fs G F a w) (k:Nat) (x:aaa) (hF:∀ g,F g->F' g) (hF':∀ g,F' g->F g\/(s.fs.b k≠none/\(G k).o g)) (hx:(G k).v.oneCell'=true->COk F' w x (G k).v) (hxn:x.nm0=[]) :
  Rep D B m F0 w0 (aah.kill ⟨s.slots.map λp=>(p.1,avN k x p.2),(er s.blks k).map λp=>(p.1,avM k x p.2)⟩ [k]).fs G F' a w:=by
 have hbl:∀ j b,lk (aah.kill ⟨s.slots.map λp=>(p.1,avN k x p.2),(er s.blks k).map λp=>(p.1,avM k x p.2)⟩ [k]).blks j=some b->j≠k/\∃ b0,lk s.blks j=some b0/\b=avM k x b0/\∀ i∈b.nm,i≠k:=by
  intro j b hb;obtain⟨q1,q2,q3⟩:=ae1 hb;simp only at q1;rw[akS,abG] at q1;split at q1
  ·cases q1
  ·rename_i hne;cases hq:lk s.blks j with
   |none=>rw[hq] at q1;cases q1
   |some b0=>
    rw[hq] at q1;cases q1;exact⟨Ne.symm hne,b0,rfl,rfl,λi hi e=>q3 i hi (by simp[e])⟩
 have hnn:∀ j,(aah.kill ⟨s.slots.map λp=>(p.1,avN k x p.2),(er s.blks k).map λp=>(p.1,avM k x p.2)⟩ [k]).fs.b j≠none->j≠k/\s.fs.b j≠none:=by
  intro j hj;obtain⟨b,hb⟩:=Option.ne_none_iff_exists'.1 hj;obtain⟨q1,b0,q2,_⟩:=hbl j b hb;exact⟨q1,by rw[show s.fs.b j=some b0 from q2];simp⟩
 have hst:ae9 G F w G F' w (λ_=>False):=⟨λ_ _=>rfl,hF,aaR.refl _,λ_ _=>rfl⟩
 have hlt:∀ g,F' g->F g\/(B<=g/\g<w.heap.size/\(s.fs.b k≠none/\(G k).o g)):=λg hg=>(hF' g hg).imp id λ⟨q1,q2⟩=>by
  obtain⟨b,hb⟩:=Option.ne_none_iff_exists'.1 q1;have:=(h.bk k b hb).lt g q2;exact⟨this.1,this.2,q1,q2⟩
 refine⟨h.own,h.bs,λg hg=>hF g (h.f0 g hg),λg hg=> ?_,λg hg=> ?_,λj b hj=> ?_,λj j' q1 q2=>h.ne j j' (hnn j q1).2 (hnn j' q2).2,λj g q1 hg hf=> ?_,λt av ht=> ?_,h.sz,h.df,h.pin,h.fr.1,λg hg=>⟨(h.fr.2 g hg).1,(h.fr.2 g hg).2.1,λhF2=>(h.fr.2 g hg).2.2.1 ((hF' g hF2).elim id λ⟨q1,q2⟩=>absurd q2 ((h.fr.2 g hg).2.2.2 k q1)),λj hj=>(h.fr.2 g hg).2.2.2 j (hnn j hj).2⟩⟩
 ·rcases hlt g hg with hg | hg
  ·exact h.f1 g hg
  ·exact .inr hg.1
 ·rcases hlt g hg with hg | hg
  ·exact h.fl g hg
  ·exact hg.2.1
 ·obtain⟨q1,b0,q2,rfl,q4⟩:=hbl j b hj;have hb0:=h.bk j b0 q2;cases b0 with
  |st T' l=>
   obtain⟨g,cs,e1,hB,hT,h5,h6⟩:=hb0;exact⟨g,cs,e1,hB,hT,h5,asO hF hx h6⟩
  |row T' sz' n' e'=>exact hb0.stay hst (λ_ _ h=>h) (λ_ _=>rfl)
  |rowN T' sz' n' e' nms=>
   obtain⟨v,eu,⟨xs,h1,hT,h0,h2,h3⟩,h4⟩:=hb0;refine⟨v,eu,⟨xs,h1,hT,h0,λi hi=>by rw[List.length_map];exact h2 i hi,λi j c u hi hc hu=> ?_⟩,λi c q hi hc hq=> ?_⟩
   ·rw[List.getElem?_map] at hc;cases h5:(e' i)[j]? with
    |none=>rw[h5] at hc;cases hc
    |some c0=>
     rw[h5] at hc;cases hc;exact ae2 hF hx (h3 i j c0 u hi h5 hu)
   ·obtain⟨c0,hc0,rfl⟩:=List.mem_map.1 hc;obtain⟨r1,r2⟩:=ahZ hxn hq;exact aem (h4 i c0 q hi hc0 r1) r2
  |fam T' sz' n' hc len e' nms=>
   obtain⟨vs,h1,h2,h3⟩:=hb0;have hnn2:∀ i,((hc i).map (abv k x)≠none↔hc i≠none):=λi=>by cases hc i<;>simp
   refine⟨vs,λi c hi hci=> ?_,λg=>(h2 g).trans ⟨λ⟨i,r1,r2,r3⟩=>⟨i,r1,(hnn2 i).2 r2,r3⟩,λ⟨i,r1,r2,r3⟩=>⟨i,r1,(hnn2 i).1 r2,r3⟩⟩,λi j g hi hj r1 r2=>h3 i j g hi hj ((hnn2 i).1 r1) ((hnn2 j).1 r2)⟩;simp only at hci;cases h5:hc i with
   |none=>rw[h5] at hci;cases hci
   |some c0=>
    rw[h5] at hci;cases hci;obtain⟨r1,r2,r3⟩:=h1 i c0 hi h5;refine⟨ae2 hF hx r1,r2.stay hst (λ_ _=>rfl),λq hq=> ?_⟩;obtain⟨r4,r5⟩:=ahZ hxn hq;exact aem (r3 q r4) r5
  |gho=>exact hb0
  |rowP T' sz' n' p=>exact hb0.stay hst (λ_ _ h=>h) (λ_ _=>rfl)
  |mp kd zv n' key ag val nms=>
   obtain⟨⟨g,es,ck,eg,hB,h1,h2,h3,h4⟩,h5⟩:=hb0;have up:∀ {i:Nat} {v:Value},SOk (abw G F w) ag (val i) v->SOk (abw G F' w) ag ((val i).map (abv k x)) v:=λ{i v} hv=>SOk.map hv λc _ v hv=>ae2 hF hx hv;refine⟨⟨g,es,ck,eg,hB,h1,h2,λi e he=> ?_,up h4⟩,λi c q hi hc hq=> ?_⟩
   ·obtain⟨r1,r2,r3⟩:=h3 i e he;exact⟨r1,r2,up r3⟩
   ·obtain⟨c0,hc0,rfl⟩:=List.mem_map.1 hc;obtain⟨r4,r5⟩:=ahZ hxn hq;exact aem (h5 i c0 q hi hc0 r4) r5
 ·obtain⟨q2,q3⟩:=hnn j q1;rcases hlt g hf with hf | ⟨_,_,hkn,hf⟩
  ·exact h.nf j g q3 hg hf
  ·exact h.ne j k q3 hkn q2 g hg hf
 ·obtain⟨q1,_⟩:=anz ht;simp only at q1;rw[akS] at q1;cases hq:lk s.slots t with
  |none=>rw[hq] at q1;cases q1
  |some av0=>
   rw[hq] at q1;cases q1;exact azW hF hx (h.sl t av0 hq)
theorem avl {s:aah} (h:Rep D B m F0 w0 s.fs G F a w) (k:Nat):∃ F',Rep D B m F0 w0 (azj s k).fs G F' a w:=by
 unfold azj;split
 ·rename_i T sz n e hk;obtain⟨v,ev,hok⟩:=h.bk k _ hk;have hkn:s.fs.b k≠none:=by rw[show s.fs.b k=_ from hk];simp
  refine⟨λg=>F g\/(G k).o g,ak4 h k _ (λg hg=> .inl hg) (λg hg=>hg.imp id λh2=>⟨hkn,h2⟩) (λ_=> ?_) rfl⟩;rw[show (G k).v=v by rw[ev];rfl];exact acZ hok (λg hg=> .inl hg) (λg hg=> .inr (by rw[ev];exact hg))
 ·exact⟨F,h⟩
theorem afm {s:aah} (h:Rep D B m F0 w0 s.fs G F a w) (k:Nat) (hk0:k<1000000) (gv:GV) (b:aae) (ho:∀ g,¬ gv.o g) (hb:b.ok B (upG G k gv) F w gv):Rep D B m F0 w0 (aah.mk (s.kill [k]).slots ((k,b)::er (s.kill [k]).blks k)).fs (upG G k gv) F a w:=by
 have hst:ae9 G F w (upG G k gv) F w (λj=>j=k):=⟨λj hj=>by simp[upG,hj],λ_ h=>h,aaR.refl _,λ_ _=>rfl⟩
 have hbl:∀ j b',lk ((k,b)::er (s.kill [k]).blks k) j=some b'->(j=k/\b'=b)\/(j≠k/\lk (s.kill [k]).blks j=some b'):=by
  intro j b' h1;simp only[lk] at h1;split at h1
  ·rename_i e;cases h1;exact .inl ⟨(aaq e).symm,rfl⟩
  ·rename_i e;rw[abG] at h1;split at h1
   ·cases h1
   ·rename_i e2;exact .inr ⟨Ne.symm e2,h1⟩
 have hG:upG G k gv k=gv:=by simp[upG]
 have hGo:∀ j,j≠k->upG G k gv j=G j:=λj hj=>by simp[upG,hj]
 have old:∀ j b',lk (s.kill [k]).blks j=some b'->s.fs.b j≠none:=λj b' h1=>by
  rw[show s.fs.b j=some b' from (ae1 h1).1];simp
 refine⟨h.own,h.bs,h.f0,h.f1,h.fl,λj b' hj=> ?_,λj j' h1 h2 hne g hg=> ?_,λj g h1 hg=> ?_,λt' av ht'=> ?_,h.sz,h.df,λj hj=>by rw[hGo j (by omega)];exact h.pin j hj,h.fr.1,λg hg=>⟨(h.fr.2 g hg).1,(h.fr.2 g hg).2.1,(h.fr.2 g hg).2.2.1,λj hj e=>by
  obtain⟨b1,hb1⟩:=Option.ne_none_iff_exists'.1 hj;rcases hbl j b1 hb1 with ⟨rfl,rfl⟩ | ⟨hn1,q1⟩
  ·rw[hG] at e;exact ho g e
  ·rw[hGo j hn1] at e;exact (h.fr.2 g hg).2.2.2 j (old j b1 q1) e⟩⟩
 ·rcases hbl j b' hj with ⟨rfl,rfl⟩ | ⟨hne,h1⟩
  ·rw[hG];exact hb
  ·rw[hGo j hne];obtain⟨k1,k2,k3⟩:=ae1 h1;exact (h.bk j b' k1).stay hst (λi hi e=>k3 i hi (by simp[e])) (λ_ _=>rfl)
 ·obtain⟨b1,hb1⟩:=Option.ne_none_iff_exists'.1 h1;obtain⟨b2,hb2⟩:=Option.ne_none_iff_exists'.1 h2;rcases hbl j b1 hb1 with ⟨rfl,rfl⟩ | ⟨hn1,q1⟩
  ·rw[hG] at hg;exact absurd hg (ho g)
  ·rcases hbl j' b2 hb2 with ⟨rfl,rfl⟩ | ⟨hn2,q2⟩
   ·rw[hG];exact ho g
   ·rw[hGo j hn1] at hg;rw[hGo j' hn2];exact h.ne j j' (old j b1 q1) (old j' b2 q2) hne g hg
 ·obtain⟨b1,hb1⟩:=Option.ne_none_iff_exists'.1 h1;rcases hbl j b1 hb1 with ⟨rfl,rfl⟩ | ⟨hn1,q1⟩
  ·rw[hG] at hg;exact absurd hg (ho g)
  ·rw[hGo j hn1] at hg;exact h.nf j g (old j b1 q1) hg
 ·obtain⟨k1,k2⟩:=anz ht';exact (h.sl t' av k1).stay hst (λi hi e=>k2 i hi (by simp[e]))
theorem ajM {s:aah} (h:Rep D B m F0 w0 s.fs G F a w) {t:Nat} {av:AV} (hav:av.ok (GOk G F w) (a.tmps.getD t undef)):Rep D B m F0 w0 (aah.mk ((t,av)::er s.slots t) s.blks).fs G F a w:=by
 refine⟨h.own,h.bs,h.f0,h.f1,h.fl,h.bk,h.ne,h.nf,λt' av' ht=> ?_,h.sz,h.df,h.pin,h.fr⟩;have h1:lk ((t,av)::er s.slots t) t'=some av':=ht;simp only[lk] at h1;split at h1
 ·rename_i e;cases h1;rw[<- aaq e];exact hav
 ·rw[abG] at h1;split at h1
  ·cases h1
  ·exact h.sl t' av' h1
theorem anf {s:aah} (h:Rep D B m F0 w0 s.fs G F a w) {p t:Nat} (hpt:p≠t) {b1 b2:aae} {O1 O2:Nat->Prop} (hp:s.fs.b p≠none) (ht:s.fs.b t≠none) (hO:∀ g,O1 g\/O2 g->(G p).o g\/(G t).o g) (hd:∀ g,O1 g->¬ O2 g)
  (h1:∀ G',(∀ j,(G' j).v=(G j).v)->b1.ok B G' F w ⟨(G p).v,O1⟩) (h2:∀ G',(∀ j,(G' j).v=(G j).v)->b2.ok B G' F w ⟨(G t).v,O2⟩):∃ G',Rep D B m F0 w0 (aah.mk s.slots ((p,b1)::(t,b2)::er (er s.blks p) t)).fs G' F a w:=by
 obtain⟨G',hG'⟩:∃ G':Nat->GV,G'=upG (upG G t ⟨(G t).v,O2⟩) p ⟨(G p).v,O1⟩:=⟨_,rfl⟩
 have hGp:G' p=⟨(G p).v,O1⟩:=by rw[hG'];simp[upG]
 have hGt:G' t=⟨(G t).v,O2⟩:=by rw[hG'];simp[upG,Ne.symm hpt]
 have hGo:∀ j,j≠p->j≠t->G' j=G j:=λj h1 h2=>by rw[hG'];simp[upG,h1,h2]
 have hGv:∀ j,(G' j).v=(G j).v:=λj=>by
  by_cases h1:j=p
  ·rw[h1,hGp]
  ·by_cases h2:j=t
   ·rw[h2,hGt]
   ·rw[hGo j h1 h2]
 have hst:ae9 G F w G' F w (λ_=>False):=⟨λj _=>hGv j,λ_ h=>h,aaR.refl _,λ_ _=>rfl⟩
 have hbl:∀ j b,lk ((p,b1)::(t,b2)::er (er s.blks p) t) j=some b->(j=p/\b=b1)\/(j=t/\b=b2)\/(j≠p/\j≠t/\lk s.blks j=some b):=by
  intro j b h1;simp only[lk] at h1;split at h1
  ·rename_i e;cases h1;exact .inl ⟨(aaq e).symm,rfl⟩
  ·rename_i e;split at h1
   ·rename_i e;cases h1;exact .inr (.inl ⟨(aaq e).symm,rfl⟩)
   ·rename_i e2;rw[abG,abG] at h1;split at h1
    ·cases h1
    ·split at h1
     ·cases h1
     ·exact .inr (.inr ⟨Ne.symm (aaY e),Ne.symm (aaY e2),h1⟩)
 have own:∀ j g,(aah.mk s.slots ((p,b1)::(t,b2)::er (er s.blks p) t)).fs.b j≠none->(G' j).o g->s.fs.b j≠none/\((j=p/\O1 g)\/(j=t/\O2 g)\/(j≠p/\j≠t/\(G j).o g)):=by
  intro j g hj hg;obtain⟨b,hb⟩:=Option.ne_none_iff_exists'.1 hj;rcases hbl j b hb with ⟨rfl,_⟩ | ⟨rfl,_⟩ | ⟨q1,q2,q3⟩
  ·rw[hGp] at hg;exact⟨hp,.inl ⟨rfl,hg⟩⟩
  ·rw[hGt] at hg;exact⟨ht,.inr (.inl ⟨rfl,hg⟩)⟩
  ·rw[hGo j q1 q2] at hg;exact⟨by rw[show s.fs.b j=some b from q3];simp,.inr (.inr ⟨q1,q2,hg⟩)⟩
 have pt:∀ j g,s.fs.b j≠none->j≠p->j≠t->(G j).o g->¬ (O1 g\/O2 g):=λj g hj q1 q2 hg hO12=>by
  rcases hO g hO12 with h3 | h3
  ·exact h.ne j p hj hp q1 g hg h3
  ·exact h.ne j t hj ht q2 g hg h3
 refine⟨G',h.own,h.bs,h.f0,h.f1,h.fl,λj b hj=> ?_,λj j' q1 q2 hne g hg hg'=> ?_,λj g q1 hg hF=> ?_,λt' av ht'=>(h.sl t' av ht').stay hst (λ_ _ h=>h),h.sz,h.df,λj hj=>(hGv j).trans (h.pin j hj),h.fr.1,λg hg=>⟨(h.fr.2 g hg).1,(h.fr.2 g hg).2.1,(h.fr.2 g hg).2.2.1,λj hj e=>by
  obtain⟨r1,r2⟩:=own j g hj e;rcases r2 with ⟨rfl,k1⟩ | ⟨rfl,k1⟩ | ⟨k1,k2,k3⟩
  ·rcases hO g (.inl k1) with h3 | h3
   ·exact (h.fr.2 g hg).2.2.2 j hp h3
   ·exact (h.fr.2 g hg).2.2.2 t ht h3
  ·rcases hO g (.inr k1) with h3 | h3
   ·exact (h.fr.2 g hg).2.2.2 p hp h3
   ·exact (h.fr.2 g hg).2.2.2 j ht h3
  ·exact (h.fr.2 g hg).2.2.2 j r1 k3⟩⟩
 ·rcases hbl j b hj with ⟨rfl,rfl⟩ | ⟨rfl,rfl⟩ | ⟨q1,q2,q3⟩
  ·rw[hGp];exact h1 G' hGv
  ·rw[hGt];exact h2 G' hGv
  ·rw[hGo j q1 q2];exact (h.bk j b q3).stay hst (λ_ _ h=>h) (λ_ _=>rfl)
 ·obtain⟨r1,r2⟩:=own j g q1 hg;obtain⟨r3,r4⟩:=own j' g q2 hg';rcases r2 with ⟨rfl,k1⟩ | ⟨rfl,k1⟩ | ⟨k1,k2,k3⟩
  ·rcases r4 with ⟨rfl,k4⟩ | ⟨rfl,k4⟩ | ⟨k4,k5,k6⟩
   ·exact hne rfl
   ·exact hd g k1 k4
   ·exact pt j' g r3 k4 k5 k6 (.inl k1)
  ·rcases r4 with ⟨rfl,k4⟩ | ⟨rfl,k4⟩ | ⟨k4,k5,k6⟩
   ·exact hd g k4 k1
   ·exact hne rfl
   ·exact pt j' g r3 k4 k5 k6 (.inr k1)
  ·rcases r4 with ⟨rfl,k4⟩ | ⟨rfl,k4⟩ | ⟨k4,k5,k6⟩
   ·exact pt j g r1 k1 k2 k3 (.inl k4)
   ·exact pt j g r1 k1 k2 k3 (.inr k4)
   ·exact h.ne j j' r1 r3 hne g k3 k6
 ·obtain⟨r1,r2⟩:=own j g q1 hg;rcases r2 with ⟨rfl,k1⟩ | ⟨rfl,k1⟩ | ⟨k1,k2,k3⟩
  ·rcases hO g (.inl k1) with h3 | h3
   ·exact h.nf j g hp h3 hF
   ·exact h.nf t g ht h3 hF
  ·rcases hO g (.inr k1) with h3 | h3
   ·exact h.nf p g hp h3 hF
   ·exact h.nf j g ht h3 hF
  ·exact h.nf j g r1 k3 hF
theorem apQ {s:aah} (h:Rep D B m F0 w0 s.fs G F a w) {p t T sz n m':Nat} {hc:Nat->Option aaa} {len:Nat->Nat} {e:Nat->Nat->List aaa} {nms:List Nat} {e':Nat->List aaa} (hp:lk s.blks p=some (.fam T sz n hc len e nms)) (ht:lk s.blks t=some (.row T sz m' e')) (hpt:p≠t) :
  ∃ G',Rep D B m F0 w0 (aah.mk s.slots ((p,.fam T sz (n+1) (λj=>if j=n then some (.hd t) else hc j) (λj=>if j=n then m' else len j) (λj=>if j=n then e' else e j) (t::nms))::(t,.gho)::er (er s.blks p) t)).fs G' F a w:=by
 obtain⟨vs,f1,f2,f3⟩:=h.bk p _ hp;obtain⟨v,ev,hr⟩:=h.bk t _ ht;have hpn:s.fs.b p≠none:=by rw[show s.fs.b p=_ from hp];simp
 have htn:s.fs.b t≠none:=by rw[show s.fs.b t=_ from ht];simp
 have hv1:v.oneCell'=true:=by
  obtain⟨xs,h1,_⟩:=hr;obtain⟨_,⟨rfl,_⟩ | ⟨g,cap,cur,rfl,_⟩⟩:=h1<;>rfl
 have hto:∀ g,(G t).o g↔aa7 v=some g:=λg=>by rw[ev];exact Iff.rfl
 refine anf h hpt (O1:=λg=>(G p).o g\/(G t).o g) (O2:=λ_=>False) hpn htn (λg hg=>hg.elim id λh=>h.elim) (λg _ h=>h) (λG' hG'=> ?_) (λG' _ g h=>h);have hst:ae9 G F w G' F w (λ_=>False):=⟨λj _=>hG' j,λ_ h=>h,aaR.refl _,λ_ _=>rfl⟩
 refine⟨λj=>if j=n then v else vs j,λi c hi hci=> ?_,λg=> ?_,λi j g hi hj q1 q2 hne g1 g2=> ?_⟩
 ·by_cases hin:i=n
  ·subst hin;simp only[if_true,Option.some.injEq] at hci ⊢;subst hci;refine⟨⟨by rw[hG',ev];rfl,hv1⟩,hr,λq hq=> ?_⟩;simp only[aaa.nm0,List.mem_singleton] at hq;rw[hq];exact List.mem_cons_self
  ·simp only[if_neg hin] at hci ⊢;obtain⟨k1,k2,k3⟩:=f1 i c (by omega) hci;exact⟨k1.stay hst (λ_ _ h=>h),k2,λq hq=>List.mem_cons_of_mem _ (k3 q hq)⟩
 ·constructor
  ·rintro (hg | hg)
   ·obtain⟨i,q1,q2,q3⟩:=(f2 g).1 hg;have hne:i≠n:=by omega
    exact⟨i,by omega,by simpa[hne] using q2,by simpa[hne] using q3⟩
   ·exact⟨n,by omega,by simp,by simpa using (hto g).1 hg⟩
  ·rintro⟨i,q1,q2,q3⟩;by_cases hin:i=n
   ·subst hin;simp only[if_true] at q3;exact .inr ((hto g).2 q3)
   ·simp only[if_neg hin] at q2 q3;exact .inl ((f2 g).2 ⟨i,by omega,q2,q3⟩)
 ·have mix:∀ j,j<n+1->j≠n->(if j=n then some (aaa.hd t) else hc j)≠none->aa7 (vs j)=some g->aa7 v=some g->False:=λj hj hjn q1 q2 q3=>by
   simp only[if_neg hjn] at q1;exact h.ne p t hpn htn hpt g ((f2 g).2 ⟨j,by omega,q1,q2⟩) ((hto g).2 q3)
  simp only at g1 g2;by_cases hin:i=n
  ·have hjn:j≠n:=λe=>hne (by rw[hin,e]);rw[if_pos hin] at g1;rw[if_neg hjn] at g2;exact mix j hj hjn q2 g2 g1
  ·rw[if_neg hin] at g1;by_cases hjn:j=n
   ·rw[if_pos hjn] at g2;exact mix i hi hin q1 g1 g2
   ·rw[if_neg hjn] at g2;simp only[if_neg hin] at q1;simp only[if_neg hjn] at q2;exact f3 i j g (by omega) (by omega) q1 q2 hne g1 g2
theorem at4 {s s':aah} {ps:List Prop} (h:Rep D B m F0 w0 s.fs G F a w) {t p:Nat} (ht:as8 s t p=some (s',ps)) (hps:aca ps):∃ G',Rep D B m F0 w0 s'.fs G' F a w:=by
 unfold as8 at ht;split at ht
 ·rename_i k0 i x T sz n hc len e nms hsl hp;split at ht
  ·cases ht
  ·rename_i hcond;cases ht;rw[Bool.or_eq_false_iff,Bool.or_eq_false_iff] at hcond;obtain⟨hcond,hlt⟩:=hcond;have ht0:t<1000000:=Nat.not_le.1 λh=>by rw[Nat.ble_eq_true_of_le h] at hlt;cases hlt
   have htp:t≠p:=aaY hcond.1;have htn:t ∉ nms:=λhm=>by
    have:=hcond.2;rw[abH.2 hm] at this;cases this
   obtain⟨⟨hi1,hi2⟩,_⟩:=hps;obtain⟨vs,f1,f2,f3⟩:=h.bk p _ hp;have hpn:s.fs.b p≠none:=by rw[show s.fs.b p=_ from hp];simp
   have hci:hc i≠none:=by rw[hi2];simp
   obtain⟨g1,g2,_⟩:=f1 i _ hi1 hi2;have fhv:∀ {k i:Nat} {x u:Value},abw G F w (.fh k i x) u->u=x/\u.oneCell'=true:=λh=>by
    have h1:=h.one;have h':COk F w (.fh _ _ _) _:=h;cases h';exact⟨rfl,h1⟩
   have hvx:=fhv g1;have hsv:GOk G F w (.fh k0 i x) (a.tmps.getD t undef):=aal (h.sl t _ hsl);have hsx:=fhv hsv
   -- t is new
   have hst0:ae9 G F w (upG G t ⟨vs i,λ_=>False⟩) F w (λj=>j=t):=⟨λj hj=>by simp[upG,hj],λ_ h=>h,aaR.refl _,λ_ _=>rfl⟩
   have h0:=afm h t ht0 ⟨vs i,λ_=>False⟩ .gho (λ_ h=>h) (λ_ h=>h);have hGt:upG G t ⟨vs i,λ_=>False⟩ t=⟨vs i,λ_=>False⟩:=by simp[upG]
   have hGp:upG G t ⟨vs i,λ_=>False⟩ p=G p:=by simp[upG,Ne.symm htp]
   have hkp:lk (s.kill [t]).blks p=some (.fam T sz n hc len e nms):=ai6 hp (λhm=>by simp at hm;exact htp hm.symm) (λq hq hm=>by simp at hm;rw[hm] at hq;exact htn hq);have h1:=ajM (t:=t) (av:= .s false [.hd t]) h0 (aaG ⟨by rw[hGt];rw[hvx.1];exact hsx.1,hsx.2⟩);have hb_p:(aah.mk ((t,AV.s false [.hd t])::er (s.kill [t]).slots t) ((t,aae.gho)::er (s.kill [t]).blks t)).fs.b p=some (.fam T sz n hc len e nms):=by
    show lk ((t,aae.gho)::er (s.kill [t]).blks t) p=_;simp only[lk,abI htp];rw[abG,if_neg htp];exact hkp
   have hb_t:(aah.mk ((t,AV.s false [.hd t])::er (s.kill [t]).slots t) ((t,aae.gho)::er (s.kill [t]).blks t)).fs.b t=some .gho:=by
    show lk ((t,aae.gho)::er (s.kill [t]).blks t) t=_;simp[lk,Nat.beq_refl]
   have H2:=anf h1 (p:=t) (t:=p) htp (b1:= .row T sz (len i) (e i)) (b2:= .fam T sz n (λj=>if j=i then none else hc j) len e nms) (O1:=λg=>aa7 (vs i)=some g) (O2:=λg=>(G p).o g/\aa7 (vs i)≠some g)
    (by rw[hb_t];simp) (by rw[hb_p];simp) (λg hg=> .inr (by rw[hGp];exact hg.elim (λhg=>(f2 g).2 ⟨i,hi1,hci,hg⟩) (λhg=>hg.1))) (λg hg hg2=>hg2.2 hg) (λG' hG'=>by rw[hGt];exact⟨vs i,rfl,g2⟩) (λG' hG'=> ?c2)
   ·obtain⟨G',h2⟩:=H2;refine⟨G',h2.sub (λt' av hh=>hh) λk b hk=> ?_⟩;have hk':lk ((t,aae.row T sz (len i) (e i))::(p,aae.fam T sz n (λj=>if j=i then none else hc j) len e nms)::er (er (s.kill [t]).blks p) t) k=some b:=hk;show lk ((t,aae.row T sz (len i) (e i))::(p,aae.fam T sz n (λj=>if j=i then none else hc j) len e nms)::er (er ((t,aae.gho)::er (s.kill [t]).blks t) t) p) k=some b;simp only[lk] at hk' ⊢;split
    ·rename_i e1;rw[e1] at hk';exact hk'
    ·rename_i e1;rw[e1] at hk';simp only at hk';split
     ·rename_i e2;rw[e2] at hk';exact hk'
     ·rename_i e2;rw[e2] at hk';simp only at hk';rw[abG,abG] at hk';rw[abG,if_neg (aaY e2),abG,if_neg (aaY e1)];simp only[lk,e1];rw[abG,if_neg (aaY e1)];split at hk'
      ·cases hk'
      ·split at hk'
       ·cases hk'
       ·exact hk'
   case c2=>
    rw[hGp];have hst:ae9 G F w G' F w (λj=>j=t):=⟨λj hj=>by rw[hG'];simp[upG,hj],λ_ h=>h,aaR.refl _,λ_ _=>rfl⟩
    refine⟨vs,λj c hj hcj=> ?_,λg=> ?_,λj j' g hj hj' q1 q2=> ?_⟩
    ·have hji:j≠i:=λe=>by rw[e] at hcj;simp at hcj
     simp only[if_neg hji] at hcj;obtain⟨k1,k2,k3⟩:=f1 j c hj hcj;exact⟨k1.stay hst (λq hq e=>htn (by rw[<- e];exact k3 q hq)),k2,k3⟩
    ·constructor
     ·rintro⟨q1,q2⟩;obtain⟨j,r1,r2,r3⟩:=(f2 g).1 q1;have hji:j≠i:=λe=>q2 (by rw[<- e];exact r3);exact⟨j,r1,by simpa[hji] using r2,r3⟩
     ·rintro⟨j,r1,r2,r3⟩;have hji:j≠i:=λe=>r2 (by simp[e]);simp only[if_neg hji] at r2;exact⟨(f2 g).2 ⟨j,r1,r2,r3⟩,λr4=>f3 j i g r1 hi1 r2 hci hji r3 r4⟩
    ·have hji:j≠i:=λe=>q1 (by simp[e]);have hji':j'≠i:=λe=>q2 (by simp[e]);simp only[if_neg hji] at q1;simp only[if_neg hji'] at q2;exact f3 j j' g hj hj' q1 q2
 ·cases ht
theorem ayj {s s':aah} {ps:List Prop} (h:Rep D B m F0 w0 s.fs G F a w) {t k:Nat} (ht:azk s t k=some (s',ps)) (hps:aca ps):∃ G',Rep D B m F0 w0 s'.fs G' F a w:=by
 unfold azk at ht;split at ht
 ·rename_i j sz m' hsl;split at ht
  ·rename_i T sz' n e hj;split at ht
   ·rename_i hcond;cases ht;simp only[Bool.and_eq_true,Bool.not_eq_true'] at hcond;obtain⟨⟨c1,c2⟩,c3⟩:=hcond;have:=aaq c1;subst this;have hkj:k≠j:=aaY c2;have hk0:k<1000000:=Nat.not_le.1 λh=>by rw[Nat.ble_eq_true_of_le h] at c3;cases c3
    obtain⟨hm0,_⟩:=hps;obtain⟨v0,ev,xs,h1,hT,h0,h2,h3⟩:=h.bk j _ hj;have hsv:abw G F w (.pt j sz 0 m') (a.tmps.getD t undef):=(aal (h.sl t _ hsl):GOk G F w (.pt j sz 0 m') _)
    rcases hsv with ⟨q,_⟩ | ⟨_,g,n',c,q1,q2,q3⟩
    ·omega
    rw[ev] at q1;have q1:v0= .slice (some ⟨g,0,none⟩) n' c:=q1;subst q1;have hrow:aec B F w T sz m' e (.slice (some ⟨g,0,none⟩) m' c):=by
     obtain⟨hx,⟨e1,hn⟩ | ⟨g',cap,cur,e1,hB,hh,hc,hm,hs,hta⟩⟩:=h1
     ·cases e1
     ·cases e1;have hmn:m'*sz<=n*sz:=Nat.mul_le_mul_right _ (by omega);refine⟨xs.take (m'*sz),⟨by rw[List.length_take];omega,.inr ⟨g,c,cur,rfl,hB,hh,by omega,hm,hs,by rw[<- hta,List.take_take];congr 1;omega⟩⟩,hT,h0,λi hi=>h2 i (by omega),λi q cc u hi hc2 hu=> ?_⟩;rw[List.getElem?_take] at hu;split at hu
      ·exact h3 i q cc u (by omega) hc2 hu
      ·cases hu
    rw[Nat.zero_mul,Nat.sub_zero] at q3;have hjn:s.fs.b j≠none:=by rw[show s.fs.b j=_ from hj];simp
    have h4:=afm h k hk0 ⟨.slice (some ⟨g,0,none⟩) m' c,λ_=>False⟩ .gho (λ_ h=>h) (λ_ h=>h);have hGk:upG G k ⟨.slice (some ⟨g,0,none⟩) m' c,λ_=>False⟩ k=⟨.slice (some ⟨g,0,none⟩) m' c,λ_=>False⟩:=by simp[upG]
    have hGj:upG G k ⟨.slice (some ⟨g,0,none⟩) m' c,λ_=>False⟩ j=G j:=by simp[upG,Ne.symm hkj]
    have h5:=ajM (t:=t) (av:= .s false [.hd k]) h4 (aaG ⟨by rw[hGk];exact q3,by rw[q3];rfl⟩);have hkp:lk (s.kill [k]).blks j=some (.row T sz n e):=ai6 hj (λhm=>by simp at hm;exact hkj hm.symm) (λq hq=>by cases hq);have hb_j:(aah.mk ((t,AV.s false [.hd k])::er (s.kill [k]).slots t) ((k,aae.gho)::er (s.kill [k]).blks k)).fs.b j=some (.row T sz n e):=by
     show lk ((k,aae.gho)::er (s.kill [k]).blks k) j=_;simp only[lk,abI hkj];rw[abG,if_neg hkj];exact hkp
    have hb_k:(aah.mk ((t,AV.s false [.hd k])::er (s.kill [k]).slots t) ((k,aae.gho)::er (s.kill [k]).blks k)).fs.b k=some .gho:=by
     show lk ((k,aae.gho)::er (s.kill [k]).blks k) k=_;simp[lk,Nat.beq_refl]
    obtain⟨G',h6⟩:=anf h5 (p:=k) (t:=j) hkj (b1:= .row T sz m' e) (b2:= .gho) (O1:=λb=>g=b) (O2:=λ_=>False)
     (by rw[hb_k];simp) (by rw[hb_j];simp) (λb hb=> .inr (by rw[hGj,ev];exact hb.elim (λhb=>congrArg some hb) (λhb=>hb.elim))) (λ_ _ h=>h) (λG' _=>⟨.slice (some ⟨g,0,none⟩) m' c,by
      rw[hGk];unfold GV.one;congr 1
      funext b;simp[aa7],hrow⟩) (λ_ _ _ h=>h)
    refine⟨G',h6.sub (λt' av hh=>hh) λi b hi=> ?_⟩;have hi':lk ((k,aae.row T sz m' e)::er (er (s.kill [k]).blks j) k) i=some b:=hi;show lk ((k,aae.row T sz m' e)::(j,aae.gho)::er (er ((k,aae.gho)::er (s.kill [k]).blks k) k) j) i=some b;simp only[lk] at hi' ⊢;split
    ·rename_i e1;rw[e1] at hi';exact hi'
    ·rename_i e1;rw[e1] at hi';simp only at hi';rw[abG,abG] at hi';split at hi'
     ·cases hi'
     ·split at hi'
      ·cases hi'
      ·rename_i n1 n2;rw[abI n2];simp only;rw[abG,if_neg n2,abG,if_neg n1];simp only[lk,e1];rw[abG,if_neg n1];exact hi'
   ·cases ht
  ·cases ht
 ·cases ht
theorem avk {s s':aah} {ps:List Prop} (h:Rep D B m F0 w0 s.fs G F a w) {mk p:Nat} (ht:atE s mk p=some (s',ps)) (hps:aca ps):∃ F',Rep D B m F0 w0 s'.fs G F' a w:=by
 unfold atE at ht;split at ht
 ·rename_i kd zv n key val nms T sz N hc len e nms' hm hp;split at ht
  ·cases ht
  ·rename_i hne;cases ht;obtain⟨⟨hn,hall⟩,_⟩:=hps;have hne:=aaY hne;have hmn:s.fs.b mk≠none:=by rw[show s.fs.b mk=_ from hm];simp
   have hpn:s.fs.b p≠none:=by rw[show s.fs.b p=_ from hp];simp
   refine⟨λg=>F g\/(G p).o g,?_⟩;have hst:ae9 G F w G (λg=>F g\/(G p).o g) w (λ_=>False):=⟨λ_ _=>rfl,λ_ h=> .inl h,aaR.refl _,λ_ _=>rfl⟩
   have hbl:∀ j b,lk ((mk,aae.mp kd zv n key false (λj=>[.row sz (len j) (e j)]) [])::er (er s.blks mk) p) j=some b->(j=mk/\b= .mp kd zv n key false (λj=>[.row sz (len j) (e j)]) [])\/(j≠mk/\j≠p/\lk s.blks j=some b):=by
    intro j b h1;simp only[lk] at h1;split at h1
    ·rename_i e;cases h1;exact .inl ⟨(aaq e).symm,rfl⟩
    ·rename_i e;rw[abG] at h1;split at h1
     ·cases h1
     ·rename_i e2;rw[abG] at h1;split at h1
      ·cases h1
      ·exact .inr ⟨Ne.symm (aaY e),Ne.symm e2,h1⟩
   have hnn:∀ j,lk ((mk,aae.mp kd zv n key false (λj=>[.row sz (len j) (e j)]) [])::er (er s.blks mk) p) j≠none->s.fs.b j≠none/\j≠p:=by
    intro j hj;obtain⟨b,hb⟩:=Option.ne_none_iff_exists'.1 hj;rcases hbl j b hb with ⟨rfl,_⟩ | ⟨_,h2,h1⟩
    ·exact⟨hmn,hne⟩
    ·exact⟨by rw[show s.fs.b j=some b from h1];simp,h2⟩
   refine⟨h.own,h.bs,λg hg=> .inl (h.f0 g hg),λg hg=> ?_,λg hg=> ?_,λj b hj=> ?_,λj j' h1 h2=>h.ne j j' (hnn j h1).1 (hnn j' h2).1,λj g h1 hg hf=> ?_,λt av ht=>(h.sl t av ht).stay hst λ_ _ h=>h,h.sz,h.df,h.pin,h.fr.1,λg hg=>⟨(h.fr.2 g hg).1,(h.fr.2 g hg).2.1,λhf=> ?_,λj hj=>(h.fr.2 g hg).2.2.2 j (hnn j hj).1⟩⟩
   ·rcases hg with hg | hg
    ·exact h.f1 g hg
    ·exact .inr ((h.bk p _ hp).lt g hg).1
   ·rcases hg with hg | hg
    ·exact h.fl g hg
    ·exact ((h.bk p _ hp).lt g hg).2
   ·rcases hbl j b hj with ⟨rfl,rfl⟩ | ⟨_,_,h1⟩
    ·obtain⟨⟨g,es,ck,eg,hB,k1,k2,k3,k4⟩,k5⟩:=h.bk j _ hm;obtain⟨vs,f1,f2,f3⟩:=h.bk p _ hp;have one:∀ (i:Nat) (v:Value),i<=n->SOk (abw G F w) false (val i) v->SOk (abw G (λg=>F g\/(G p).o g) w) false [.row sz (len i) (e i)] v:=by
      intro i v hi hv;obtain⟨x,e1,e2⟩:=hall i hi;rw[e1] at hv;obtain⟨c,e3,hv⟩:=hv;cases e3;have hvx:v=x:=by
       have hv':COk F w (.fh p i x) v:=hv;cases hv' with
       |fh=>rfl
      obtain⟨r1,r2,_⟩:=f1 i _ (by omega) e2;have hvs:vs i=x:=by
       have hv':COk F w (.fh p i x) (vs i):=r1;generalize vs i=y at hv';cases hv' with
       |fh=>rfl
      rw[hvs] at r2;rw[hvx];exact⟨_,rfl,acZ r2 (λg hg=> .inl hg) (λg hg=> .inr ((f2 g).2 ⟨i,by omega,by rw[e2];simp,by rw[hvs];exact hg⟩))⟩
     refine⟨⟨g,es,ck,eg,hB,k1,k2,λi e' he=> ?_,one n zv (Nat.le_refl n) k4⟩,λi c q _ hc hq=> ?_⟩
     ·obtain⟨r1,r2,r3⟩:=k3 i e' he;have hi:i<es.size:=(Array.getElem?_eq_some_iff.1 he).1;exact⟨r1,r2,one i _ (by omega) r3⟩
     ·rw[List.mem_singleton.1 hc] at hq;cases hq
    ·exact (h.bk j b h1).stay hst (λ_ _ h=>h) (λ_ _=>rfl)
   ·obtain⟨q1,q2⟩:=hnn j h1;rcases hf with hf | hf
    ·exact h.nf j g q1 hg hf
    ·exact h.ne j p q1 hpn q2 g hg hf
   ·rcases hf with hf | hf
    ·exact (h.fr.2 g hg).2.2.1 hf
    ·exact absurd hf ((h.fr.2 g hg).2.2.2 p hpn)
 ·cases ht
theorem afW {s:aah} (h:Rep D B m F0 w0 s.fs G F a w) (x:Adj):∃ G' F',Rep D B m F0 w0 (avQ s x).fs G' F' a w:=by
 cases x with
 |nil t k T sz=>
  simp only[avQ];split
  ·rename_i ht;split
   ·exact⟨G,F,h⟩
   ·rename_i hc;rw[Bool.or_eq_false_iff,Bool.or_eq_false_iff] at hc;obtain⟨hc,hlt⟩:=hc;have hk0:k<1000000:=Nat.not_le.1 λh=>by rw[Nat.ble_eq_true_of_le h] at hlt;cases hlt
    have h0:=afm h k hk0 (GV.one (.slice none 0 0)) (.row T sz 0 λ_=>[]) (λg hg=>by cases hg) ⟨_,rfl,[],World.ownsRow_nil _ _ _ _,aaY hc.1,Nat.pos_of_ne_zero (aaY hc.2),λi hi=>by omega,λi j c v hi=>by omega⟩;refine⟨_,F,ajM (t:=t) (av:= .s false [.hd k]) h0 ?_⟩;have:=(abm (aal (h.sl t _ ht))).1;rw[this];exact aaG ⟨by simp[upG,GV.one],rfl⟩
  ·exact⟨G,F,h⟩
 |ren k k'=>
  simp only[avQ];split
  ·rename_i bk hbk;split
   ·exact⟨G,F,h⟩
   ·rename_i hkk;rw[Bool.or_eq_false_iff] at hkk;obtain⟨hkk,hlt⟩:=hkk;have hk0:k'<1000000:=Nat.not_le.1 λh=>by rw[Nat.ble_eq_true_of_le h] at hlt;cases hlt
    have hne:k≠k':=aaY hkk;have hbl:∀ j b,lk ((er (s.kill [k']).blks k').map λp=>(aif k k' p.1,ayz k k' p.2)) j=some b->∃ i b0,aif k k' i=j/\i≠k'/\lk (s.kill [k']).blks i=some b0/\ayz k k' b0=b:=by
     intro j b h1;obtain⟨i,b0,q1,q2,q3,q4⟩:=asF (ayz k k') (λp hp=>anF p hp) h1;rw[abG] at q3;split at q3
     ·cases q3
     ·exact⟨i,b0,q1,q2,q3,q4⟩
    have inj:∀ i i',i≠k'->i'≠k'->aif k k' i≠aif k k' i'->i≠i':=λi i' _ _ h1 h2=>h1 (by rw[h2]);have nmr:∀ (c:aaa) (nms:List Nat),(∀ q∈c.nm0,q∈nms)->∀ q∈(afa k k' c).nm0,q∈nms.map (aif k k'):=by
     intro c nms hc q hq;cases c with
     |hd j | own j o | oel j sz i o | pt j sz a n=>
      simp only[afa,aaa.nm0,List.mem_singleton] at hq;exact List.mem_map.2 ⟨j,hc j (by simp[aaa.nm0]),hq.symm⟩
     |clo | j | v | t | f | q | z | row | el | fh | m=>cases hq
    refine⟨upG G k' (G k),F,h.own,h.bs,h.f0,h.f1,h.fl,λj b hj=> ?_,λj j' h1 h2 hnj g hg=> ?_,λj g h1 hg=> ?_,λt av ht=> ?_,h.sz,h.df,λj hj=>by rw[show upG G k' (G k) j=G j by simp[upG,show j≠k' by omega]];exact h.pin j hj,h.fr.1,λg hg=>⟨(h.fr.2 g hg).1,(h.fr.2 g hg).2.1,(h.fr.2 g hg).2.2.1,λj hj e=>by
     obtain⟨b,hb⟩:=Option.ne_none_iff_exists'.1 hj;obtain⟨i,b0,rfl,q2,q3,rfl⟩:=hbl j b hb;rw[ahl q2] at e;exact (h.fr.2 g hg).2.2.2 i (by rw[show s.fs.b i=some b0 from (ae1 q3).1];simp) e⟩⟩
    ·obtain⟨i,b0,rfl,q2,q3,rfl⟩:=hbl j b hj;obtain⟨k1,k2,k3⟩:=ae1 q3;rw[ahl q2];have:=h.bk i b0 k1;cases b0 with
     |st T l=>
      obtain⟨g,cs,e1,hB,hT,h5,h6⟩:=this;exact⟨g,cs,e1,hB,hT,h5,asd h6 (λhk=>k3 k' hk (by simp))⟩
     |row T sz n e=>exact this
     |rowN T sz n e nms=>
      obtain⟨v,eu,⟨xs,h1,hT,h0,h2,h3⟩,h4⟩:=this;have hk':k' ∉ nms:=λhm=>k3 k' hm (by simp);refine⟨v,eu,⟨xs,h1,hT,h0,λi hi=>by rw[List.length_map];exact h2 i hi,λi j c u hi hc hu=> ?_⟩,λi c q hi hc hq=> ?_⟩
      ·rw[List.getElem?_map] at hc;cases h5:(e i)[j]? with
       |none=>rw[h5] at hc;cases hc
       |some c0=>
        rw[h5] at hc;cases hc;exact aeZ (h3 i j c0 u hi h5 hu) (λhm=>hk' (h4 i c0 k' hi (List.mem_of_getElem? h5) hm))
      ·obtain⟨c0,hc0,rfl⟩:=List.mem_map.1 hc;exact nmr c0 nms (λq hq=>h4 i c0 q hi hc0 hq) q hq
     |fam T sz n hc len e nms=>
      obtain⟨vs,h1,h2,h3⟩:=this;have hk':k' ∉ nms:=λhm=>k3 k' hm (by simp);have hnn2:∀ i,((hc i).map (afa k k')≠none↔hc i≠none):=λi=>by cases hc i<;>simp
      refine⟨vs,λi c hi hci=> ?_,λg=>(h2 g).trans ⟨λ⟨i,r1,r2,r3⟩=>⟨i,r1,(hnn2 i).2 r2,r3⟩,λ⟨i,r1,r2,r3⟩=>⟨i,r1,(hnn2 i).1 r2,r3⟩⟩,λi j g hi hj r1 r2=>h3 i j g hi hj ((hnn2 i).1 r1) ((hnn2 j).1 r2)⟩;simp only at hci;cases h5:hc i with
      |none=>rw[h5] at hci;cases hci
      |some c0=>
       rw[h5] at hci;cases hci;obtain⟨r1,r2,r3⟩:=h1 i c0 hi h5;exact⟨aeZ r1 (λhm=>hk' (r3 k' hm)),r2,λq hq=>nmr c0 nms r3 q hq⟩
     |gho=>exact this
     |rowP T sz n p=>exact this
     |mp kd zv n key ag val nms=>
      obtain⟨⟨g,es,ck,eg,hB,h1,h2,h3,h4⟩,h5⟩:=this;have hk':k' ∉ nms:=λhm=>k3 k' hm (by simp);have up:∀ {i:Nat} {v:Value},i<=n->SOk (abw G F w) ag (val i) v->SOk (abw (upG G k' (G k)) F w) ag ((val i).map (afa k k')) v:=λ{i v} hi hv=>SOk.map hv λc hc v hv=>aeZ hv (λhm=>hk' (h5 i c k' hi hc hm));refine⟨⟨g,es,ck,eg,hB,h1,h2,λi e he=> ?_,up (Nat.le_refl n) h4⟩,λi c q hi hc hq=> ?_⟩
      ·obtain⟨r1,r2,r3⟩:=h3 i e he;have hi:i<es.size:=(Array.getElem?_eq_some_iff.1 he).1;exact⟨r1,r2,up (by omega) r3⟩
      ·obtain⟨c0,hc0,rfl⟩:=List.mem_map.1 hc;exact nmr c0 nms (λq hq=>h5 i c0 q hi hc0 hq) q hq
    ·obtain⟨b,hb⟩:=Option.ne_none_iff_exists'.1 h1;obtain⟨b',hb'⟩:=Option.ne_none_iff_exists'.1 h2;obtain⟨i,b0,rfl,q2,q3,rfl⟩:=hbl j b hb;obtain⟨i',b0',rfl,q2',q3',rfl⟩:=hbl j' b' hb';rw[ahl q2] at hg;rw[ahl q2'];exact h.ne i i' (by rw[show s.fs.b i=some b0 from (ae1 q3).1];simp) (by rw[show s.fs.b i'=some b0' from (ae1 q3').1];simp) (inj i i' q2 q2' hnj) g hg
    ·obtain⟨b,hb⟩:=Option.ne_none_iff_exists'.1 h1;obtain⟨i,b0,rfl,q2,q3,rfl⟩:=hbl j b hb;rw[ahl q2] at hg;exact h.nf i g (by rw[show s.fs.b i=some b0 from (ae1 q3).1];simp) hg
    ·have ht2:lk ((s.kill [k']).slots.map λp=>(p.1,ay1 k k' p.2)) t=some av:=ht;rw[akS] at ht2;cases hq:lk (s.kill [k']).slots t with
     |none=>rw[hq] at ht2;cases ht2
     |some av0=>
      rw[hq] at ht2;cases ht2;obtain⟨k1,k2⟩:=anz hq;exact azD (h.sl t av0 k1) (λhk=>k2 k' hk (by simp))
  ·exact⟨G,F,h⟩
 |frz k=>
  obtain⟨F',h'⟩:=avl h k;exact⟨G,F',h'⟩
 |fam k T sz=>
  simp only[avQ];split
  ·exact⟨G,F,h⟩
  rename_i hlt;have hk0:k<1000000:=Nat.not_le.1 λh=>by rw[Nat.ble_eq_true_of_le h] at hlt;cases hlt
  exact⟨_,F,afm h k hk0 ⟨undef,λ_=>False⟩ _ (λ_ h=>h) ⟨λ_=>undef,λi c hi=>by omega,λg=>⟨λh=>h.elim,λ⟨i,hi,_⟩=>by omega⟩,λi j g hi=>by omega⟩⟩
 |absorb p t=>
  simp only[avQ];split
  ·rename_i T sz n hc len e nms T' sz' m' e' hp ht;split
   ·rename_i hcond;simp only[Bool.and_eq_true,Bool.not_eq_true'] at hcond;obtain⟨⟨⟨q1,q2⟩,q3⟩,_⟩:=hcond;have:=aaq q1;subst this;have:=aaq q2;subst this;obtain⟨G',h'⟩:=apQ h hp ht (aaY q3);exact⟨G',F,h'⟩
   ·exact⟨G,F,h⟩
  ·exact⟨G,F,h⟩
 |opn t=>exact⟨G,F,h⟩
 |opnR t=>exact⟨G,F,h⟩
 |take t p=>exact⟨G,F,h⟩
 |cut t k=>exact⟨G,F,h⟩
 |say sl bl=>exact⟨G,F,h⟩
 |frzM m p=>exact⟨G,F,h⟩
theorem abh:∀ (l:List Adj) {s:aah} {Q:aah->Prop} {G:Nat->GV} {F:Nat->Prop},agC s l Q->Rep D B m F0 w0 s.fs G F a w->∃ s' G' F',Q s'/\Rep D B m F0 w0 s'.fs G' F' a w
 |[],s,_,G,F,hq,h=>⟨s,G,F,hq,h⟩
 | .opn t::l,s,Q,G,F,hq,h=>by
  have h1:agC (aAi s t (G t).v) l Q:=hq (G t).v;exact abh l h1 (ak4 h t (.v (G t).v) (λ_ h=>h) (λ_ h=> .inl h) (λh1=> .v _ h1) rfl)
 | .opnR k::l,s,Q,G,F,hq,h=>by
  simp only[agC] at hq;split at hq
  ·rename_i T sz n p hk;obtain⟨v,ev,e,he,hr⟩:=h.bk k _ hk;refine abh l (hq e he) (?_:Rep D B m F0 w0 _ G F a w);have hkn:s.fs.b k≠none:=by rw[show s.fs.b k=_ from hk];simp
   have hbl:∀ j b,lk ((k,aae.row T sz n e)::er s.blks k) j=some b->(j=k/\b= .row T sz n e)\/(j≠k/\lk s.blks j=some b):=by
    intro j b h1;simp only[lk] at h1;split at h1
    ·rename_i e;cases h1;exact .inl ⟨(aaq e).symm,rfl⟩
    ·rename_i e;rw[abG] at h1;split at h1
     ·cases h1
     ·rename_i e2;exact .inr ⟨Ne.symm e2,h1⟩
   have hnn:∀ j,lk ((k,aae.row T sz n e)::er s.blks k) j≠none->s.fs.b j≠none:=by
    intro j hj;obtain⟨b,hb⟩:=Option.ne_none_iff_exists'.1 hj;rcases hbl j b hb with ⟨rfl,_⟩ | ⟨_,h1⟩
    ·exact hkn
    ·rw[show s.fs.b j=some b from h1];simp
   refine⟨h.own,h.bs,h.f0,h.f1,h.fl,λj b hj=> ?_,λj j' h1 h2=>h.ne j j' (hnn j h1) (hnn j' h2),λj g h1=>h.nf j g (hnn j h1),h.sl,h.sz,h.df,h.pin,h.fr.1,λg hg=>⟨(h.fr.2 g hg).1,(h.fr.2 g hg).2.1,(h.fr.2 g hg).2.2.1,λj hj=>(h.fr.2 g hg).2.2.2 j (hnn j hj)⟩⟩;rcases hbl j b hj with ⟨rfl,rfl⟩ | ⟨_,h1⟩
   ·exact⟨v,ev,hr⟩
   ·exact h.bk j b h1
  ·exact hq.elim
 | .take t p::l,s,Q,G,F,hq,h=>by
  simp only[agC] at hq;split at hq
  ·rename_i s' ps hs;obtain⟨q1,q2⟩:=acX hq;obtain⟨G',h'⟩:=at4 h hs q1;exact abh l q2 h'
  ·exact hq.elim
 | .cut t k::l,s,Q,G,F,hq,h=>by
  simp only[agC] at hq;split at hq
  ·rename_i s' ps hs;obtain⟨q1,q2⟩:=acX hq;obtain⟨G',h'⟩:=ayj h hs q1;exact abh l q2 h'
  ·exact hq.elim
 | .say sl bl::l,s,Q,G,F,hq,h=>by
  simp only[agC] at hq;obtain⟨G',F',h'⟩:=(aqD hq.1).h _ _ _ _ _ G F _ _ h;exact abh l hq.2 h'
 | .frzM m p::l,s,Q,G,F,hq,h=>by
  simp only[agC] at hq;split at hq
  ·rename_i s' ps hs;obtain⟨q1,q2⟩:=acX hq;obtain⟨F',h'⟩:=avk h hs q1;exact abh l q2 h'
  ·exact hq.elim
 | .nil t k T sz::l,s,Q,G,F,hq,h=>by
  obtain⟨G',F',h'⟩:=afW h (.nil t k T sz);exact abh l hq h'
 | .ren k k'::l,s,Q,G,F,hq,h=>by
  obtain⟨G',F',h'⟩:=afW h (.ren k k');exact abh l hq h'
 | .frz k::l,s,Q,G,F,hq,h=>by
  obtain⟨G',F',h'⟩:=afW h (.frz k);exact abh l hq h'
 | .fam k T sz::l,s,Q,G,F,hq,h=>by
  obtain⟨G',F',h'⟩:=afW h (.fam k T sz);exact abh l hq h'
 | .absorb p t::l,s,Q,G,F,hq,h=>by
  obtain⟨G',F',h'⟩:=afW h (.absorb p t);exact abh l hq h'
end
end Go.Proofs.YtcmplpkmfbhpdaaGreat
namespace Go.Proofs.YtcmplpkmfbhpdaaGreat
open Go Go.RowKit
inductive Xt where
 |n
 |ex (i:Nat)
 |go (l:Nat)
 |r
def ahn:Code->Option Nat
 | .region id _ _=>some id
 | .seq a b=>match ahn a with
  |some k=>some k
  |none=>ahn b
 | .cond _ a b=>match ahn a with
  |some k=>some k
  |none=>ahn b
 | .block _ c=>ahn c
 | .loop c=>ahn c
 | .scope c=>ahn c
 |_=>none
structure abW where
 ι : Type
 ok : ι ->Prop
 st : ι ->aah
 mu : ι ->Nat
 a0:List Adj
 a1:List Adj
 fix:Option (ι ->Nat)
def leV (s s':aah):Prop:=asW s s'.slots/\apV s s'.blks
def aty (step:(aah->Prop)->aah->Prop):Nat->aah->Prop
 |0,_=>False
 |n+1,s=>step (aty step n) s
def ayF (inv:List (Nat × abW)) (n k j:Nat):Option abW:=
 match Nat.blt j n with
 |true=>lk inv (6000000+1000*j+k)
 |false=>none
def inR (get:Nat->Option abW) (j:Nat) (s:aah):Prop:=
 match get j with
 |some J=>agC s J.a0 λs=>∃ i,J.ok i/\leV s (J.st i)
 |none=>False
def ajP (get:Nat->Option abW) (body:(aah->Prop)->aah->Prop):Nat->Nat->Prop
 |0,_=>True
 |n+1,j=>(match get j with
  |some J=>∀ i,J.ok i->body (inR get (j+1)) (J.st i)
  |none=>True)/\ajP get body n (j+1)
theorem agV {get:Nat->Option abW} {body:(aah->Prop)->aah->Prop} : ∀ {n j k:Nat},ajP get body n j->j<=k->k<j+n->∀ J,get k=some J->∀ i,J.ok i->body (inR get (k+1)) (J.st i)
 |0,j,k,_,h1,h2,_,_,_,_=>by omega
 |n+1,j,k,h,h1,h2,J,hJ,i,hi=>by
  by_cases e:j=k
  ·subst e;have:=h.1;rw[hJ] at this;exact this i hi
  ·exact agV h.2 (by omega) (by omega) J hJ i hi
def aAI (inv:List (Nat × abW)) (c:Code):Bool:=
 match ahn c with
 |some k=>(lk inv (2000000+k)).isSome
 |none=>false
def vc (P:Program) (Γ : FuncId->Option Run) (m:Nat) (inv:List (Nat × abW)):Code->aah->(Xt->aah->Prop)->Prop
 | .skip,s,Q=>Q .n s
 | .region id ops draw,s,Q=>match lk inv (1000000+id) with
  |none=>ajy P Γ m ops.toList draw s (Q .n) 64 []
  |some J=>agC s J.a0 λs=>ajy P Γ m ops.toList draw s (λs=>agC s J.a1 (Q .n)) 64 []
 | .seq x y,s,Q=>vc P Γ m inv x s λe s'=>match e with
  | .n=>vc P Γ m inv y s' Q
  | .ex i=>Q (.ex i) s'
  | .go l=>Q (.go l) s'
  | .r=>Q .r s'
 | .cond c x y,s,Q=>match ab3 s.fs c with
  |some (.s false [.t])=>vc P Γ m inv x s Q
  |some (.s false [.f])=>vc P Γ m inv y s Q
  |some (.s false [.v (.bool b)])=>match aAI inv x with
   |true=>match b with
    |true=>vc P Γ m inv x s Q
    |false=>vc P Γ m inv y s Q
   |false=>(b=true->vc P Γ m inv x s Q)/\(b=false->vc P Γ m inv y s Q)
  |_=>False
 | .block id c,s,Q=>vc P Γ m inv c s λe s'=>match e with
  | .n=>Q .n s'
  | .ex i=>match Nat.beq i id with
   |true=>Q .n s'
   |false=>Q (.ex i) s'
  | .go l=>Q (.go l) s'
  | .r=>Q .r s'
 | .loop c,s,Q=>match ahn c with
  |some k=>match lk inv (3000000+k) with
   |some J=>aty (λK s=>vc P Γ m inv c s λe s''=>match e with
     | .n=>K s''
     | .ex i=>Q (.ex i) s''
     | .go l=>Q (.go l) s''
     | .r=>Q .r s'') J.a0.length s
   |none=>match lk inv (5000000+k) with
    |some U=>inR (ayF inv U.a0.length k) 0 s/\ajP (ayF inv U.a0.length k) (λK s=>vc P Γ m inv c s λe s''=>match e with
     | .n=>K s''
     | .ex i=>Q (.ex i) s''
     | .go l=>Q (.go l) s''
     | .r=>Q .r s'') U.a0.length 0
    |none=>match lk inv k with
     |some J=>match J.fix with
      |none=>(agC s J.a0 λs=>∃ i,J.ok i/\leV s (J.st i))/\∀ i,J.ok i->vc P Γ m inv c (J.st i) λe s''=>match e with
       | .n=>agC s'' J.a1 λs''=>∃ i',J.ok i'/\J.mu i'<J.mu i/\leV s'' (J.st i')
       | .ex i=>Q (.ex i) s''
       | .go l=>Q (.go l) s''
       | .r=>Q .r s''
      |some f=>agC s J.a0 λs=>∃ i0,J.ok i0/\leV s (J.st i0)/\∀ i,J.ok i->f i=f i0->vc P Γ m inv c (J.st i) λe s''=>match e with
       | .n=>agC s'' J.a1 λs''=>∃ i',J.ok i'/\f i'=f i0/\J.mu i'<J.mu i/\leV s'' (J.st i')
       | .ex i=>Q (.ex i) s''
       | .go l=>Q (.go l) s''
       | .r=>Q .r s''
     |none=>False
  |none=>False
 | .exit id,s,Q=>Q (.ex id) s
 | .label _,s,Q=>Q .n s
 | .goto l,s,Q=>Q (.go l) s
 | .ret,s,Q=>Q .r s
 |_,_,_=>False
def azr (D:Prop) (B m:Nat) (F0:akF) (w0:World) (Q:Xt->aah->Prop):Exit->Act->World->Prop
 | .normal,a,w=>∃ s G F,Q .n s/\Rep D B m F0 w0 s.fs G F a w
 | .exit i,a,w=>∃ s G F,Q (.ex i) s/\Rep D B m F0 w0 s.fs G F a w
 | .goto l,a,w=>∃ s G F,Q (.go l) s/\Rep D B m F0 w0 s.fs G F a w
 | .ret,a,w=>∃ s G F,Q .r s/\Rep D B m F0 w0 s.fs G F a w
 |_,_,_=>False
theorem Rep.dummyView {D:Prop} {B m:Nat} {F0:akF} {w0:World} {x:FS} {G:Nat->GV} {F:Nat->Prop} {a:Act} {w:World} (h:Rep D B m F0 w0 x G F a w):ad6 B x G F a w:=⟨h.bs,h.fl,h.bk,h.ne,h.nf,h.sl⟩
section
variable {P:Program} {D:Prop} {B m:Nat} {Γ : FuncId->Option Run} {inv:List (Nat × abW)} {F0:akF} {w0:World}
theorem awc (hΓ : ∀ f run,Γ f=some run->aai P D B f run) (hx:P.follows .mixedOrders=true):∀ (c:Code) {s:aah} {Q:Xt->aah->Prop} {G:Nat->GV} {F:Nat->Prop} {a:Act} {w:World},vc P Γ m inv c s Q->Rep D B m F0 w0 s.fs G F a w->c.wp P (azr D B m F0 w0 Q) a w:=by
 intro c;induction c with
 |skip=>intro s Q G F a w h hr;exact wp_skip ⟨s,G,F,h,hr⟩
 |region id ops draw=>
  intro s Q G F a w h hr;simp only[vc] at h;split at h
  ·have:=alf (id:=id) (Qx:=azr D B m F0 w0 Q) hΓ hx hr (λs' G F a w hq hr'=>⟨s',G,F,hq,hr'⟩) 64 [] h;rwa [Array.toArray_toList] at this
  ·rename_i J hJ;obtain⟨s1,G1,F1,h1,hr1⟩:=abh J.a0 h hr;have:=alf (id:=id) (Qx:=azr D B m F0 w0 Q) hΓ hx hr1 (λs' G F a w hq hr'=>by
    obtain⟨s2,G2,F2,h2,hr2⟩:=abh J.a1 hq hr';exact⟨s2,G2,F2,h2,hr2⟩) 64 [] h1
   rwa [Array.toArray_toList] at this
 |seq x y ihx ihy=>
  intro s Q G F a w h hr;refine wp_seq (wp_mono (ihx h hr) λe a w hq=> ?_);cases e with
  |normal=>obtain⟨s',G',F',h1,h2⟩:=hq;exact ihy h1 h2
  |exit i=>obtain⟨s',G',F',h1,h2⟩:=hq;exact⟨s',G',F',h1,h2⟩
  |goto l=>obtain⟨s',G',F',h1,h2⟩:=hq;exact⟨s',G',F',h1,h2⟩
  |ret=>obtain⟨s',G',F',h1,h2⟩:=hq;exact⟨s',G',F',h1,h2⟩
  |panic ch=>exact hq.elim
  |outgrown=>exact hq.elim
 |cond c x y ihx ihy=>
  intro s Q G F a w h hr;simp only[vc] at h;split at h
  ·rename_i hc;exact wp_cond_true (abE (b:=true) (aal (opnd_ok hr.dummyView hc)) (.inl rfl)) (ihx h hr)
  ·rename_i hc;exact wp_cond_false (abE (b:=false) (aal (opnd_ok hr.dummyView hc)) (.inl rfl)) (ihy h hr)
  ·rename_i b hc;split at h
   ·cases b with
    |true=>exact wp_cond_true (abE (b:=true) (aal (opnd_ok hr.dummyView hc)) (.inr rfl)) (ihx h hr)
    |false=>exact wp_cond_false (abE (b:=false) (aal (opnd_ok hr.dummyView hc)) (.inr rfl)) (ihy h hr)
   ·exact wp_cond_split (abE (b:=b) (aal (opnd_ok hr.dummyView hc)) (.inr rfl)) (λhb=>ihx (h.1 hb) hr) (λhb=>ihy (h.2 hb) hr)
  ·exact h.elim
 |block id c ih=>
  intro s Q G F a w h hr;refine wp_block (wp_mono (ih h hr) λe a w hq=> ?_);cases e with
  |normal=>obtain⟨s',G',F',h1,h2⟩:=hq;exact⟨s',G',F',h1,h2⟩
  |exit i=>
   obtain⟨s',G',F',h1,h2⟩:=hq;simp only[Exit.inBlock];simp only at h1;split
   ·rename_i e;rw[e,Nat.beq_refl] at h1;exact⟨s',G',F',h1,h2⟩
   ·rename_i e;rw[abI e] at h1;exact⟨s',G',F',h1,h2⟩
  |goto l=>obtain⟨s',G',F',h1,h2⟩:=hq;exact⟨s',G',F',h1,h2⟩
  |ret=>obtain⟨s',G',F',h1,h2⟩:=hq;exact⟨s',G',F',h1,h2⟩
  |panic ch=>exact hq.elim
  |outgrown=>exact hq.elim
 |loop c ih=>
  intro s Q G F a w h hr;simp only[vc] at h;split at h
  ·rename_i k hk;split at h
   ·rename_i J hJ;refine wp_loop_ghost (λn a w=>∃ s G F,aty (λK s=>vc P Γ m inv c s λe s''=>match e with
     | .n=>K s''
     | .ex i=>Q (.ex i) s''
     | .go l=>Q (.go l) s''
     | .r=>Q .r s'') n s/\Rep D B m F0 w0 s.fs G F a w) J.a0.length ⟨s,G,F,h,hr⟩ ?_
    rintro n a w ⟨s,G,F,h,hr⟩;cases n with
    |zero=>exact h.elim
    |succ n=>
     refine wp_mono (ih h hr) λe a w hq=> ?_;cases e with
     |normal=>
      obtain⟨s',G',F',h1,h2⟩:=hq;exact⟨n,Nat.lt_succ_self n,s',G',F',h1,h2⟩
     |exit i=>obtain⟨s',G',F',h1,h2⟩:=hq;exact⟨s',G',F',h1,h2⟩
     |goto l=>obtain⟨s',G',F',h1,h2⟩:=hq;exact⟨s',G',F',h1,h2⟩
     |ret=>obtain⟨s',G',F',h1,h2⟩:=hq;exact⟨s',G',F',h1,h2⟩
     |panic ch=>exact hq.elim
     |outgrown=>exact hq.elim
   ·split at h
    ·rename_i U hU;obtain⟨hin,hro⟩:=h;obtain⟨get,hget⟩:∃ get:Nat->Option abW,get=ayF inv U.a0.length k:=⟨_,rfl⟩
     rw[<- hget] at hin hro;have hlt:∀ j J,get j=some J->j<U.a0.length:=λj J hJ=>by
      rw[hget] at hJ;unfold ayF at hJ;split at hJ
      ·rename_i hb;simpa[Nat.blt_eq] using hb
      ·cases hJ
     refine wp_loop_ghost (λn a w=>∃ j s G F,j+n=U.a0.length/\inR get j s/\Rep D B m F0 w0 s.fs G F a w) U.a0.length ⟨0,s,G,F,by omega,hin,hr⟩ ?_;rintro n a w ⟨j,s,G,F,hjn,hin,hr⟩;unfold inR at hin;split at hin
     ·rename_i J hJ;have hj:=hlt j J hJ;obtain⟨s1,G1,F1,⟨i,h0,h1⟩,hr1⟩:=abh J.a0 hin hr;obtain⟨G',F',hr'⟩:=(afH h1.1 h1.2).h D B m F0 w0 G1 F1 a w hr1;refine wp_mono (ih (agV hro (Nat.zero_le j) (by omega) J hJ i h0) hr') λe a w hq=> ?_;cases e with
      |normal=>
       obtain⟨s',G',F',h1,h2⟩:=hq;exact⟨n-1,by omega,j+1,s',G',F',by omega,h1,h2⟩
      |exit i=>obtain⟨s',G',F',h1,h2⟩:=hq;exact⟨s',G',F',h1,h2⟩
      |goto l=>obtain⟨s',G',F',h1,h2⟩:=hq;exact⟨s',G',F',h1,h2⟩
      |ret=>obtain⟨s',G',F',h1,h2⟩:=hq;exact⟨s',G',F',h1,h2⟩
      |panic ch=>exact hq.elim
      |outgrown=>exact hq.elim
     ·exact hin.elim
    ·split at h
     ·rename_i J hJ;split at h
      ·obtain⟨hq0,h3⟩:=h;obtain⟨s1,G1,F1,⟨i,h0,h1⟩,hr1⟩:=abh J.a0 hq0 hr;obtain⟨G',F',hr'⟩:=(afH h1.1 h1.2).h D B m F0 w0 G1 F1 a w hr1;refine wp_loop_ghost (λn a w=>∃ i G F,J.ok i/\J.mu i=n/\Rep D B m F0 w0 (J.st i).fs G F a w) (J.mu i) ⟨i,G',F',h0,rfl,hr'⟩ ?_;rintro n a w ⟨i,G,F,hok,rfl,hr⟩;refine wp_mono (ih (h3 i hok) hr) λe a w hq=> ?_;cases e with
       |normal=>
        obtain⟨s1,G1,F1,hq1,k4⟩:=hq;obtain⟨s2,G3,F3,⟨i',k0,k1,k2⟩,k6⟩:=abh J.a1 hq1 k4;obtain⟨G2,F2,k5⟩:=(afH k2.1 k2.2).h D B m F0 w0 G3 F3 a w k6;exact⟨J.mu i',k1,i',G2,F2,k0,rfl,k5⟩
       |exit i=>obtain⟨s',G',F',h1,h2⟩:=hq;exact⟨s',G',F',h1,h2⟩
       |goto l=>obtain⟨s',G',F',h1,h2⟩:=hq;exact⟨s',G',F',h1,h2⟩
       |ret=>obtain⟨s',G',F',h1,h2⟩:=hq;exact⟨s',G',F',h1,h2⟩
       |panic ch=>exact hq.elim
       |outgrown=>exact hq.elim
      ·rename_i f hf;obtain⟨s1,G1,F1,⟨i,h0,h1,h3⟩,hr1⟩:=abh J.a0 h hr;obtain⟨G',F',hr'⟩:=(afH h1.1 h1.2).h D B m F0 w0 G1 F1 a w hr1;refine wp_loop_ghost (λn a w=>∃ i1 G F,J.ok i1/\f i1=f i/\J.mu i1=n/\Rep D B m F0 w0 (J.st i1).fs G F a w) (J.mu i) ⟨i,G',F',h0,rfl,rfl,hr'⟩ ?_;rintro n a w ⟨i1,G,F,hok,hfx,rfl,hr⟩;refine wp_mono (ih (h3 i1 hok hfx) hr) λe a w hq=> ?_;cases e with
       |normal=>
        obtain⟨s1,G1,F1,hq1,k4⟩:=hq;obtain⟨s2,G3,F3,⟨i',k0,kf,k1,k2⟩,k6⟩:=abh J.a1 hq1 k4;obtain⟨G2,F2,k5⟩:=(afH k2.1 k2.2).h D B m F0 w0 G3 F3 a w k6;exact⟨J.mu i',k1,i',G2,F2,k0,kf,rfl,k5⟩
       |exit i=>obtain⟨s',G',F',h1,h2⟩:=hq;exact⟨s',G',F',h1,h2⟩
       |goto l=>obtain⟨s',G',F',h1,h2⟩:=hq;exact⟨s',G',F',h1,h2⟩
       |ret=>obtain⟨s',G',F',h1,h2⟩:=hq;exact⟨s',G',F',h1,h2⟩
       |panic ch=>exact hq.elim
       |outgrown=>exact hq.elim
     ·exact h.elim
  ·exact h.elim
 |rangeFunc f ps x y ihx ihy=>intro s Q G F a w h;exact h.elim
 |exit id=>intro s Q G F a w h hr;exact wp_exit ⟨s,G,F,h,hr⟩
 |scope c ih=>intro s Q G F a w h;exact h.elim
 |label l=>intro s Q G F a w h hr;exact wp_label ⟨s,G,F,h,hr⟩
 |goto l=>intro s Q G F a w h hr;exact wp_goto ⟨s,G,F,h,hr⟩
 |ret=>intro s Q G F a w h hr;exact wp_ret ⟨s,G,F,h,hr⟩
 |refuse why=>intro s Q G F a w h;exact h.elim
end
def ay0 (P:Program) (s:aah):ResultVar->Option (Bool × List aaa)
 | .tmp t=>match lk s.slots t with
  |some (.s ag l)=>some (ag,l)
  |_=>none
 | .cell t T=>match tyI P T,lk s.slots t with
  |some (ag,n),some (.s false [.own k 0])=>match adX s.fs (.own k 0) n with
   |some (l,_)=>match Nat.beq l.length n && (ag || Nat.beq n 1) with
    |true=>some (ag,l)
    |false=>none
   |none=>none
  |_,_=>none
def avV (P:Program) (s:aah):List ResultVar->Option (List (Bool × List aaa))
 |[]=>some []
 |v::l=>match ay0 P s v with
  |some x=>match avV P s l with
   |some xs=>some (x::xs)
   |none=>none
  |none=>none
def apU (s:aah) (c:aaa):aaa:=
 match c with
 | .hd k=>match lk s.blks k with
  |some (.row _ sz n e)=> .row sz n e
  |_=> .j
 | .pt k sz a n=>match lk s.blks k with
  |some (.row _ sz' _ e)=>match Nat.beq sz sz' with
   |true=> .row sz n λi=>e (i+a)
   |false=> .j
  |_=> .j
 | .own .. | .oel .. | .clo .. => .j
 |c=>c
def am0 (P:Program) (s:aah) (l:List ResultVar):Option AV:=
 match avV P s l with
 |some [(ag,l)]=>some (.s ag (l.map (apU s)))
 |some l=>some (.tup (l.map λp=>(p.1,p.2.map (apU s))))
 |none=>none
def aaH (P:Program) (l:List ResultVar) (spec:AV) (e:Xt) (s:aah):Prop:=
 match e with
 | .n | .r=>match am0 P s l with
  |some av=>aac av spec
  |none=>False
 |_=>False
end Go.Proofs.YtcmplpkmfbhpdaaGreat
namespace Go.Proofs.YtcmplpkmfbhpdaaGreat
open Go Go.RowKit
section
variable {P:Program} {D:Prop} {B m:Nat} {F0:akF} {w0:World} {s:aah} {G:Nat->GV} {F:Nat->Prop} {a:Act} {w:World}
def aho (s:aah) (G:Nat->GV) (F:Nat->Prop):Nat->Prop:=λg=>F g\/∃ k,s.fs.b k≠none/\(G k).o g
theorem aoq (h:Rep D B m F0 w0 s.fs G F a w) {c:aaa} {v:Value} (hv:GOk G F w c v) (G':Nat->GV):GOk G' (aho s G F) w (apU s c) v:=by
 have up:∀ {c:aaa} {v:Value},COk F w c v->GOk G' (aho s G F) w c v:=λhc=>GOk.of (hc.keep (aaR.refl _) (λg hg=> .inl hg) (λ_ _=>rfl));have jk:GOk G' (aho s G F) w .j v:=hv.one;cases c with
 |hd k=>
  have hk:v=(G k).v:=(hv:abw G F w (.hd k) v).1;simp only[apU];split
  ·rename_i T sz n e hb;obtain⟨v0,ev,hok⟩:=h.bk k _ hb;rw[ev] at hk;subst hk;exact GOk.of (acZ hok (λg hg=> .inl hg) (λg hg=> .inr ⟨k,by rw[show s.fs.b k=_ from hb];simp,by rw[ev];exact hg⟩))
  ·exact jk
 |pt k sz a n=>
  simp only[apU];split
  ·rename_i T sz' m e hb;split
   ·rename_i e2;have:=aaq e2;subst this;obtain⟨v0,ev,hok⟩:=h.bk k _ hb;have hr:COk (aho s G F) w (.row sz m e) v0:=acZ hok (λg hg=> .inl hg) (λg hg=> .inr ⟨k,by rw[show s.fs.b k=_ from hb];simp,by rw[ev];exact hg⟩);have h3:=ae2 (k:=k) (x:= .row sz m e) (F':=aho s G F) (λg hg=> .inl hg) (λ_=>by rw[ev];exact hr) (show abw G F w (.pt k sz a n) v from hv);simp only[abv,Nat.beq_refl] at h3;exact GOk.of (show COk (aho s G F) w (.row sz n λi=>e (i+a)) v from h3)
   ·exact jk
  ·exact jk
 |own | oel | clo | j=>exact jk
 |v | t | f | q | z | row | el | fh | m=>simp only[GOk,abw] at hv;exact up hv
theorem ak5 (h:Rep D B m F0 w0 s.fs G F a w) {ag:Bool} {l:List aaa} {v:Value} (hv:SOk (GOk G F w) ag l v) (G':Nat->GV):SOk (GOk G' (aho s G F) w) ag (l.map (apU s)) v:=by
 cases ag with
 |true=>
  obtain⟨cs,h1,h2⟩:=hv;refine⟨cs,h1,by simpa using h2.1,λi c u h3 h4=> ?_⟩;rw[List.getElem?_map] at h3;cases hc:l[i]? with
  |none=>rw[hc] at h3;cases h3
  |some c'=>
   rw[hc] at h3;cases h3;exact aoq h (h2.2 i c' u hc h4) G'
 |false=>
  obtain⟨c,rfl,h2⟩:=hv;exact⟨apU s c,rfl,aoq h h2 G'⟩
def akP (tmps:Array Value) (v:ResultVar):Sem Value:=
 match v with
 | .tmp t=>pure (tmps.getD t undef)
 | .cell a t=>do loadVar t (<- asAddr (tmps.getD a undef))
theorem adF (fn:Func) (tmps:Array Value):results fn tmps=(do
  let vs <- fn.results.mapM (akP tmps)
  pure (if h:vs.size=1 then vs[0] else .tuple vs)):=by
 unfold results;congr 2
theorem afJ (h:Rep D B m F0 w0 s.fs G F a w):∀ {rv:List ResultVar} {l:List (Bool × List aaa)},avV P s rv=some l->∃ vs:List Value,(rv.mapM (akP a.tmps)).run P w= .ok vs w/\l.length=vs.length/\∀ (i:Nat) (p:Bool × List aaa) (u:Value),l[i]? =some p->vs[i]? =some u->SOk (GOk G F w) p.1 p.2 u
 |[],l,hl=>by cases hl;exact⟨[],by simp,rfl,λi p u h1=>by simp at h1⟩
 |v::rv,l,hl=>by
  simp only[avV] at hl;split at hl
  ·rename_i x hx;split at hl
   ·rename_i xs hxs;cases hl;obtain⟨vs,h1,h2,h3⟩:=afJ h hxs;have one:∃ u,(akP a.tmps v).run P w= .ok u w/\SOk (GOk G F w) x.1 x.2 u:=by
     cases v with
     |tmp t=>
      simp only[ay0] at hx;split at hx
      ·rename_i ag l hs;cases hx;exact⟨_,rfl,h.sl t _ hs⟩
      ·cases hx
     |cell t T=>
      simp only[ay0] at hx;split at hx
      ·rename_i ag n k hty hs;split at hx
       ·rename_i l ps hc;split at hx
        ·rename_i hn;cases hx;rw[Bool.and_eq_true,Bool.or_eq_true] at hn;have hps:aca ps:=by
          simp only[adX] at hc;split at hc
          ·cases hc;exact trivial
          ·cases hc
         obtain⟨g,off,cs,e1,q1,q2⟩:=ahd h.dummyView hc hps (aal (h.sl t _ hs));have hlen:cs.length=n:=by rw[<- q2.1];exact aaq hn.1
         have hrun:=aiF (P:=P) (w:=w) hty hlen q1 (λhf=>hn.2.elim (λh=>by rw[hf] at h;cases h) aaq);refine⟨if ag then .agg cs.toArray else cs.getD 0 undef,?_,?_⟩
         ·simp only[akP,e1,asAddr];simpa[Instr.loadAt,Instr.sureAddr] using hrun
         ·cases ag with
          |true=>exact⟨cs,rfl,q2⟩
          |false=>
           have:n=1:=hn.2.elim (λh=>by cases h) aaq;subst this;match cs,l,hlen,q2 with
           |[u],[c'],_,q2=>exact⟨c',rfl,q2.2 0 c' u rfl rfl⟩
           |[u],[],_,q2=>cases q2.1
           |[u],_::_::_,_,q2=>cases q2.1
        ·cases hx
       ·cases hx
      ·cases hx
    obtain⟨u,k1,k2⟩:=one;refine⟨u::vs,by simp[List.mapM_cons,k1,h1],by simp[h2],λi p u' h4 h5=> ?_⟩;match i,h4,h5 with
    |0,h4,h5=>cases h4;cases h5;exact k2
    |i+1,h4,h5=>exact h3 i p u' (by simpa using h4) (by simpa using h5)
   ·cases hl
  ·cases hl
theorem aqN (h:Rep D B m F0 w0 s.fs G F a w) {fn:Func} {av:AV} (hr:am0 P s fn.results.toList=some av) (G':Nat->GV):∃ v,(results fn a.tmps).run P w= .ok v w/\av.ok (GOk G' (aho s G F) w) v:=by
 unfold am0 at hr;split at hr
 ·rename_i ag l hl;cases hr;obtain⟨vs,h1,h2,h3⟩:=afJ h hl;match vs,h2 with
  |[u],_=>
   refine⟨u,?_,ak5 h (h3 0 _ u rfl rfl) G'⟩;rw[adF,Array.mapM_eq_mapM_toList];simp[h1]
 ·rename_i l hne hl;cases hr;obtain⟨vs,h1,h2,h3⟩:=afJ h hl;have hn1:¬ vs.length=1:=λe=>by
   rw[<- h2] at e;match l,e,hne with
   |[(ag,l')],_,hne=>exact hne ag l' rfl
  refine⟨.tuple vs.toArray,?_,vs,rfl,by simpa using h2,λi p u h4 h5=> ?_⟩
  ·rw[adF,Array.mapM_eq_mapM_toList];simp[h1,hn1]
  ·rw[List.getElem?_map] at h4;cases hc:l[i]? with
   |none=>rw[hc] at h4;cases h4
   |some p'=>
    rw[hc] at h4;cases h4;exact ak5 h (h3 i p' u hc h5) G'
 ·cases hr
end
def aao:List AV->Nat->List (Nat × AV)
 |[],_=>[]
 |av::l,i=>(i,av)::aao l (i+1)
theorem agf {t:Nat} {av:AV} : ∀ {l:List AV} {i:Nat},lk (aao l i) t=some av->∃ j,t=i+j/\l[j]? =some av
 |[],_,h=>by cases h
 |a::l,i,h=>by
  simp only[aao,lk] at h;split at h
  ·rename_i e;cases h;exact⟨0,(aaq e).symm,rfl⟩
  ·obtain⟨j,h1,h2⟩:=agf h;exact⟨j+1,by omega,by simpa using h2⟩
def aaj (l l':List AV):Prop:=l'.length=l.length/\∀ (i:Nat) (av av':AV),l[i]? =some av->l'[i]? =some av'->aac av av'
theorem aaj.refl (l:List AV):aaj l l:=⟨rfl,λi a b h1 h2=>by rw[h1] at h2;cases h2;exact aac.refl _⟩
theorem aeM {P:Program} {D:Prop} {Γ : FuncId->Option Run} {f:FuncId} {fn:Func} {c:Code} {run:Run} (hΓ : ∀ B f run,Γ f=some run->aai P D B f run) (hx:P.follows .mixedOrders=true) (hf:P.funcs[f]? =some fn) (hb:fn.body=some c) (hc:abQ P f=true)
  (H:∀ b avs t e,run b avs t=some e->aca e.ps->e.set=[]/\∃ spec avs' inv,e.val=some spec/\aaj avs avs'/\avs'.length<=fn.ntmps/\vc P Γ fn.ntmps inv c ⟨aao avs' 0,[]⟩ (aaH P fn.results.toList spec)) (B:Nat):aai P D B f run:=by
 refine⟨hc,λb avs0 t e hr hp G F w vs V hvs0=> ?_⟩;obtain⟨hset,spec,avs,inv,hspec,hle,hlen,hvc⟩:=H b avs0 t e hr hp;have hvs:aed (GOk G F w) avs vs:=⟨by rw[hle.1];exact hvs0.1,λi av v h1 h2=>by
  have hi:i<avs0.length:=by rw[<- hle.1];exact (List.getElem?_eq_some_iff.1 h1).1
  exact (hle.2 i _ av (List.getElem?_eq_getElem hi) h1).h _ _ _ _ (hvs0.2 i _ v (List.getElem?_eq_getElem hi) h2)⟩
 refine calls_of_wp hf hb ?_;have hsz:vs.length=avs.length:=hvs.1.symm;have hrep:Rep D w.heap.size fn.ntmps ⟨F,λk=>(G k).v,λ_=>False,[]⟩ w (aah.mk (aao avs 0) []).fs G F { tmps:=vs.toArray++Array.replicate (fn.ntmps-vs.toArray.size) undef,defers:=[] } w:=by
  refine⟨⟨Below.refl _ _,λ_=>Nat.le_refl _⟩,Nat.le_refl _,λ_ h=>h,λ_ h=> .inl h,V.fl,λk b h=>(by cases h),λk k' h=>absurd rfl h,λk g h=>absurd rfl h,λt av ht=> ?_,(by simp;omega),rfl,λ_ _=>rfl,aaR.refl _,λ_ h=>h.elim⟩;obtain⟨j,e1,e2⟩:=agf (show lk (aao avs 0) t=some av from ht);rw[Nat.zero_add] at e1;subst e1;have hj:t<vs.length:=by rw[hsz];exact (List.getElem?_eq_some_iff.1 e2).1
  have:=hvs.2 t av vs[t] e2 (List.getElem?_eq_getElem hj);have e3:(vs.toArray++Array.replicate (fn.ntmps-vs.toArray.size) undef).getD t undef=vs[t]:=by
   rw[Array.getD_eq_getD_getElem?,Array.getElem?_append_left (by simpa using hj)];simp[hj]
  rw[e3];exact this
 refine wp_mono (awc (hΓ w.heap.size) hx c hvc hrep) λex a w' hq=> ?_;have fin:∀ (s:aah) (G1:Nat->GV) (F1:Nat->Prop),(∃ av,am0 P s fn.results.toList=some av/\aac av spec)->Rep D w.heap.size fn.ntmps ⟨F,λk=>(G k).v,λ_=>False,[]⟩ w s.fs G1 F1 a w'->a.defers=[]/\∃ v,(results fn a.tmps).run P w'= .ok v w'/\
   ∃ v',Ending.returned v=Ending.returned v'/\∃ G' F',acJ D B ⟨λ_=>none,b⟩ (e.rc none [] []) G F w G' F' v' w':=by
  rintro s G1 F1 ⟨av,h1,h2⟩ hr';obtain⟨v,h3,h4⟩:=aqN hr' h1 G;refine⟨hr'.df,v,h3,v,rfl,G,aho s G1 F1,λk _=>rfl,λk _=>rfl,λg hg=> .inl (hr'.f0 g hg),λg hg=> ?_,λg hg=> ?_,hr'.own.b.os,hr'.own.b.tape,hr'.own.b.output,hr'.own.b.size,hr'.own.d,aaC (aar hr'.own.b none),λg hg _=>hr'.own.b.block g hg,λav' hav=> ?_,λk b' hs=> ?_,λk k' b' b2 hs=> ?_⟩
  ·rcases hg with hg | ⟨k,hk,hg⟩
   ·exact (hr'.f1 g hg).imp id .inl
   ·obtain⟨b',hb'⟩:=Option.ne_none_iff_exists'.1 hk;exact .inr (.inl ((hr'.bk k b' hb').lt g hg).1)
  ·rcases hg with hg | ⟨k,hk,hg⟩
   ·exact hr'.fl g hg
   ·obtain⟨b',hb'⟩:=Option.ne_none_iff_exists'.1 hk;exact ((hr'.bk k b' hb').lt g hg).2
  ·rw[show (e.rc none [] []).val=e.val from rfl,hspec] at hav;cases hav;exact h2.h _ _ _ _ h4
  ·rw[show (e.rc none [] []).set=e.set from rfl,hset] at hs;cases hs
  ·rw[show (e.rc none [] []).set=e.set from rfl,hset] at hs;cases hs
 have ret:∀ (x:Xt) (s:aah),aaH P fn.results.toList spec x s->(x= .n\/x= .r)/\∃ av,am0 P s fn.results.toList=some av/\aac av spec:=by
  intro x s h;unfold aaH at h;split at h
  ·split at h
   ·rename_i av hav;exact⟨.inl rfl,av,hav,h⟩
   ·exact h.elim
  ·split at h
   ·rename_i av hav;exact⟨.inr rfl,av,hav,h⟩
   ·exact h.elim
  ·exact h.elim
 cases ex with
 |normal=>obtain⟨s,G1,F1,h1,h2⟩:=hq;exact fin s G1 F1 (ret _ _ h1).2 h2
 |ret=>obtain⟨s,G1,F1,h1,h2⟩:=hq;exact fin s G1 F1 (ret _ _ h1).2 h2
 |exit i=>
  obtain⟨s,G1,F1,h1,h2⟩:=hq;exact h1.elim
 |goto l=>
  obtain⟨s,G1,F1,h1,h2⟩:=hq;exact h1.elim
 |panic ch=>exact hq.elim
 |outgrown=>exact hq.elim
end Go.Proofs.YtcmplpkmfbhpdaaGreat
