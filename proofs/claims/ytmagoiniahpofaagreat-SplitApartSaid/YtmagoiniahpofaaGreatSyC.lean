/-
  Walks by reckoning: the reckoner of a region, and that it reckons right.
-/
import Derived.Test.YtmagoiniahpofaaGreatSyB
namespace Go.Proofs.YtmagoiniahpofaaGreat
open Go Go.RowKit
structure AState where
  slots:List (Nat × AV)
  blks:List (Nat × ABlk)
def AState.fs (s:AState):FS:=⟨lk s.slots,lk s.blks⟩
def er {α:Type} : List (Nat × α)→Nat→List (Nat × α)
  |[],_=>[]
  |(k',x)::l,k=>match Nat.beq k' k with
    |true=>er l k
    |false=>(k',x)::er l k
def erL {α:Type} : List Nat→List (Nat × α)→List (Nat × α)
  |[],l=>l
  |k::ks,l=>erL ks (er l k)
def AState.app (s:AState) (r:Rec):AState:=
  ⟨match r.dst with
    |some t=>match r.val with
      |some av=>(t,av)::er s.slots t
      |none=>er s.slots t
    |none=>s.slots,
   r.set++erL r.del (erL (r.set.map (·.1)) s.blks)⟩
theorem beq_ne' {a b:Nat} (h:a≠b):Nat.beq a b=false:=by
  cases hb:Nat.beq a b with
  |false=>rfl
  |true=>exact absurd (beq_eq hb) h
theorem lk_er {α:Type} (k k':Nat):∀ l:List (Nat × α),lk (er l k) k'=if k=k' then none else lk l k'
  |[]=>by simp[er,lk]
  |(j,x)::l=>by
    simp only[er]
    by_cases h:j=k
    · subst h
      rw[Nat.beq_refl]
      simp only[lk_er j k' l,lk]
      by_cases h2:j=k'
      · simp[h2]
      · simp[h2,beq_ne' h2]
    · rw[beq_ne' h]
      simp only[lk]
      by_cases h2:j=k'
      · subst h2
        simp[Nat.beq_refl,Ne.symm h]
      · simp[beq_ne' h2,lk_er k k' l]
theorem lk_erL {α:Type} (k':Nat):∀ (ks:List Nat) (l:List (Nat × α)),lk (erL ks l) k'=if k'∈ks then none else lk l k'
  |[],l=>by simp[erL]
  |k::ks,l=>by
    simp only[erL]
    rw[lk_erL k' ks,lk_er]
    by_cases h1:k'∈ks
    · simp[h1]
    · by_cases h2:k=k'
      · simp[h2]
      · simp[h1,h2,Ne.symm h2]
theorem lk_append {α:Type} (k:Nat):∀ (l m:List (Nat × α)),lk (l++m) k=match lk l k with | some x=>some x | none=>lk m k
  |[],m=>rfl
  |(j,x)::l,m=>by
    simp only[List.cons_append,lk]
    split
    · rfl
    · exact lk_append k l m
theorem app_fs (s:AState) (r:Rec):(s.app r).fs=r.app s.fs:=by
  have h1:(s.app r).fs.s=(r.app s.fs).s:=by
    funext t
    simp only[AState.fs,AState.app,Rec.app]
    cases hd:r.dst with
    |none=>simp
    |some d=>
      cases hv:r.val with
      |none=>simp[lk_er]
      |some av=>
        simp only[lk,Option.some.injEq]
        by_cases h:d=t
        · simp[h,Nat.beq_refl]
        · simp[h,beq_ne' h,lk_er]
  have h2:(s.app r).fs.b=(r.app s.fs).b:=by
    funext k
    simp only[AState.fs,AState.app,Rec.app]
    rw[lk_append]
    cases hs:lk r.set k with
    |some b=>rfl
    |none=>
      simp only
      rw[lk_erL,lk_erL,if_neg (lk_none hs)]
  cases ha:(s.app r).fs
  cases hb:r.app s.fs
  rw[ha,hb] at h1 h2
  simp only at h1 h2
  rw[h1,h2]
theorem has_iff {k:Nat} : ∀ {l:List Nat},has l k=true↔k∈l
  |[]=>by simp[has]
  |a::l=>by
    simp only[has,List.mem_cons]
    by_cases h:a=k
    · simp[h,Nat.beq_refl]
    · rw[beq_ne' h]
      simp only[has_iff (l:=l)]
      constructor
      · exact .inr
      · rintro (h2 | h2)
        · exact absurd h2.symm h
        · exact h2
theorem has_not {k:Nat} {l:List Nat} (h:has l k=false):k ∉ l:=fun hm=>by
  rw[has_iff.2 hm] at h
  cases h
def only {α:Type} (ks:List Nat):List (Nat × α)→List (Nat × α)
  |[]=>[]
  |(k,x)::l=>match has ks k with
    |true=>(k,x)::only ks l
    |false=>only ks l
theorem lk_only {α:Type} (ks:List Nat) (k:Nat):∀ l:List (Nat × α),lk (only ks l) k=if k∈ks then lk l k else none
  |[]=>by simp[only,lk]
  |(j,x)::l=>by
    simp only[only]
    cases h:has ks j with
    |true=>
      simp only[lk]
      by_cases h2:j=k
      · subst h2
        simp[Nat.beq_refl,has_iff.1 h]
      · simp[beq_ne' h2,lk_only ks k l]
    |false=>
      simp only[lk]
      by_cases h2:j=k
      · subst h2
        simp[lk_only ks j l,has_not h]
      · simp[beq_ne' h2,lk_only ks k l]
def tmpsOf (l:List Operand):List Nat:=l.filterMap fun | .tmp t=>some t | _=>none
def namesOf (s:AState) (l:List Nat):List Nat:=l.flatMap fun t=>match lk s.slots t with
  |some av=>av.nm
  |none=>[]
def namesB (s:AState) (l:List Nat):List Nat:=l.flatMap fun k=>match lk s.blks k with
  |some b=>b.nm
  |none=>[]
def hintC:Cell→List Nat
  | .fh k _ _=>[k]
  |_=>[]
def hintS (s:AState) (l:List Nat):List Nat:=l.flatMap fun t=>match lk s.slots t with
  |some (.s _ l)=>l.flatMap hintC
  |_=>[]
def brOf (s:AState) (o:Oper) (rs:List Nat):List Nat:=
  match o.op with
  | .move _ | .assign _ | .pick .. =>[]
  | .call { callee:= .builtin _,.. } =>namesOf s rs++hintS s rs
  | .call _=>namesOf s rs++(namesB s (namesOf s rs)++namesB s (namesB s (namesOf s rs)))
  |_=>namesOf s rs
inductive SR where
  |ok (r:Rec) (ps:List Prop)
  |need (b:Bool)
  |bad
def exec1 (P:Program) (Γ : FuncId→Option Run) (asm:Option Bool) (isg:Bool) (o:Oper) (s:AState) (gs:List Nat):SR:=
  let rs:=tmpsOf o.op.operands.toList++gs
  let br:=brOf s o rs
  match opx P Γ ⟨lk (only rs s.slots),lk (only br s.blks)⟩ o with
  |none=> .bad
  |some e=>match isg with
    |false=> .ok (e.rc o.dst rs br) e.ps
    |true=>match e.val with
      |some (.s false [.t])=> .ok (e.rc o.dst rs br) e.ps
      |some (.s false [.f])=> .ok (e.rc o.dst rs br) e.ps
      |some (.s false [.v (.bool b)])=>match asm with
        |some c=> .ok (Eff.rc { e with val:=some (.s false [tf c]) } o.dst rs br) ((b=c)::e.ps)
        |none=> .need b
      |_=> .bad
def step1 (P:Program) (Γ : FuncId→Option Run) (asm:Option Bool) (isg:Bool) (ops:List Oper) (o:Oper) (s:AState):SR:=
  match o.guard with
  |none=>exec1 P Γ asm isg o s []
  |some (j,want)=>match ops[j]? with
    |some p=>match p.dst with
      |some d=>match lk s.slots d with
        |some (.s false [.t])=>match want with
          |true=>exec1 P Γ asm isg o s [d]
          |false=> .ok ⟨o.dst,[d],[],some (.tup []),[],[],[]⟩ []
        |some (.s false [.f])=>match want with
          |true=> .ok ⟨o.dst,[d],[],some (.tup []),[],[],[]⟩ []
          |false=>exec1 P Γ asm isg o s [d]
        |some (.tup [])=> .ok ⟨o.dst,[d],[],some (.tup []),[],[],[]⟩ []
        |_=> .bad
      |none=> .bad
    |none=> .bad
theorem OpOK.mono {P:Program} {D:Prop} {B:Nat} {o:Oper} {R R':FS} {r r':Rec} (h:OpOK P D B o R r) (hs:∀ t av,R.s t=some av→R'.s t=some av) (hb:∀ k b,R.b k=some b→R'.b k=some b) (e1:r'.set=r.set) (e2:r'.nws=r.nws) (e3:r'.del=r.del)
    (hv:∀ G F w v av,r'.val=some av→(∀ av,r.val=some av→av.ok (GOk G F w) v)→av.ok (GOk G F w) v):OpOK P D B o R' r':=by
  intro G F a w V
  have hn:∀ k,R.b k≠none→R'.b k≠none:=fun k hk=>by
    obtain⟨b,hb'⟩:=Option.ne_none_iff_exists'.1 hk
    rw[hb k b hb']
    simp
  refine par_mono (h G F a w ⟨V.bs,V.fl,fun k b hk=>V.bk k b (hb k b hk),fun k k' h1 h2=>V.ne k k' (hn k h1) (hn k' h2),fun k g h1=>V.nf k g (hn k h1),fun t av ht=>V.sl t av (hs t av ht)⟩) ?_
  rintro v w' ⟨G',F',p⟩
  have ew:r'.wb=r.wb:=by simp[Rec.wb,e1,e3]
  refine⟨G',F',fun k hk=>p.g k (by rw[e1] at hk;exact hk),fun k hk=>p.gv k (by rw[e2] at hk;exact hk),p.f,fun b hb'=>(p.fn b hb').imp id (fun h=>h.imp id (fun ⟨k,q1,q2,q3⟩=>⟨k,by rw[ew];exact q1,hn k q2,q3⟩)),p.fl,p.os,p.tape,p.out,p.sz,p.dr,p.k,fun g hg hne=>p.h g hg fun k hk hR=>hne k (by rw[ew];exact hk) (hn k hR),fun av hav=>hv G' F' w' v av hav p.v,fun k b hkb=> ?_,fun k k' b b' h1 h2=>p.d k k' b b' (by rw[e1] at h1;exact h1) (by rw[e1] at h2;exact h2)⟩
  rw[e1] at hkb
  obtain⟨q1,q2⟩:=p.s k b hkb
  refine⟨q1,fun g hg=>⟨(q2 g hg).1,?_⟩⟩
  rcases (q2 g hg).2 with h3 | ⟨k0,h4,h5,h6⟩
  · exact .inl h3
  · exact .inr ⟨k0,by rw[ew];exact h4,hn k0 h5,h6⟩
section
variable {P:Program} {D:Prop} {B:Nat} {Γ : FuncId→Option Run} {asm:Option Bool} {isg:Bool} {o:Oper} {s:AState} {gs:List Nat} {r:Rec} {ps:List Prop} {ops:List Oper}
theorem exec1_ok (hΓ : ∀ f run,Γ f=some run→RunOK P D B f run) (h:exec1 P Γ asm isg o s gs= .ok r ps) (hp:allP ps) :
    r.dst=o.dst∧r.rs=tmpsOf o.op.operands.toList++gs∧OpOK P D B o (viewOf s.fs r) r:=by
  have view:∀ (r:Rec),r.rs=tmpsOf o.op.operands.toList++gs→r.br=brOf s o (tmpsOf o.op.operands.toList++gs)→
      (∀ t av,lk (only (tmpsOf o.op.operands.toList++gs) s.slots) t=some av→(viewOf s.fs r).s t=some av)∧∀ k b,lk (only (brOf s o (tmpsOf o.op.operands.toList++gs)) s.blks) k=some b→(viewOf s.fs r).b k=some b:=by
    intro r e1 e2
    refine⟨fun t av ht=> ?_,fun k b hk=> ?_⟩
    · rw[lk_only] at ht
      split at ht
      · rename_i hm
        simp only[viewOf,e1,if_pos hm]
        exact ht
      · cases ht
    · rw[lk_only] at hk
      split at hk
      · rename_i hm
        simp only[viewOf,e2,if_pos hm]
        exact hk
      · cases hk
  unfold exec1 at h
  simp only at h
  split at h
  · cases h
  · rename_i e he
    have base:allP e.ps→OpOK P D B o _ (e.rc o.dst (tmpsOf o.op.operands.toList++gs) (brOf s o (tmpsOf o.op.operands.toList++gs))):=fun hp=>opx_ok hΓ he hp
    have same:allP e.ps→OpOK P D B o (viewOf s.fs (e.rc o.dst (tmpsOf o.op.operands.toList++gs) (brOf s o (tmpsOf o.op.operands.toList++gs)))) (e.rc o.dst (tmpsOf o.op.operands.toList++gs) (brOf s o (tmpsOf o.op.operands.toList++gs))):=fun hp=>
      (base hp).mono (view _ rfl rfl).1 (view _ rfl rfl).2 rfl rfl rfl (fun G F w v av hav hv=>hv av hav)
    split at h
    · cases h
      exact⟨rfl,rfl,same hp⟩
    · split at h
      · cases h
        exact⟨rfl,rfl,same hp⟩
      · cases h
        exact⟨rfl,rfl,same hp⟩
      · rename_i b hv
        split at h
        · rename_i c
          cases h
          refine⟨rfl,rfl,(base hp.2).mono (view _ rfl rfl).1 (view _ rfl rfl).2 rfl rfl rfl (fun G F w v av hav hvv=> ?_)⟩
          cases hav
          have h1:=bool_inv (b:=b) (one_inv (hvv _ hv)) (.inr rfl)
          have hbc:b=c:=hp.1
          rw[h1,hbc]
          refine one_ok ?_
          cases c
          · exact GOk.of .f
          · exact GOk.of .t
        · cases h
      · cases h
theorem step1_ok (hΓ : ∀ f run,Γ f=some run→RunOK P D B f run) (h:step1 P Γ asm isg ops o s= .ok r ps) (hp:allP ps):RecOK P D B ops o (viewOf s.fs r) r:=by
  unfold step1 at h
  split at h
  · rename_i hg
    obtain⟨h1,_,h2⟩:=exec1_ok hΓ h hp
    refine⟨h1,?_⟩
    rw[hg]
    exact h2
  · rename_i j want hg
    split at h
    · rename_i p hp2
      split at h
      · rename_i d hd
        split at h
        · rename_i hl
          split at h
          · obtain⟨h1,h3,h2⟩:=exec1_ok hΓ h hp
            refine⟨h1,?_⟩
            rw[hg]
            exact .inl ⟨p,d,true,hp2,hd,by simp only[viewOf,h3,if_pos (show d∈_++[d] by simp)];exact hl,.inl ⟨rfl,h2⟩⟩
          · cases h
            refine⟨rfl,?_⟩
            rw[hg]
            exact .inl ⟨p,d,true,hp2,hd,by simp only[viewOf,if_pos (show d∈[d] by simp)];exact hl,.inr ⟨by simp,rfl,rfl,rfl⟩⟩
        · rename_i hl
          split at h
          · cases h
            refine⟨rfl,?_⟩
            rw[hg]
            exact .inl ⟨p,d,false,hp2,hd,by simp only[viewOf,if_pos (show d∈[d] by simp)];exact hl,.inr ⟨by simp,rfl,rfl,rfl⟩⟩
          · obtain⟨h1,h3,h2⟩:=exec1_ok hΓ h hp
            refine⟨h1,?_⟩
            rw[hg]
            exact .inl ⟨p,d,false,hp2,hd,by simp only[viewOf,h3,if_pos (show d∈_++[d] by simp)];exact hl,.inl ⟨rfl,h2⟩⟩
        · rename_i hl
          cases h
          refine⟨rfl,?_⟩
          rw[hg]
          exact .inr ⟨p,d,hp2,hd,by simp only[viewOf,if_pos (show d∈[d] by simp)];exact hl,rfl,rfl,rfl⟩
        · cases h
      · cases h
    · cases h
end
end Go.Proofs.YtmagoiniahpofaaGreat
namespace Go.Proofs.YtmagoiniahpofaaGreat
open Go Go.RowKit
def freshIn (x0:AState) (k:Nat):Bool:=(lk x0.blks k).isNone && x0.slots.all (fun p=> !has p.2.nm k) && x0.blks.all (fun p=> !has p.2.nm k)
def chk1 (m:Nat) (x0 s:AState) (r:Rec) (tch:List Nat):Bool:=
 (match r.dst with | some d=>Nat.blt d m | none=>true) &&
 (r.set.all (fun p=>(has r.nws p.1 || (has r.br p.1 && (lk s.blks p.1).isSome))) &&
 (r.nws.all (fun k=>freshIn x0 k && (!has tch k && (has r.wb k && Nat.blt k 1000000))) &&
 r.del.all (fun k=>has r.br k && (lk s.blks k).isSome)))
inductive RR where
 |ok (rs:List Rec) (ps:List Prop) (s:AState)
 |need (i:Nat) (b:Bool)
 |bad (i:Nat)
def runs (P:Program) (Γ : FuncId→Option Run) (m:Nat) (asm:List (Nat × Bool)) (gl:List Nat) (all:List Oper) (x0:AState):List Oper→Nat→AState→List Nat→RR
 |[],_,s,_=> .ok [] [] s
 |o::os,i,s,tch=>match step1 P Γ (lk asm i) (has gl i) all o s with
  | .ok r ps=>match chk1 m x0 s r tch with
   |true=>match runs P Γ m asm gl all x0 os (i+1) (s.app r) (r.mn++r.wb++tch) with
    | .ok rs ps' s'=> .ok (r::rs) (ps++ps') s'
    |e=>e
   |false=> .bad i
  | .need b=> .need i b
  | .bad=> .bad i
structure Rec1 (m:Nat) (x0:FS) (y:FS) (r:Rec) (tch:List Nat):Prop where
 dst:∀ d,r.dst=some d→d<m
 old:∀ k b,lk r.set k=some b→k ∉ r.nws→k∈r.br∧y.b k≠none
 del:∀ k,k∈r.del→k∈r.br∧y.b k≠none
 nwb:∀ k,k∈r.nws→k∈r.wb
 nx:∀ k,k∈r.nws→x0.b k=none∧(∀ t av,x0.s t=some av→k ∉ av.nm)∧(∀ k' b',x0.b k'=some b'→k ∉ b'.nm)∧k<1000000∧k ∉ tch
theorem freshIn_ok {x0:AState} {k:Nat} (h:freshIn x0 k=true):x0.fs.b k=none∧(∀ t av,x0.fs.s t=some av→k ∉ av.nm)∧∀ k' b',x0.fs.b k'=some b'→k ∉ b'.nm:=by
 unfold freshIn at h
 simp only[Bool.and_eq_true,Option.isNone_iff_eq_none,List.all_eq_true,Bool.not_eq_true'] at h
 exact⟨h.1.1,fun t av ht=>has_not (h.1.2 _ (lk_mem ht)),fun k' b' hb=>has_not (h.2 _ (lk_mem hb))⟩
theorem chk1_ok {m:Nat} {x0 s:AState} {r:Rec} {tch:List Nat} (h:chk1 m x0 s r tch=true):Rec1 m x0.fs s.fs r tch:=by
 unfold chk1 at h
 rw[Bool.and_eq_true,Bool.and_eq_true,Bool.and_eq_true] at h
 obtain⟨h1,h2,h5,h3⟩:=h
 have some_ne:∀ k,(lk s.blks k).isSome=true→s.fs.b k≠none:=fun k hk e=>by
  rw[show lk s.blks k=none from e] at hk
  cases hk
 refine⟨fun d hd=> ?_,fun k b hs hn=> ?_,fun k hd=> ?_,fun k hn=> ?_,fun k hn=> ?_⟩
 ·rw[hd] at h1
  simpa[Nat.blt_eq] using h1
 ·have h6:=List.all_eq_true.1 h2 _ (lk_mem hs)
  simp only[Bool.and_eq_true,Bool.or_eq_true] at h6
  rcases h6 with h7 | h7
  ·exact absurd (has_iff.1 h7) hn
  ·exact⟨has_iff.1 h7.1,some_ne k h7.2⟩
 ·have h6:=List.all_eq_true.1 h3 _ hd
  simp only[Bool.and_eq_true] at h6
  exact⟨has_iff.1 h6.1,some_ne k h6.2⟩
 ·have h6:=List.all_eq_true.1 h5 _ hn
  simp only[Bool.and_eq_true] at h6
  exact has_iff.1 h6.2.2.1
 ·have h6:=List.all_eq_true.1 h5 _ hn
  simp only[Bool.and_eq_true,Bool.not_eq_true'] at h6
  obtain⟨q1,q2,q3⟩:=freshIn_ok h6.1
  exact⟨q1,q2,q3,by simpa[Nat.blt_eq] using h6.2.2.2,has_not h6.2.1⟩
theorem stF_shift (f:Nat→Bool):∀ (rs:List Rec) (i:Nat) (x:FS),stF rs (i+1) f x=stF rs i (fun n=>f (n+1)) x
 |[],_,_=>rfl
 |r::rs,i,x=>by
  simp only[stF]
  exact stF_shift f rs (i+1) _
theorem seqF_zero (rs:List Rec) (x:FS):seqF rs 0 x=x:=by
 have:∀ (rs:List Rec) (i:Nat),stF rs i (fun j=>decide (j<0)) x=x:=fun rs=>by
  induction rs with
  |nil=>intro i;rfl
  |cons r rs ih=>intro i;simp only[stF];exact ih _
 exact this rs 0
theorem seqF_cons (r:Rec) (rs:List Rec) (j:Nat) (x:FS):seqF (r::rs) (j+1) x=seqF rs j (r.app x):=by
 unfold seqF
 simp only[stF]
 rw[stF_shift]
 simp
section
variable {P:Program} {D:Prop} {B m:Nat} {Γ : FuncId→Option Run} {asm:List (Nat × Bool)} {gl:List Nat} {all:List Oper} {x0:AState}
theorem runs_ok (hΓ : ∀ f run,Γ f=some run→RunOK P D B f run):∀ (os:List Oper) (i:Nat) (s:AState) (tch:List Nat) {rs:List Rec} {ps:List Prop} {s':AState},runs P Γ m asm gl all x0 os i s tch= .ok rs ps s'→allP ps→
  rs.length=os.length∧s'.fs=stF rs 0 (fun _=>true) s.fs∧(∀ (j:Nat) (o:Oper) (r:Rec),os[j]? =some o→rs[j]? =some r→RecOK P D B all o (viewOf (seqF rs j s.fs) r) r)∧
  ∀ (j:Nat) (r:Rec),rs[j]? =some r→∃ tch':List Nat,Rec1 m x0.fs (seqF rs j s.fs) r tch'∧(∀ k,k∈tch→k∈tch')∧∀ (j':Nat) (r':Rec),j'<j→rs[j']? =some r'→∀ k,(k∈r'.mn∨k∈r'.wb)→k∈tch'
 |[],_,s,_,rs,ps,s',h,_=>by
  cases h
  exact⟨rfl,rfl,fun j o r h1=>by simp at h1,fun j r h1=>by simp at h1⟩
 |o::os,i,s,tch,rs,ps,s',h,hp=>by
  simp only[runs] at h
  split at h
  ·rename_i r ps1 h1
   split at h
   ·rename_i hc
    split at h
    ·rename_i rs2 ps2 s2 h2
     cases h
     obtain⟨p1,p2⟩:=allP_append hp
     obtain⟨q1,q2,q3,q4⟩:=runs_ok hΓ os (i+1) (s.app r) _ h2 p2
     rw[app_fs] at q2 q3 q4
     refine⟨by simp[q1],?_,fun j o' r' h3 h4=> ?_,fun j r' h4=> ?_⟩
     ·simp only[stF,if_true]
      rw[stF_shift]
      exact q2
     ·match j,h3,h4 with
      |0,h3,h4=>
       cases h3;cases h4
       rw[seqF_zero]
       exact step1_ok hΓ h1 p1
      |j+1,h3,h4=>
       rw[seqF_cons]
       exact q3 j o' r' (by simpa using h3) (by simpa using h4)
     ·match j,h4 with
      |0,h4=>
       cases h4
       rw[seqF_zero]
       exact⟨tch,chk1_ok hc,fun k hk=>hk,fun j' r' hlt=>by omega⟩
      |j+1,h4=>
       rw[seqF_cons]
       obtain⟨t,k1,k2,k3⟩:=q4 j r' (by simpa using h4)
       refine⟨t,k1,fun k hk=>k2 k (List.mem_append_right _ hk),fun j' r'' hlt h5 k hk=> ?_⟩
       match j',h5 with
       |0,h5=>
        cases h5
        exact k2 k (List.mem_append_left _ (List.mem_append.2 hk))
       |j'+1,h5=>exact k3 j' r'' (by omega) (by simpa using h5) k hk
    ·rename_i hne
     exact absurd h (hne rs ps s')
   ·cases h
  ·cases h
  ·cases h
end
def indepB (r q:Rec):Bool:=
 (match r.dst with | some d=> !has q.rs d && (match q.dst with | some d'=> !Nat.beq d' d | none=>true) | none=>true) &&
 ((match q.dst with | some d=> !has r.rs d | none=>true) &&
 (r.wb.all (fun k=> !has q.wb k && !has q.br k) && (q.wb.all (fun k=> !has r.br k) && r.nws.all (fun k=> !has q.mn k))))
theorem indepB_ok {r q:Rec} (h:indepB r q=true):Indep r q:=by
 unfold indepB at h
 rw[Bool.and_eq_true,Bool.and_eq_true,Bool.and_eq_true,Bool.and_eq_true] at h
 obtain⟨h1,h2,h3,h4,h5⟩:=h
 refine⟨fun d hd=> ?_,fun d hd=> ?_,fun k hk=> ?_,fun k hk=> ?_,fun k hk=> ?_⟩
 ·rw[hd] at h1
  simp only[Bool.and_eq_true,Bool.not_eq_true'] at h1
  refine⟨has_not h1.1,fun e=> ?_⟩
  rw[e] at h1
  simp[Nat.beq_refl] at h1
 ·rw[hd] at h2
  simp only[Bool.not_eq_true'] at h2
  exact has_not h2
 ·have:=List.all_eq_true.1 h3 k hk
  simp only[Bool.and_eq_true,Bool.not_eq_true'] at this
  exact⟨has_not this.1,has_not this.2⟩
 ·have:=List.all_eq_true.1 h4 k hk
  simp only[Bool.not_eq_true'] at this
  exact has_not this
 ·have:=List.all_eq_true.1 h5 k hk
  simp only[Bool.not_eq_true'] at this
  exact has_not this
def indFrom (i:Nat) (r:Rec) (D:List (List Nat)):List Rec→Nat→Bool
 |[],_=>true
 |q::qs,j=>(has (D.getD j []) i || indepB r q) && indFrom i r D qs (j+1)
def indAll (D:List (List Nat)):List Rec→Nat→Bool
 |[],_=>true
 |r::rs,i=>indFrom i r D rs (i+1) && indAll D rs (i+1)
theorem indFrom_ok {i:Nat} {r:Rec} {D:List (List Nat)} : ∀ {qs:List Rec} {j0:Nat},indFrom i r D qs j0=true→∀ (j:Nat) (q:Rec),qs[j]? =some q→i∈D.getD (j0+j) []∨Indep r q
 |[],_,_,j,q,h=>by simp at h
 |q0::qs,j0,h,j,q,hq=>by
  simp only[indFrom,Bool.and_eq_true,Bool.or_eq_true] at h
  match j,hq with
  |0,hq=>cases hq;exact h.1.imp has_iff.1 indepB_ok
  |j+1,hq=>
   have:=indFrom_ok h.2 j q (by simpa using hq)
   rwa [show j0+1+j=j0+(j+1) by omega] at this
theorem indAll_ok {D:List (List Nat)} : ∀ {rs:List Rec} {i0:Nat},indAll D rs i0=true→∀ (i j:Nat) (r q:Rec),i<j→rs[i]? =some r→rs[j]? =some q→i0+i∈D.getD (i0+j) []∨Indep r q
 |[],_,_,i,j,r,q,_,h,_=>by simp at h
 |r0::rs,i0,h,i,j,r,q,hij,hr,hq=>by
  simp only[indAll,Bool.and_eq_true] at h
  match i,j,hij,hr,hq with
  |0,j+1,_,hr,hq=>
   cases hr
   have:=indFrom_ok h.1 j q (by simpa using hq)
   rwa [show i0+1+j=i0+(j+1) by omega] at this
  |i+1,j+1,hij,hr,hq=>
   have:=indAll_ok h.2 i j r q (by omega) (by simpa using hr) (by simpa using hq)
   rwa [show i0+1+i=i0+(i+1) by omega,show i0+1+j=i0+(j+1) by omega] at this
def unionN:List Nat→List Nat→List Nat
 |[],m=>m
 |a::l,m=>match has m a with
  |true=>unionN l m
  |false=>unionN l (a::m)
def edgesOf (o:Oper):List Nat:=(o.after.toList.filter (Region.binds .any)).map (·.on)
def closD:List Oper→List (List Nat)→List (List Nat)
 |[],acc=>acc
 |o::os,acc=>closD os (acc++[(edgesOf o).foldl (fun l e=>unionN (e::acc.getD e []) l) []])
def edgeOK:List Oper→Nat→Bool
 |[],_=>true
 |o::os,i=>(edgesOf o).all (fun e=>Nat.blt e i) && edgeOK os (i+1)
def closOK (D:List (List Nat)):List (List Nat)→List Oper→Bool
 |[],_=>true
 |d::ds,os=>match os with
  |[]=>d.isEmpty && closOK D ds []
  |o::os=>d.all (fun j=>(edgesOf o).any fun e=>Nat.beq e j || has (D.getD e []) j) && closOK D ds os
theorem mem_edges {o:Oper} {k:Nat} : k∈edgesOf o↔∃ e∈o.after,Region.binds .any e=true∧e.on=k:=by
 simp only[edgesOf,List.mem_map,List.mem_filter,Array.mem_toList_iff]
 constructor
 ·rintro⟨e,⟨h1,h2⟩,h3⟩;exact⟨e,h1,h2,h3⟩
 ·rintro⟨e,h1,h2,h3⟩;exact⟨e,⟨h1,h2⟩,h3⟩
theorem edgeOK_ok:∀ {os:List Oper} {i0:Nat},edgeOK os i0=true→∀ (i:Nat) (o:Oper),os[i]? =some o→∀ e∈o.after,Region.binds .any e=true→e.on<i0+i
 |[],_,_,i,o,h=>by simp at h
 |o0::os,i0,h,i,o,ho=>by
  simp only[edgeOK,Bool.and_eq_true] at h
  match i,ho with
  |0,ho=>
   cases ho
   intro e he hb
   have:=List.all_eq_true.1 h.1 e.on (mem_edges.2 ⟨e,he,hb,rfl⟩)
   simpa[Nat.blt_eq] using this
  |i+1,ho=>
   have:=edgeOK_ok h.2 i o (by simpa using ho)
   rwa [show i0+1+i=i0+(i+1) by omega] at this
theorem closOK_ok {D:List (List Nat)} : ∀ {ds:List (List Nat)} {os:List Oper},closOK D ds os=true→∀ (i j:Nat),j∈ds.getD i []→∃ o,os[i]? =some o∧∃ e∈o.after,Region.binds .any e=true∧(j=e.on∨j∈D.getD e.on [])
 |[],_,_,i,j,h=>by simp at h
 |d::ds,[],h,i,j,hj=>by
  simp only[closOK,Bool.and_eq_true,List.isEmpty_iff] at h
  match i,hj with
  |0,hj=>rw[h.1] at hj;simp at hj
  |i+1,hj=>
   obtain⟨o,ho,_⟩:=closOK_ok h.2 i j (by simpa using hj)
   simp at ho
 |d::ds,o0::os,h,i,j,hj=>by
  simp only[closOK,Bool.and_eq_true] at h
  match i,hj with
  |0,hj=>
   have:=List.all_eq_true.1 h.1 j (by simpa using hj)
   rw[List.any_eq_true] at this
   obtain⟨e,he,h2⟩:=this
   obtain⟨e',h3,h4,h5⟩:=mem_edges.1 he
   rw[Bool.or_eq_true] at h2
   refine⟨o0,rfl,e',h3,h4,?_⟩
   rw[h5]
   exact h2.imp (fun q=>(beq_eq q).symm) has_iff.1
  |i+1,hj=>
   obtain⟨o,ho,h3⟩:=closOK_ok h.2 i j (by simpa using hj)
   exact⟨o,by simpa using ho,h3⟩
def newNames (ops:List Oper):List Nat:=ops.filterMap fun o=>match o.op with
 | .alloc _ | .box .. | .buildSlice .. | .makeSlice .. | .call _=>o.dst
 |_=>none
def noNm (ts:List Nat) (l:List Nat):Bool:=l.all fun k=> !has ts k
def dropS (ts:List Nat):List (Nat × AV)→List (Nat × AV)
 |[]=>[]
 |(t,av)::l=>match noNm ts av.nm with
  |true=>(t,av)::dropS ts l
  |false=>er (dropS ts l) t
def dropB (ts:List Nat):List (Nat × ABlk)→List (Nat × ABlk)
 |[]=>[]
 |(k,b)::l=>match noNm ts b.nm && !has ts k with
  |true=>(k,b)::dropB ts l
  |false=>er (dropB ts l) k
def AState.kill (s:AState) (ts:List Nat):AState:=⟨dropS ts s.slots,dropB ts s.blks⟩
theorem dropS_sub {ts:List Nat} {t:Nat} {av:AV} : ∀ {l:List (Nat × AV)},lk (dropS ts l) t=some av→lk l t=some av
 |[],h=>h
 |(t',a')::l,h=>by
  simp only[dropS] at h
  split at h
  ·simp only[lk] at h ⊢
   split at h
   ·exact h
   ·exact dropS_sub h
  ·rw[lk_er] at h
   split at h
   ·cases h
   ·rename_i e
    simp only[lk,beq_ne' e]
    exact dropS_sub h
theorem dropB_sub {ts:List Nat} {t:Nat} {b:ABlk} : ∀ {l:List (Nat × ABlk)},lk (dropB ts l) t=some b→lk l t=some b
 |[],h=>h
 |(t',a')::l,h=>by
  simp only[dropB] at h
  split at h
  ·simp only[lk] at h ⊢
   split at h
   ·exact h
   ·exact dropB_sub h
  ·rw[lk_er] at h
   split at h
   ·cases h
   ·rename_i e
    simp only[lk,beq_ne' e]
    exact dropB_sub h
theorem Rep.sub {D:Prop} {B m:Nat} {F0:Base} {w0:World} {x y:FS} {G:Nat→GV} {F:Nat→Prop} {a:Act} {w:World} (h:Rep D B m F0 w0 x G F a w) (hs:∀ t av,y.s t=some av→x.s t=some av) (hb:∀ k b,y.b k=some b→x.b k=some b):Rep D B m F0 w0 y G F a w:=by
 have hn:∀ k,y.b k≠none→x.b k≠none:=fun k hk=>by
  obtain⟨b,hb'⟩:=Option.ne_none_iff_exists'.1 hk
  rw[hb k b hb']
  simp
 exact⟨h.own,h.bs,h.f0,h.f1,h.fl,fun k b hk=>h.bk k b (hb k b hk),fun k k' h1 h2=>h.ne k k' (hn k h1) (hn k' h2),fun k g h1=>h.nf k g (hn k h1),fun t av ht=>h.sl t av (hs t av ht),h.sz,h.df,h.pin,h.fr.1,fun g hg=>⟨(h.fr.2 g hg).1,(h.fr.2 g hg).2.1,(h.fr.2 g hg).2.2.1,fun k hk=>(h.fr.2 g hg).2.2.2 k (hn k hk)⟩⟩
def conj:List Prop→Prop→Prop
 |[],q=>q
 |p::l,q=>p∧conj l q
theorem conj_ok:∀ {l:List Prop} {q:Prop},conj l q→allP l∧q
 |[],_,h=>⟨trivial,h⟩
 |_::_,_,h=>⟨⟨h.1,(conj_ok h.2).1⟩,(conj_ok h.2).2⟩
def guardsOf (ops:List Oper):List Nat:=ops.filterMap fun o=>match o.guard with | some (j,_)=>some j | none=>none
def regVC (P:Program) (Γ : FuncId→Option Run) (m:Nat) (ops:List Oper) (draw:Bool) (s:AState) (Q:AState→Prop):Nat→List (Nat × Bool)→Prop
 |fuel,asm=>match runs P Γ m asm (guardsOf ops) ops (s.kill (newNames ops)) ops 0 (s.kill (newNames ops)) [] with
  | .ok rs ps s'=>match draw with
   |false=>conj ps (Q s')
   |true=>match edgeOK ops 0 && (closOK (closD ops []) (closD ops []) ops && indAll (closD ops []) rs 0) with
    |true=>conj ps (Q s')
    |false=>False
  | .need i b=>match fuel with
   |0=>False
   |n+1=>(b=true→regVC P Γ m ops draw s Q n ((i,true)::asm))∧(b=false→regVC P Γ m ops draw s Q n ((i,false)::asm))
  | .bad _=>False
theorem regVC_ok {P:Program} {D:Prop} {B m:Nat} {Γ : FuncId→Option Run} (hΓ : ∀ f run,Γ f=some run→RunOK P D B f run) (hx:P.follows .mixedOrders=true) {ops:List Oper} {draw:Bool} {s:AState} {Q:AState→Prop} {F0:Base} {w0:World} {G:Nat→GV} {F:Nat→Prop} {a:Act} {w:World} {id:Nat} {Qx:Exit→Act→World→Prop}
  (hrep:Rep D B m F0 w0 s.fs G F a w) (hQ:∀ s' G F a w,Q s'→Rep D B m F0 w0 s'.fs G F a w→Qx .normal a w):∀ (fuel:Nat) (asm:List (Nat × Bool)),regVC P Γ m ops draw s Q fuel asm→(Code.region id ops.toArray draw).wp P Qx a w:=by
 have hk:Rep D B m F0 w0 (s.kill (newNames ops)).fs G F a w:=hrep.sub (fun t av h=>dropS_sub h) (fun k b h=>dropB_sub h)
 have main:∀ (rs:List Rec) (ps:List Prop) (s':AState) (asm:List (Nat × Bool)),runs P Γ m asm (guardsOf ops) ops (s.kill (newNames ops)) ops 0 (s.kill (newNames ops)) []= .ok rs ps s'→allP ps→Q s'→
   ∀ dep:Nat→Nat→Prop,(∀ (i j:Nat) (r q:Rec),i<j→rs[i]? =some r→rs[j]? =some q→dep j i∨Indep r q)→RegOK P D B m ops rs (s.kill (newNames ops)).fs dep∧stF rs 0 (fun _=>true) (s.kill (newNames ops)).fs=s'.fs:=by
  intro rs ps s' asm h hp _ dep hi
  obtain⟨q1,q2,q3,q4⟩:=runs_ok hΓ ops 0 _ _ h hp
  refine⟨⟨q1,q3,fun i r d hr=> ?_,fun i r k b hr=> ?_,fun i r k hr=> ?_,fun i r k hr=> ?_,fun i r k hr hn=> ?_,hi⟩,q2.symm⟩
  ·obtain⟨t,h1,_⟩:=q4 i r hr;exact h1.dst d
  ·obtain⟨t,h1,_⟩:=q4 i r hr;exact h1.old k b
  ·obtain⟨t,h1,_⟩:=q4 i r hr;exact h1.del k
  ·obtain⟨t,h1,_⟩:=q4 i r hr;exact h1.nwb k
  ·obtain⟨t,h1,_,h3⟩:=q4 i r hr
   obtain⟨k1,k2,k3,k5,k4⟩:=h1.nx k hn
   exact⟨k1,k2,k3,k5,fun j r' hr' hlt=>⟨fun hk=>k4 (h3 j r' hlt hr' k (.inl hk)),fun hk=>k4 (h3 j r' hlt hr' k (.inr hk))⟩⟩
 intro fuel
 induction fuel with
 |zero=>
  intro asm h
  unfold regVC at h
  split at h
  ·rename_i rs ps s' hr
   split at h
   ·obtain⟨hp,hq⟩:=conj_ok h
    obtain⟨H,e⟩:=main rs ps s' asm hr hp hq (fun j i=>i<j) (fun i j r q hlt _ _=> .inl hlt)
    exact H.seq hk fun G F a w hrep'=>hQ s' G F a w hq (by rw[← e];exact hrep')
   ·split at h
    ·rename_i hc
     simp only[Bool.and_eq_true] at hc
     obtain⟨hp,hq⟩:=conj_ok h
     obtain⟨H,e⟩:=main rs ps s' asm hr hp hq (fun j i=>i∈(closD ops []).getD j []) (fun i j r q hlt h1 h2=>by simpa using indAll_ok hc.2.2 i j r q hlt h1 h2)
     exact H.draw hx (fun i o ho e he hb=>by simpa using edgeOK_ok hc.1 i o ho e he hb) (fun i j hj=>closOK_ok hc.2.1 i j hj) hk fun G F a w hrep'=>hQ s' G F a w hq (by rw[← e];exact hrep')
    ·exact h.elim
  ·exact h.elim
  ·exact h.elim
 |succ n ih=>
  intro asm h
  unfold regVC at h
  split at h
  ·rename_i rs ps s' hr
   split at h
   ·obtain⟨hp,hq⟩:=conj_ok h
    obtain⟨H,e⟩:=main rs ps s' asm hr hp hq (fun j i=>i<j) (fun i j r q hlt _ _=> .inl hlt)
    exact H.seq hk fun G F a w hrep'=>hQ s' G F a w hq (by rw[← e];exact hrep')
   ·split at h
    ·rename_i hc
     simp only[Bool.and_eq_true] at hc
     obtain⟨hp,hq⟩:=conj_ok h
     obtain⟨H,e⟩:=main rs ps s' asm hr hp hq (fun j i=>i∈(closD ops []).getD j []) (fun i j r q hlt h1 h2=>by simpa using indAll_ok hc.2.2 i j r q hlt h1 h2)
     exact H.draw hx (fun i o ho e he hb=>by simpa using edgeOK_ok hc.1 i o ho e he hb) (fun i j hj=>closOK_ok hc.2.1 i j hj) hk fun G F a w hrep'=>hQ s' G F a w hq (by rw[← e];exact hrep')
    ·exact h.elim
  ·rename_i i b hr
   cases b with
   |true=>exact ih _ (h.1 rfl)
   |false=>exact ih _ (h.2 rfl)
  ·exact h.elim
end Go.Proofs.YtmagoiniahpofaaGreat
namespace Go.Proofs.YtmagoiniahpofaaGreat
open Go Go.RowKit
structure Weak (s s':AState):Prop where
 h:∀ (D:Prop) (B m:Nat) (F0:Base) (w0:World) (G:Nat→GV) (F:Nat→Prop) (a:Act) (w:World),Rep D B m F0 w0 s.fs G F a w→∃ G' F',Rep D B m F0 w0 s'.fs G' F' a w
structure CLe (c c':Cell):Prop where
 h:∀ G F w v,GOk G F w c v→GOk G F w c' v
structure AVle (av av':AV):Prop where
 h:∀ G F w v,av.ok (GOk G F w) v→av'.ok (GOk G F w) v
structure CsLe (l l':List Cell):Prop where
 len:l.length=l'.length
 h:∀ (i:Nat) (c c':Cell),l[i]? =some c→l'[i]? =some c'→CLe c c'
theorem AVle.refl (av:AV):AVle av av:=⟨fun _ _ _ _ h=>h⟩
theorem CLe.refl (c:Cell):CLe c c:=⟨fun _ _ _ _ h=>h⟩
theorem CsLe.nil:CsLe [] []:=⟨rfl,fun i c c' h=>by simp at h⟩
theorem CsLe.cons {c c':Cell} {l l':List Cell} (h:CLe c c') (h':CsLe l l'):CsLe (c::l) (c'::l'):=
 ⟨by simp[h'.len],fun i x y h1 h2=>by
  match i,h1,h2 with
  |0,h1,h2=>cases h1;cases h2;exact h
  |i+1,h1,h2=>exact h'.h i x y (by simpa using h1) (by simpa using h2)⟩
theorem CsLe.refl (l:List Cell):CsLe l l:=⟨rfl,fun i c c' h1 h2=>by rw[h1] at h2;cases h2;exact CLe.refl _⟩
theorem CsOk.le {G:Nat→GV} {F:Nat→Prop} {w:World} {l l':List Cell} {vs:List Value} (h:CsOk (GOk G F w) l vs) (k:CsLe l l'):CsOk (GOk G F w) l' vs:=
 ⟨by rw[← k.len];exact h.1,fun i c v h1 h2=>by
  have hi:i<l.length:=by rw[k.len];exact (List.getElem?_eq_some_iff.1 h1).1
  exact (k.h i _ c (List.getElem?_eq_getElem hi) h1).h _ _ _ _ (h.2 i _ v (List.getElem?_eq_getElem hi) h2)⟩
theorem AVle.s {a:Bool} {l l':List Cell} (h:CsLe l l'):AVle (.s a l) (.s a l'):=by
 refine⟨fun G F w v hv=> ?_⟩
 cases a with
 |true=>obtain⟨cs,h1,h2⟩:=hv;exact⟨cs,h1,h2.le h⟩
 |false=>
  obtain⟨c,rfl,h1⟩:=hv
  match l',h with
  |[c'],h=>exact⟨c',rfl,(h.h 0 c c' rfl rfl).h G F w v h1⟩
theorem AVle.one {c c':Cell} (h:CLe c c'):AVle (.s false [c]) (.s false [c']):=AVle.s (CsLe.cons h CsLe.nil)
theorem CLe.v {x y:Value} (h:x=y):CLe (.v x) (.v y):=h ▸ CLe.refl _
theorem CLe.q {x y:Rat} {s t i:Nat} (h:x=y) (h':s≤t):CLe (.q x s i) (.q y t i):=by
 refine⟨fun G F w v hv=> ?_⟩
 subst h
 have hv':COk F w (.q x s i) v:=hv
 cases hv' with
 |q h hs=>exact GOk.of (.q h (Nat.le_trans hs h'))
theorem CLe.z {x y:Int} {s t i:Nat} (h:x=y) (h':s≤t):CLe (.z x s i) (.z y t i):=by
 refine⟨fun G F w v hv=> ?_⟩
 subst h
 have hv':COk F w (.z x s i) v:=hv
 cases hv' with
 |z h hs=>exact GOk.of (.z h (Nat.le_trans hs h'))
theorem CLe.tv {b:Bool} (h:b=true):CLe .t (.v (.bool b)):=by
 refine⟨fun G F w v hv=> ?_⟩
 subst h
 have hv':COk F w .t v:=hv
 cases hv'
 exact GOk.of (.v _ rfl)
theorem CLe.fv {b:Bool} (h:b=false):CLe .f (.v (.bool b)):=by
 refine⟨fun G F w v hv=> ?_⟩
 subst h
 have hv':COk F w .f v:=hv
 cases hv'
 exact GOk.of (.v _ rfl)
theorem CLe.nilrow {sz:Nat} {e:Nat→List Cell} {n:Nat} (h:n=0):CLe (.v (.slice none 0 0)) (.row sz n e):=by
 refine⟨fun G F w v hv=> ?_⟩
 subst h
 obtain⟨rfl,_⟩:=v_inv hv
 exact GOk.of .row0
theorem CLe.row {sz n n':Nat} {e e':Nat→List Cell} (h:n=n') (k:∀ i,i<n→CsLe (e i) (e' i)) (hcl:∀ i,i<n→(e i).all Cell.cl=true∧(e' i).all Cell.cl=true):CLe (.row sz n e) (.row sz n' e'):=by
 refine⟨fun G F w v hv=> ?_⟩
 subst h
 have hv':COk F w (.row sz n e) v:=hv
 cases hv' with
 |row0=>exact GOk.of .row0
 |row vals hF hn hl hc ho=>
  refine GOk.of (.row vals hF hn (fun i hi=>by rw[← (k i hi).len];exact hl i hi) hc fun i j c hi hj=> ?_)
  have hjl:j<(e i).length:=by rw[(k i hi).len];exact (List.getElem?_eq_some_iff.1 hj).1
  have h1:=List.getElem?_eq_getElem hjl
  have h2:=((k i hi).h j _ c h1 hj).h G F w _ (GOk.of (ho i j _ hi h1))
  exact COk.of h2 (List.all_eq_true.1 (hcl i hi).2 c (List.mem_of_getElem? hj))
theorem AVle.tup {l l':List (Bool × List Cell)} (h:l.length=l'.length) (k:∀ (i:Nat) (p q:Bool × List Cell),l[i]? =some p→l'[i]? =some q→AVle (.s p.1 p.2) (.s q.1 q.2)):AVle (.tup l) (.tup l'):=by
 refine⟨fun G F w v hv=> ?_⟩
 obtain⟨vs,e1,e2,e3⟩:=hv
 refine⟨vs,e1,by rw[← h];exact e2,fun i p u h1 h2=> ?_⟩
 have hi:i<l.length:=by rw[h];exact (List.getElem?_eq_some_iff.1 h1).1
 exact (k i _ p (List.getElem?_eq_getElem hi) h1).h G F w u (e3 i _ u (List.getElem?_eq_getElem hi) h2)
theorem cs_refl (l:List Cell):CsLe l l=True:=eq_true (CsLe.refl l)
theorem av_refl (a:AV):AVle a a=True:=eq_true (AVle.refl a)
structure ABle (b b':ABlk):Prop where
 h:∀ B G F w u,b.ok B G F w u→b'.ok B G F w u
theorem ABle.refl (b:ABlk):ABle b b:=⟨fun _ _ _ _ _ h=>h⟩
abbrev SmA (a:AV):Prop:=AVle a a
abbrev SmC (l:List Cell):Prop:=CsLe l l
abbrev SmB (b:ABlk):Prop:=ABle b b
theorem ab_refl (b:ABlk):ABle b b=True:=eq_true (ABle.refl b)
theorem ABle.st {T:TypeId} {l l':List Cell} (h:CsLe l l'):ABle (.st T l) (.st T l'):=
 ⟨fun _B _G _F _w _u ⟨g,cs,e,h1,hT,h2,h3⟩=>⟨g,cs,e,h1,hT,h2,h3.le h⟩⟩
theorem RowOk.le {B:Nat} {F:Nat→Prop} {w:World} {v:Value} {T:TypeId} {sz n:Nat} {e e':Nat→List Cell} (h:RowOk B F w T sz n e v) (k:∀ i,i<n→CsLe (e i) (e' i)) (hcl:∀ i,i<n→(e' i).all Cell.cl=true):RowOk B F w T sz n e' v:=by
 obtain⟨xs,h1,hT,h0,h2,h3⟩:=h
 refine⟨xs,h1,hT,h0,fun i hi=>by rw[← (k i hi).len];exact h2 i hi,fun i j c v hi hc hv=> ?_⟩
 have hjl:j<(e i).length:=by rw[(k i hi).len];exact (List.getElem?_eq_some_iff.1 hc).1
 have h4:=List.getElem?_eq_getElem hjl
 have G0:Nat→GV:=fun _=>⟨undef,fun _=>False⟩
 exact COk.of (((k i hi).h j _ c h4 hc).h G0 F w v (GOk.of (h3 i j _ v hi h4 hv))) (List.all_eq_true.1 (hcl i hi) c (List.mem_of_getElem? hc))
theorem ABle.row {T:TypeId} {sz n n':Nat} {e e':Nat→List Cell} (hn:n=n') (k:∀ i,i<n→CsLe (e i) (e' i)) (hcl:∀ i,i<n→(e' i).all Cell.cl=true):ABle (.row T sz n e) (.row T sz n' e'):=by
 subst hn
 exact⟨fun B G F w u ⟨v,eu,h⟩=>⟨v,eu,h.le k hcl⟩⟩
theorem ABle.rowN {T:TypeId} {sz n n':Nat} {e e':Nat→List Cell} {nms:List Nat} (hn:n=n') (k:∀ i,i<n→CsLe (e i) (e' i)) (hcl:∀ i,i<n→(e' i).all Cell.cl=true):ABle (.rowN T sz n e nms) (.row T sz n' e'):=by
 subst hn
 refine⟨fun B G F w u ⟨v,eu,⟨xs,h1,hT,h0,h2,h3⟩,_⟩=>⟨v,eu,xs,h1,hT,h0,fun i hi=>by rw[← (k i hi).len];exact h2 i hi,fun i j c v hi hc hv=> ?_⟩⟩
 have hjl:j<(e i).length:=by rw[(k i hi).len];exact (List.getElem?_eq_some_iff.1 hc).1
 have h4:=List.getElem?_eq_getElem hjl
 exact COk.of (((k i hi).h j _ c h4 hc).h G F w v (GOk.of0 (h3 i j _ v hi h4 hv))) (List.all_eq_true.1 (hcl i hi) c (List.mem_of_getElem? hc))
theorem ABle.fam {T:TypeId} {sz n n':Nat} {hc hc':Nat→Option Cell} {len len':Nat→Nat} {e e':Nat→Nat→List Cell} {nms nms':List Nat} (hn:n=n') (hh:∀ i,i<n→match hc i,hc' i with
   |none,none=>True
   |some c,some c'=>CLe c c'∧c'.cl=true
   |_,_=>False) (hl:∀ i,i<n→hc i≠none→len i=len' i) (k:∀ i j,i<n→hc i≠none→j<len i→CsLe (e i j) (e' i j)∧(e' i j).all Cell.cl=true):ABle (.fam T sz n hc len e nms) (.fam T sz n' hc' len' e' nms'):=by
 subst hn
 refine⟨fun B G F w u ⟨vs,h1,h2,h3⟩=> ?_⟩
 have hnn:∀ i,i<n→(hc i≠none↔hc' i≠none):=fun i hi=>by
  have:=hh i hi
  cases h4:hc i with
  |none=>
   rw[h4] at this
   cases h5:hc' i with
   |none=>simp
   |some c'=>rw[h5] at this;exact this.elim
  |some c=>
   rw[h4] at this
   cases h5:hc' i with
   |none=>rw[h5] at this;exact this.elim
   |some c'=>simp
 refine⟨vs,fun i c' hi hci=> ?_,fun g=> ?_,fun i j g hi hj q1 q2=>h3 i j g hi hj ((hnn i hi).2 q1) ((hnn j hj).2 q2)⟩
 ·have h4:=hh i hi
  obtain⟨c,h5⟩:∃ c,hc i=some c:=Option.ne_none_iff_exists'.1 ((hnn i hi).2 (by rw[hci];simp))
  rw[h5,hci] at h4
  obtain⟨k1,k2,k3⟩:=h1 i c hi h5
  have hne:hc i≠none:=by rw[h5];simp
  have hv:=h4.1.h G F w _ (GOk.of0 k1)
  have hcl:=h4.2
  refine⟨?_,?_,fun q hq=> ?_⟩
  ·cases c' with
   |clo=>cases hcl
   |_=>simpa only[GOk] using hv
  ·rw[← hl i hi hne]
   exact k2.le (fun j hj=>(k i j hi hne hj).1) (fun j hj=>(k i j hi hne hj).2)
  ·cases c' with
   |own | hd | oel | clo | j | pt=>cases hcl
   |_=>cases hq
 ·rw[h2]
  constructor
  ·rintro⟨i,q1,q2,q3⟩;exact⟨i,q1,(hnn i q1).1 q2,q3⟩
  ·rintro⟨i,q1,q2,q3⟩;exact⟨i,q1,(hnn i q1).2 q2,q3⟩
theorem CLe.fh {x y:Value} {k i:Nat} (h:x=y):CLe (.v x) (.fh k i y):=by
 refine⟨fun G F w v hv=> ?_⟩
 subst h
 obtain⟨rfl,h1⟩:=v_inv hv
 exact GOk.of (.fh _ h1)
def slLe (s:AState):List (Nat × AV)→Prop
 |[]=>True
 |(t,av')::l=>match lk s.slots t with
  |some av=>AVle av av'∧slLe s l
  |none=>False
def blLe (s:AState):List (Nat × ABlk)→Prop
 |[]=>True
 |(k,b')::l=>match lk s.blks k with
  |some b=>ABle b b'∧blLe s l
  |none=>False
theorem slLe_ok {s:AState} : ∀ {l:List (Nat × AV)},slLe s l→∀ t av',lk l t=some av'→∃ av,lk s.slots t=some av∧AVle av av'
 |[],_,t,av',h=>by cases h
 |(t0,a0)::l,hl,t,av',h=>by
  simp only[slLe] at hl
  split at hl
  ·rename_i av hav
   simp only[lk] at h
   split at h
   ·rename_i e
    cases h
    rw[← beq_eq e]
    exact⟨av,hav,hl.1⟩
   ·exact slLe_ok hl.2 t av' h
  ·exact hl.elim
theorem blLe_ok {s:AState} : ∀ {l:List (Nat × ABlk)},blLe s l→∀ k b',lk l k=some b'→∃ b,lk s.blks k=some b∧ABle b b'
 |[],_,t,av',h=>by cases h
 |(t0,a0)::l,hl,t,av',h=>by
  simp only[blLe] at hl
  split at hl
  ·rename_i av hav
   simp only[lk] at h
   split at h
   ·rename_i e
    cases h
    rw[← beq_eq e]
    exact⟨av,hav,hl.1⟩
   ·exact blLe_ok hl.2 t av' h
  ·exact hl.elim
theorem weak_lk {s s':AState} (h1:∀ t av',lk s'.slots t=some av'→∃ av,lk s.slots t=some av∧AVle av av') (h2:∀ k b',lk s'.blks k=some b'→∃ b,lk s.blks k=some b∧ABle b b'):Weak s s':=by
 refine⟨fun D B m F0 w0 G F a w h=>⟨G,F,?_⟩⟩
 have hn:∀ k,s'.fs.b k≠none→s.fs.b k≠none:=fun k hk=>by
  obtain⟨b',hb'⟩:=Option.ne_none_iff_exists'.1 hk
  obtain⟨b,hb,_⟩:=h2 k b' hb'
  rw[show s.fs.b k=some b from hb]
  simp
 refine⟨h.own,h.bs,h.f0,h.f1,h.fl,fun k b' hk=> ?_,fun k k' q1 q2=>h.ne k k' (hn k q1) (hn k' q2),fun k g q1=>h.nf k g (hn k q1),fun t av' ht=> ?_,h.sz,h.df,h.pin,h.fr.1,fun g hg=>⟨(h.fr.2 g hg).1,(h.fr.2 g hg).2.1,(h.fr.2 g hg).2.2.1,fun k hk=>(h.fr.2 g hg).2.2.2 k (hn k hk)⟩⟩
 ·obtain⟨b,hb,hle⟩:=h2 k b' hk
  exact hle.h _ _ _ _ _ (h.bk k b hb)
 ·obtain⟨av,hav,hle⟩:=h1 t av' ht
  exact hle.h _ _ _ _ (h.sl t av hav)
theorem weak_of {s s':AState} (h1:slLe s s'.slots) (h2:blLe s s'.blks):Weak s s':=weak_lk (slLe_ok h1) (blLe_ok h2)
theorem lk_app {α:Type _} {k:Nat} {b:List (Nat × α)} : ∀ {a:List (Nat × α)},lk (a++b) k=match lk a k with
  |some x=>some x
  |none=>lk b k
 |[]=>rfl
 |(j,y)::a=>by
  simp only[List.cons_append,lk]
  split
  ·rfl
  ·exact lk_app
theorem say_weak {s:AState} {sl:List (Nat × AV)} {bl:List (Nat × ABlk)} (h:slLe s sl∧blLe s bl):Weak s ⟨sl++s.slots,bl++s.blks⟩:=by
 refine weak_lk (fun t av' ht=> ?_) (fun k b' hk=> ?_)
 ·rw[lk_app] at ht
  split at ht
  ·rename_i x hx
   cases ht
   exact slLe_ok h.1 t _ hx
  ·exact⟨av',ht,AVle.refl _⟩
 ·rw[lk_app] at hk
  split at hk
  ·rename_i x hx
   cases hk
   exact blLe_ok h.2 k _ hx
  ·exact⟨b',hk,ABle.refl _⟩
def renN (k k' j:Nat):Nat:=if Nat.beq j k then k' else j
def renC0 (k k':Nat):Cell→Cell
 | .own j o=> .own (renN k k' j) o
 | .hd j=> .hd (renN k k' j)
 | .oel j sz i o=> .oel (renN k k' j) sz i o
 | .pt j sz a n=> .pt (renN k k' j) sz a n
 |c=>c
def renC (k k':Nat):Cell→Cell
 | .clo f caps=> .clo f (caps.map (renC0 k k'))
 |c=>renC0 k k' c
def renA (k k':Nat):AV→AV
 | .s a l=> .s a (l.map (renC k k'))
 | .tup l=> .tup (l.map fun p=>(p.1,p.2.map (renC k k')))
def renB (k k':Nat):ABlk→ABlk
 | .st T l=> .st T (l.map (renC k k'))
 | .rowN T sz n e nms=> .rowN T sz n (fun i=>(e i).map (renC0 k k')) (nms.map (renN k k'))
 | .fam T sz n hc len e nms=> .fam T sz n (fun i=>(hc i).map (renC0 k k')) len e (nms.map (renN k k'))
 |b=>b
def frzC0 (k:Nat) (x:Cell):Cell→Cell
 | .hd j=>match Nat.beq j k with
  |true=>x
  |false=> .hd j
 | .own j o=>match Nat.beq j k with
  |true=> .j
  |false=> .own j o
 | .oel j sz i o=>match Nat.beq j k with
  |true=> .j
  |false=> .oel j sz i o
 | .pt j sz a n=>match Nat.beq j k with
  |true=>match x with
   | .row sz' _ e=>match Nat.beq sz sz' with
    |true=> .row sz n fun i=>e (i+a)
    |false=> .j
   |_=> .j
  |false=> .pt j sz a n
 |c=>c
def remN (k:Nat):List Nat→List Nat
 |[]=>[]
 |j::l=>match Nat.beq j k with
  |true=>remN k l
  |false=>j::remN k l
def frzC (k:Nat) (x:Cell):Cell→Cell
 | .clo f caps=> .clo f (caps.map (frzC0 k x))
 |c=>frzC0 k x c
def frzA (k:Nat) (x:Cell):AV→AV
 | .s a l=> .s a (l.map (frzC k x))
 | .tup l=> .tup (l.map fun p=>(p.1,p.2.map (frzC k x)))
def frzB (k:Nat) (x:Cell):ABlk→ABlk
 | .st T l=> .st T (l.map (frzC k x))
 | .rowN T sz n e nms=> .rowN T sz n (fun i=>(e i).map (frzC0 k x)) (remN k nms)
 | .fam T sz n hc len e nms=> .fam T sz n (fun i=>(hc i).map (frzC0 k x)) len e (remN k nms)
 |b=>b
def frz1 (s:AState) (k:Nat):AState:=
 match lk s.blks k with
 |some (.row _ sz n e)=>AState.kill ⟨s.slots.map fun p=>(p.1,frzA k (.row sz n e) p.2),(er s.blks k).map fun p=>(p.1,frzB k (.row sz n e) p.2)⟩ [k]
 |_=>s
inductive Adj where
 |nil (t k:Nat) (T sz:Nat)
 |ren (k k':Nat)
 |frz (k:Nat)
 |fam (k T sz:Nat)
 |absorb (p t:Nat)
 |opn (t:Nat)
 |opnR (k:Nat)
 |take (t p:Nat)
 |cut (t k:Nat)
 |say (sl:List (Nat × AV)) (bl:List (Nat × ABlk))
def opnS (s:AState) (t:Nat) (v:Value):AState:=AState.kill ⟨s.slots.map fun p=>(p.1,frzA t (.v v) p.2),(er s.blks t).map fun p=>(p.1,frzB t (.v v) p.2)⟩ [t]
def take1 (s:AState) (t p:Nat):Option (AState × List Prop):=
 match lk s.slots t,lk s.blks p with
 |some (.s false [.fh _ i x]),some (.fam T sz n hc len e nms)=>match Nat.beq t p || has nms t || Nat.ble 1000000 t with
  |true=>none
  |false=>some (⟨(t,.s false [.hd t])::er (s.kill [t]).slots t,(t,.row T sz (len i) (e i))::(p,.fam T sz n (fun j=>if j=i then none else hc j) len e nms)::er (er (s.kill [t]).blks p) t⟩,[i<n∧hc i=some (.fh p i x)])
 |_,_=>none
def cut1 (s:AState) (t k:Nat):Option (AState × List Prop):=
 match lk s.slots t with
 |some (.s false [.pt j sz 0 m])=>match lk s.blks j with
  |some (.row T sz' _ e)=>match Nat.beq sz sz' && !Nat.beq k j && !Nat.ble 1000000 k with
   |true=>some (⟨(t,.s false [.hd k])::er (s.kill [k]).slots t,(k,.row T sz m e)::er (er (s.kill [k]).blks j) k⟩,[0<m])
   |false=>none
  |_=>none
 |_=>none
def adj1 (s:AState):Adj→AState
 | .nil t k T sz=>match lk s.slots t with
  |some (.s false [.v (.slice none 0 0)])=>match Nat.beq T 127 || Nat.beq sz 0 || Nat.ble 1000000 k with
   |true=>s
   |false=>⟨(t,.s false [.hd k])::er (s.kill [k]).slots t,(k,.row T sz 0 fun _=>[])::er (s.kill [k]).blks k⟩
  |_=>s
 | .ren k k'=>match lk s.blks k with
  |some _=>match Nat.beq k k' || Nat.ble 1000000 k' with
   |true=>s
   |false=>⟨(s.kill [k']).slots.map fun p=>(p.1,renA k k' p.2),(er (s.kill [k']).blks k').map fun p=>(renN k k' p.1,renB k k' p.2)⟩
  |none=>s
 | .frz k=>frz1 s k
 | .fam k T sz=>match Nat.ble 1000000 k with
  |true=>s
  |false=>⟨(s.kill [k]).slots,(k,.fam T sz 0 (fun _=>none) (fun _=>0) (fun _ _=>[]) [])::er (s.kill [k]).blks k⟩
 | .absorb p t=>match lk s.blks p,lk s.blks t with
  |some (.fam T sz n hc len e nms),some (.row T' sz' m e')=>match Nat.beq T T' && Nat.beq sz sz' && !Nat.beq p t && !has nms t with
   |true=>⟨s.slots,(p,.fam T sz (n+1) (fun j=>if j=n then some (.hd t) else hc j) (fun j=>if j=n then m else len j) (fun j=>if j=n then e' else e j) (t::nms))::(t,.gho)::er (er s.blks p) t⟩
   |false=>s
  |_,_=>s
 | .opn _=>s
 | .opnR _=>s
 | .take _ _=>s
 | .cut _ _=>s
 | .say _ _=>s
def adjQ (s:AState):List Adj→(AState→Prop)→Prop
 |[],Q=>Q s
 | .opn t::l,Q=>∀ v:Value,adjQ (opnS s t v) l Q
 | .opnR k::l,Q=>match lk s.blks k with
  |some (.rowP T sz n p)=>∀ e:Nat→List Cell,p e→adjQ ⟨s.slots,(k,.row T sz n e)::er s.blks k⟩ l Q
  |_=>False
 | .take t p::l,Q=>match take1 s t p with
  |some (s',ps)=>conj ps (adjQ s' l Q)
  |none=>False
 | .cut t k::l,Q=>match cut1 s t k with
  |some (s',ps)=>conj ps (adjQ s' l Q)
  |none=>False
 | .say sl bl::l,Q=>(slLe s sl∧blLe s bl)∧adjQ ⟨sl++s.slots,bl++s.blks⟩ l Q
 |a::l,Q=>adjQ (adj1 s a) l Q
theorem kill_s {s:AState} {ts:List Nat} {t:Nat} {av:AV} (h:lk (s.kill ts).slots t=some av):lk s.slots t=some av∧∀ k∈av.nm,k ∉ ts:=by
 refine⟨dropS_sub h,?_⟩
 have:∀ {l:List (Nat × AV)},lk (dropS ts l) t=some av→noNm ts av.nm=true:=by
  intro l
  induction l with
  |nil=>intro h;cases h
  |cons p l ih=>
   intro h
   simp only[dropS] at h
   split at h
   ·rename_i hn
    simp only[lk] at h
    split at h
    ·cases h;exact hn
    ·exact ih h
   ·rw[lk_er] at h
    split at h
    ·cases h
    ·exact ih h
 intro k hk
 have h2:=List.all_eq_true.1 (this h) k hk
 simp only[Bool.not_eq_true'] at h2
 exact has_not h2
theorem kill_b {s:AState} {ts:List Nat} {k:Nat} {b:ABlk} (h:lk (s.kill ts).blks k=some b):lk s.blks k=some b∧k ∉ ts∧∀ j∈b.nm,j ∉ ts:=by
 refine⟨dropB_sub h,?_⟩
 have:∀ {l:List (Nat × ABlk)},lk (dropB ts l) k=some b→(noNm ts b.nm && !has ts k)=true:=by
  intro l
  induction l with
  |nil=>intro h;cases h
  |cons p l ih=>
   intro h
   simp only[dropB] at h
   split at h
   ·rename_i hn
    simp only[lk] at h
    split at h
    ·rename_i e;cases h;rw[← beq_eq e];exact hn
    ·exact ih h
   ·rw[lk_er] at h
    split at h
    ·cases h
    ·exact ih h
 have h2:=this h
 simp only[Bool.and_eq_true,Bool.not_eq_true'] at h2
 refine⟨has_not h2.2,fun j hj=> ?_⟩
 have h3:=List.all_eq_true.1 h2.1 j hj
 simp only[Bool.not_eq_true'] at h3
 exact has_not h3
theorem kill_keep {s:AState} {ts:List Nat} {k:Nat} {b:ABlk} (h:lk s.blks k=some b) (hk:k ∉ ts) (hb:∀ q∈b.nm,q ∉ ts):lk (s.kill ts).blks k=some b:=by
 have:∀ {l:List (Nat × ABlk)},lk l k=some b→lk (dropB ts l) k=some b:=by
  intro l
  induction l with
  |nil=>intro h;cases h
  |cons p l ih=>
   intro h
   simp only[lk] at h
   simp only[dropB]
   split at h
   ·rename_i e
    cases h
    have e2:=beq_eq e
    split
    ·simp[lk,e]
    ·rename_i hn
     exfalso
     rw[Bool.and_eq_false_iff] at hn
     rcases hn with hn | hn
     ·have:noNm ts p.2.nm=true:=by
       unfold noNm
       rw[List.all_eq_true]
       intro q hq
       simp only[Bool.not_eq_true']
       cases hh:has ts q with
       |false=>rfl
       |true=>exact absurd (has_iff.1 hh) (hb q hq)
      rw[this] at hn;cases hn
     ·have:has ts p.1=false:=by
       cases hh:has ts p.1 with
       |false=>rfl
       |true=>exact absurd (has_iff.1 hh) (by rw[e2];exact hk)
      rw[this] at hn;cases hn
   ·rename_i e
    split
    ·simp only[lk,e];exact ih h
    ·rw[lk_er,if_neg (bne_ne e)];exact ih h
 exact this h
section
variable {D:Prop} {B m:Nat} {F0:Base} {w0:World} {G:Nat→GV} {F F':Nat→Prop} {a:Act} {w:World}
theorem ren_g {k k' j:Nat} (hj:j≠k'):upG G k' (G k) (renN k k' j)=G j:=by
 unfold renN upG
 by_cases h:j=k
 ·simp[h,Nat.beq_refl]
 ·simp[beq_ne' h,hj]
theorem ren_c0 {k k':Nat} {c:Cell} {v:Value} (h:GOk0 G F w c v) (hn:k' ∉ c.nm0):GOk0 (upG G k' (G k)) F w (renC0 k k' c) v:=by
 cases c with
 |own j o=>obtain⟨g,h1,h2⟩:=h;exact⟨g,by rw[ren_g (fun e=>hn (by simp[Cell.nm0,e]))];exact h1,h2⟩
 |hd j=>exact⟨by rw[ren_g (fun e=>hn (by simp[Cell.nm0,e]))];exact h.1,h.2⟩
 |oel j sz i o=>obtain⟨g,n,c,h1,h2⟩:=h;exact⟨g,n,c,by rw[ren_g (fun e=>hn (by simp[Cell.nm0,e]))];exact h1,h2⟩
 |pt j sz a n=>
  rcases h with h | ⟨h0,g,m,c,h1,h2⟩
  ·exact .inl h
  ·exact .inr ⟨h0,g,m,c,by rw[ren_g (fun e=>hn (by simp[Cell.nm0,e]))];exact h1,h2⟩
 |clo f caps=>exact h.elim
 |j=>exact h
 |v | t | f | q | z | row | el | fh | m=>exact h
theorem ren_c {k k':Nat} {c:Cell} {v:Value} (h:GOk G F w c v) (hn:k' ∉ c.nm):GOk (upG G k' (G k)) F w (renC k k' c) v:=by
 cases c with
 |clo f caps=>
  obtain⟨vs,h1,h2,h3⟩:=h
  refine⟨vs,h1,by simpa using h2,fun i c u h4 h5=> ?_⟩
  rw[List.getElem?_map] at h4
  cases hc:caps[i]? with
  |none=>rw[hc] at h4;cases h4
  |some c'=>
   rw[hc] at h4
   cases h4
   exact ren_c0 (h3 i c' u hc h5) (fun hk=>hn (by simp only[Cell.nm,List.mem_flatMap];exact⟨c',List.mem_of_getElem? hc,hk⟩))
 |own j o=>simp only[GOk] at h;exact ren_c0 h hn
 |hd j=>simp only[GOk] at h;exact ren_c0 h hn
 |oel j sz i o=>simp only[GOk] at h;exact ren_c0 h hn
 |pt j sz a n=>simp only[GOk] at h;exact ren_c0 h hn
 |j=>exact h
 |v | t | f | q | z | row | el | fh | m=>exact h
theorem ren_cs {k k':Nat} {l:List Cell} {vs:List Value} (h:CsOk (GOk G F w) l vs) (hn:k' ∉ l.flatMap Cell.nm):CsOk (GOk (upG G k' (G k)) F w) (l.map (renC k k')) vs:=by
 refine⟨by simpa using h.1,fun i c u h4 h5=> ?_⟩
 rw[List.getElem?_map] at h4
 cases hc:l[i]? with
 |none=>rw[hc] at h4;cases h4
 |some c'=>
  rw[hc] at h4
  cases h4
  exact ren_c (h.2 i c' u hc h5) (fun hk=>hn (List.mem_flatMap.2 ⟨c',List.mem_of_getElem? hc,hk⟩))
theorem ren_so {k k':Nat} {ag:Bool} {l:List Cell} {v:Value} (h:SOk (GOk G F w) ag l v) (hn:k' ∉ l.flatMap Cell.nm):SOk (GOk (upG G k' (G k)) F w) ag (l.map (renC k k')) v:=by
 cases ag with
 |true=>obtain⟨cs,h1,h2⟩:=h;exact⟨cs,h1,ren_cs h2 hn⟩
 |false=>obtain⟨c,rfl,h2⟩:=h;exact⟨_,rfl,ren_c h2 (fun hk=>hn (by simpa using hk))⟩
theorem ren_a {k k':Nat} {av:AV} {v:Value} (h:av.ok (GOk G F w) v) (hn:k' ∉ av.nm):(renA k k' av).ok (GOk (upG G k' (G k)) F w) v:=by
 cases av with
 |s ag l=>exact ren_so h hn
 |tup l=>
  obtain⟨vs,h1,h2,h3⟩:=h
  refine⟨vs,h1,by simpa using h2,fun i p u h4 h5=> ?_⟩
  rw[List.getElem?_map] at h4
  cases hc:l[i]? with
  |none=>rw[hc] at h4;cases h4
  |some p'=>
   rw[hc] at h4
   cases h4
   exact ren_so (h3 i p' u hc h5) (fun hk=>hn (List.mem_flatMap.2 ⟨p',List.mem_of_getElem? hc,hk⟩))
theorem lk_map {α β:Type} (f:α→β) (t:Nat):∀ l:List (Nat × α),lk (l.map fun p=>(p.1,f p.2)) t=(lk l t).map f
 |[]=>rfl
 |(t0,x)::l=>by
  simp only[List.map_cons,lk]
  split
  ·rfl
  ·exact lk_map f t l
theorem lk_ren {β:Type} {k k':Nat} (f:ABlk→β) {j:Nat} {b:β} : ∀ {l:List (Nat × ABlk)},(∀ p∈l,p.1≠k')→lk (l.map fun p=>(renN k k' p.1,f p.2)) j=some b→∃ i b0,renN k k' i=j∧i≠k'∧lk l i=some b0∧f b0=b
 |[],_,h=>by cases h
 |(i0,b0)::l,hl,h=>by
  simp only[List.map_cons,lk] at h
  split at h
  ·rename_i e
   cases h
   exact⟨i0,b0,beq_eq e,hl _ List.mem_cons_self,by simp[lk,Nat.beq_refl],rfl⟩
  ·rename_i e
   obtain⟨i,b1,h1,h2,h3,h4⟩:=lk_ren f (fun p hp=>hl p (List.mem_cons_of_mem _ hp)) h
   refine⟨i,b1,h1,h2,?_,h4⟩
   have hne:i0≠i:=by
    rintro rfl
    rw[h1,Nat.beq_refl] at e
    cases e
   simp only[lk,beq_ne' hne]
   exact h3
theorem er_mem {α:Type} {k:Nat} : ∀ {l:List (Nat × α)},∀ p∈er l k,p.1≠k
 |[],p,h=>by cases h
 |(j,x)::l,p,h=>by
  simp only[er] at h
  split at h
  ·exact er_mem p h
  ·rename_i e
   rcases List.mem_cons.1 h with rfl | h
   ·exact bne_ne e
   ·exact er_mem p h
theorem frz_c0 (hF:∀ g,F g→F' g) {k:Nat} {x:Cell} (hx:(G k).v.oneCell'=true→COk F' w x (G k).v) {c:Cell} {v:Value} (h:GOk0 G F w c v):GOk0 G F' w (frzC0 k x c) v:=by
 have up:∀ {c:Cell} {v:Value},COk F w c v→COk F' w c v:=fun h=>h.keep (Keep.refl _) hF (fun _ _=>rfl)
 have h1:=h.one
 cases c with
 |hd j=>
  simp only[frzC0]
  split
  ·rename_i e
   rw[← beq_eq e] at hx
   have hx:=hx (by rw[← h.1];exact h1)
   rw[show v=(G j).v from h.1]
   have h2:∀ {c:Cell} {u:Value},COk F' w c u→GOk0 G F' w c u:=fun hc=>by
    have:=GOk.of (G:=G) hc
    cases hc<;>simpa only[GOk] using this
   exact h2 hx
  ·exact h
 |own j o=>
  simp only[frzC0]
  split
  ·exact h1
  ·exact h
 |oel j sz i o=>
  simp only[frzC0]
  split
  ·exact h1
  ·exact h
 |pt j sz a n=>
  simp only[frzC0]
  split
  ·rename_i e
   split
   ·rename_i sz' n' el
    split
    ·rename_i e2
     have:=beq_eq e2
     subst this
     rw[← beq_eq e] at hx
     show COk F' w _ v
     rcases h with ⟨rfl,y,c,rfl⟩ | ⟨h0,g,m,c,h2,h3,rfl⟩
     ·exact .row0
     ·have hx:=hx (by rw[h2];rfl)
      rw[h2] at hx
      cases hx with
      |row0=>omega
      |row vals hF hn hl hc ho=>
       refine .row (fun i j=>vals (i+a) j) hF (by omega) (fun i hi=>hl _ (by omega)) (fun i j hi hj=> ?_) fun i j c' hi hj=>ho _ j c' (by omega) hj
       have:=hc (i+a) j (by omega) hj
       rw[show a*sz+i*sz+j=0+(i+a)*sz+j by rw[Nat.add_mul];omega]
       exact this
    ·exact h1
   ·exact h1
  ·exact h
 |clo | j=>exact h
 |v | t | f | q | z | row | el | fh | m=>simp only[GOk0,frzC0] at h ⊢;exact up h
theorem frz_c (hF:∀ g,F g→F' g) {k:Nat} {x:Cell} (hx:(G k).v.oneCell'=true→COk F' w x (G k).v) {c:Cell} {v:Value} (h:GOk G F w c v):GOk G F' w (frzC k x c) v:=by
 cases c with
 |clo f caps=>
  obtain⟨vs,rfl,h1,h2⟩:=h
  refine⟨vs,rfl,by simpa using h1,fun i c v h3 h4=> ?_⟩
  rw[List.getElem?_map] at h3
  cases hc:caps[i]? with
  |none=>rw[hc] at h3;cases h3
  |some c0=>
   rw[hc] at h3
   cases h3
   exact frz_c0 hF hx (h2 i c0 v hc h4)
 |hd j | own j o | oel j sz i o | pt j sz a n | j | v | t | f | q | z | row | el | fh | m=>simp only[GOk,frzC] at h ⊢;exact GOk.of0 (frz_c0 hF hx h)
theorem frz_cs (hF:∀ g,F g→F' g) {k:Nat} {x:Cell} (hx:(G k).v.oneCell'=true→COk F' w x (G k).v) {l:List Cell} {vs:List Value} (h:CsOk (GOk G F w) l vs):CsOk (GOk G F' w) (l.map (frzC k x)) vs:=
 ⟨by simpa using h.1,fun i c v h3 h4=>by
  rw[List.getElem?_map] at h3
  cases hc:l[i]? with
  |none=>rw[hc] at h3;cases h3
  |some c0=>
   rw[hc] at h3
   cases h3
   exact frz_c hF hx (h.2 i c0 v hc h4)⟩
theorem frz_s (hF:∀ g,F g→F' g) {k:Nat} {x:Cell} (hx:(G k).v.oneCell'=true→COk F' w x (G k).v) {ag:Bool} {l:List Cell} {v:Value} (h:SOk (GOk G F w) ag l v):SOk (GOk G F' w) ag (l.map (frzC k x)) v:=by
 cases ag with
 |true=>
  obtain⟨cs,h1,h2⟩:=h
  exact⟨cs,h1,frz_cs hF hx h2⟩
 |false=>
  obtain⟨c,rfl,h2⟩:=h
  exact⟨_,rfl,frz_c hF hx h2⟩
theorem frz_a (hF:∀ g,F g→F' g) {k:Nat} {x:Cell} (hx:(G k).v.oneCell'=true→COk F' w x (G k).v) {av:AV} {v:Value} (h:av.ok (GOk G F w) v):(frzA k x av).ok (GOk G F' w) v:=by
 cases av with
 |s ag l=>exact frz_s hF hx h
 |tup l=>
  obtain⟨vs,rfl,h1,h2⟩:=h
  refine⟨vs,rfl,by simpa using h1,fun i p u h3 h4=> ?_⟩
  rw[List.getElem?_map] at h3
  cases hc:l[i]? with
  |none=>rw[hc] at h3;cases h3
  |some p0=>
   rw[hc] at h3
   cases h3
   exact frz_s hF hx (h2 i p0 u hc h4)
theorem row_froz {T:TypeId} {sz n:Nat} {e:Nat→List Cell} {v:Value} (h:RowOk B F w T sz n e v) (hF:∀ g,F g→F' g) (hg:∀ g,ownBlk v=some g→F' g):COk F' w (.row sz n e) v:=by
 obtain⟨xs,h1,hT,h0,h2,h3⟩:=h
 have hcs:=fun g hg=>h1.cells (g:=g) hg
 obtain⟨hx,⟨e1,hn⟩ | ⟨g,cap,cur,e1,hB,hh,hc,hm,hs,ht⟩⟩:=h1
 ·subst hn
  rw[e1]
  exact .row0
 ·rw[e1] at hcs ⊢
  have idx:∀ i j,i<n→j<sz→i*sz+j<xs.length:=fun i j hi hj=>by
   rw[hx]
   have:=Nat.mul_le_mul_right sz (show i+1≤n by omega)
   rw[Nat.add_mul,Nat.one_mul] at this
   omega
  refine .row (fun i j=>xs.getD (i*sz+j) undef) (hg g (by rw[e1];rfl)) hc h2 (fun i j hi hj=> ?_) fun i j c hi hj=> ?_
  ·have hlt:=idx i j hi hj
   have:=hcs g rfl _ _ (List.getElem?_eq_getElem hlt)
   rw[Addr.add_lit] at this
   rw[show 0+i*sz+j=0+(i*sz+j) by omega,this]
   simp[List.getD,List.getElem?_eq_getElem hlt]
  ·have hjl:j<sz:=by rw[← h2 i hi];exact (List.getElem?_eq_some_iff.1 hj).1
   have hlt:=idx i j hi hjl
   have:=h3 i j c _ hi hj (List.getElem?_eq_getElem hlt)
   simp only[List.getD,List.getElem?_eq_getElem hlt,Option.getD_some]
   exact this.keep (Keep.refl _) hF (fun _ _=>rfl)
theorem mem_remN {k q:Nat} : ∀ {l:List Nat},q∈l→q≠k→q∈remN k l
 |[],h,_=>by cases h
 |j::l,h,hne=>by
  simp only[remN]
  split
  ·rename_i e
   rcases List.mem_cons.1 h with rfl | h
   ·exact absurd (beq_eq e) hne
   ·exact mem_remN h hne
  ·rcases List.mem_cons.1 h with rfl | h
   ·exact List.mem_cons_self
   ·exact List.mem_cons_of_mem _ (mem_remN h hne)
theorem frzC0_nm {k q:Nat} {x c:Cell} (hx:x.nm0=[]) (h:q∈(frzC0 k x c).nm0):q∈c.nm0∧q≠k:=by
 cases c with
 |hd j=>
  simp only[frzC0] at h
  split at h
  ·rw[hx] at h;cases h
  ·rename_i e
   simp only[Cell.nm0,List.mem_singleton] at h ⊢
   exact⟨h,fun e2=>bne_ne e (by rw[← h];exact e2)⟩
 |own j o=>
  simp only[frzC0] at h
  split at h
  ·cases h
  ·rename_i e
   simp only[Cell.nm0,List.mem_singleton] at h ⊢
   exact⟨h,fun e2=>bne_ne e (by rw[← h];exact e2)⟩
 |oel j sz i o=>
  simp only[frzC0] at h
  split at h
  ·cases h
  ·rename_i e
   simp only[Cell.nm0,List.mem_singleton] at h ⊢
   exact⟨h,fun e2=>bne_ne e (by rw[← h];exact e2)⟩
 |pt j sz a n=>
  simp only[frzC0] at h
  split at h
  ·split at h
   ·split at h<;>cases h
   ·cases h
  ·rename_i e
   simp only[Cell.nm0,List.mem_singleton] at h ⊢
   exact⟨h,fun e2=>bne_ne e (by rw[← h];exact e2)⟩
 |clo | j | v | t | f | q | z | row | el | fh | m=>cases h
theorem subst_ok {s:AState} (h:Rep D B m F0 w0 s.fs G F a w) (k:Nat) (x:Cell) (hF:∀ g,F g→F' g) (hF':∀ g,F' g→F g∨(s.fs.b k≠none∧(G k).o g)) (hx:(G k).v.oneCell'=true→COk F' w x (G k).v) (hxn:x.nm0=[]) :
  Rep D B m F0 w0 (AState.kill ⟨s.slots.map fun p=>(p.1,frzA k x p.2),(er s.blks k).map fun p=>(p.1,frzB k x p.2)⟩ [k]).fs G F' a w:=by
 have hbl:∀ j b,lk (AState.kill ⟨s.slots.map fun p=>(p.1,frzA k x p.2),(er s.blks k).map fun p=>(p.1,frzB k x p.2)⟩ [k]).blks j=some b→j≠k∧∃ b0,lk s.blks j=some b0∧b=frzB k x b0∧∀ i∈b.nm,i≠k:=by
  intro j b hb
  obtain⟨q1,q2,q3⟩:=kill_b hb
  simp only at q1
  rw[lk_map,lk_er] at q1
  split at q1
  ·cases q1
  ·rename_i hne
   cases hq:lk s.blks j with
   |none=>rw[hq] at q1;cases q1
   |some b0=>
    rw[hq] at q1
    cases q1
    exact⟨Ne.symm hne,b0,rfl,rfl,fun i hi e=>q3 i hi (by simp[e])⟩
 have hnn:∀ j,(AState.kill ⟨s.slots.map fun p=>(p.1,frzA k x p.2),(er s.blks k).map fun p=>(p.1,frzB k x p.2)⟩ [k]).fs.b j≠none→j≠k∧s.fs.b j≠none:=by
  intro j hj
  obtain⟨b,hb⟩:=Option.ne_none_iff_exists'.1 hj
  obtain⟨q1,b0,q2,_⟩:=hbl j b hb
  exact⟨q1,by rw[show s.fs.b j=some b0 from q2];simp⟩
 have hst:Stay G F w G F' w (fun _=>False):=⟨fun _ _=>rfl,hF,Keep.refl _,fun _ _=>rfl⟩
 have hlt:∀ g,F' g→F g∨(B≤g∧g<w.heap.size∧(s.fs.b k≠none∧(G k).o g)):=fun g hg=>(hF' g hg).imp id fun ⟨q1,q2⟩=>by
  obtain⟨b,hb⟩:=Option.ne_none_iff_exists'.1 q1
  have:=(h.bk k b hb).lt g q2
  exact⟨this.1,this.2,q1,q2⟩
 refine⟨h.own,h.bs,fun g hg=>hF g (h.f0 g hg),fun g hg=> ?_,fun g hg=> ?_,fun j b hj=> ?_,fun j j' q1 q2=>h.ne j j' (hnn j q1).2 (hnn j' q2).2,fun j g q1 hg hf=> ?_,fun t av ht=> ?_,h.sz,h.df,h.pin,h.fr.1,fun g hg=>⟨(h.fr.2 g hg).1,(h.fr.2 g hg).2.1,fun hF2=>(h.fr.2 g hg).2.2.1 ((hF' g hF2).elim id fun ⟨q1,q2⟩=>absurd q2 ((h.fr.2 g hg).2.2.2 k q1)),fun j hj=>(h.fr.2 g hg).2.2.2 j (hnn j hj).2⟩⟩
 ·rcases hlt g hg with hg | hg
  ·exact h.f1 g hg
  ·exact .inr hg.1
 ·rcases hlt g hg with hg | hg
  ·exact h.fl g hg
  ·exact hg.2.1
 ·obtain⟨q1,b0,q2,rfl,q4⟩:=hbl j b hj
  have hb0:=h.bk j b0 q2
  cases b0 with
  |st T' l=>
   obtain⟨g,cs,e1,hB,hT,h5,h6⟩:=hb0
   exact⟨g,cs,e1,hB,hT,h5,frz_cs hF hx h6⟩
  |row T' sz' n' e'=>exact hb0.stay hst (fun _ _ h=>h) (fun _ _=>rfl)
  |rowN T' sz' n' e' nms=>
   obtain⟨v,eu,⟨xs,h1,hT,h0,h2,h3⟩,h4⟩:=hb0
   refine⟨v,eu,⟨xs,h1,hT,h0,fun i hi=>by rw[List.length_map];exact h2 i hi,fun i j c u hi hc hu=> ?_⟩,fun i c q hi hc hq=> ?_⟩
   ·rw[List.getElem?_map] at hc
    cases h5:(e' i)[j]? with
    |none=>rw[h5] at hc;cases hc
    |some c0=>
     rw[h5] at hc
     cases hc
     exact frz_c0 hF hx (h3 i j c0 u hi h5 hu)
   ·obtain⟨c0,hc0,rfl⟩:=List.mem_map.1 hc
    obtain⟨r1,r2⟩:=frzC0_nm hxn hq
    exact mem_remN (h4 i c0 q hi hc0 r1) r2
  |fam T' sz' n' hc len e' nms=>
   obtain⟨vs,h1,h2,h3⟩:=hb0
   have hnn2:∀ i,((hc i).map (frzC0 k x)≠none↔hc i≠none):=fun i=>by cases hc i<;>simp
   refine⟨vs,fun i c hi hci=> ?_,fun g=>(h2 g).trans ⟨fun ⟨i,r1,r2,r3⟩=>⟨i,r1,(hnn2 i).2 r2,r3⟩,fun ⟨i,r1,r2,r3⟩=>⟨i,r1,(hnn2 i).1 r2,r3⟩⟩,fun i j g hi hj r1 r2=>h3 i j g hi hj ((hnn2 i).1 r1) ((hnn2 j).1 r2)⟩
   simp only at hci
   cases h5:hc i with
   |none=>rw[h5] at hci;cases hci
   |some c0=>
    rw[h5] at hci
    cases hci
    obtain⟨r1,r2,r3⟩:=h1 i c0 hi h5
    refine⟨frz_c0 hF hx r1,r2.stay hst (fun _ _=>rfl),fun q hq=> ?_⟩
    obtain⟨r4,r5⟩:=frzC0_nm hxn hq
    exact mem_remN (r3 q r4) r5
  |gho=>exact hb0
  |rowP T' sz' n' p=>exact hb0.stay hst (fun _ _ h=>h) (fun _ _=>rfl)
 ·obtain⟨q2,q3⟩:=hnn j q1
  rcases hlt g hf with hf | ⟨_,_,hkn,hf⟩
  ·exact h.nf j g q3 hg hf
  ·exact h.ne j k q3 hkn q2 g hg hf
 ·obtain⟨q1,_⟩:=kill_s ht
  simp only at q1
  rw[lk_map] at q1
  cases hq:lk s.slots t with
  |none=>rw[hq] at q1;cases q1
  |some av0=>
   rw[hq] at q1
   cases q1
   exact frz_a hF hx (h.sl t av0 hq)
theorem frz1_ok {s:AState} (h:Rep D B m F0 w0 s.fs G F a w) (k:Nat):∃ F',Rep D B m F0 w0 (frz1 s k).fs G F' a w:=by
 unfold frz1
 split
 ·rename_i T sz n e hk
  obtain⟨v,ev,hok⟩:=h.bk k _ hk
  have hkn:s.fs.b k≠none:=by rw[show s.fs.b k=_ from hk];simp
  refine⟨fun g=>F g∨(G k).o g,subst_ok h k _ (fun g hg=> .inl hg) (fun g hg=>hg.imp id fun h2=>⟨hkn,h2⟩) (fun _=> ?_) rfl⟩
  rw[show (G k).v=v by rw[ev];rfl]
  exact row_froz hok (fun g hg=> .inl hg) (fun g hg=> .inr (by rw[ev];exact hg))
 ·exact⟨F,h⟩
theorem fresh_ok {s:AState} (h:Rep D B m F0 w0 s.fs G F a w) (k:Nat) (hk0:k<1000000) (gv:GV) (b:ABlk) (ho:∀ g,¬ gv.o g) (hb:b.ok B (upG G k gv) F w gv):Rep D B m F0 w0 (AState.mk (s.kill [k]).slots ((k,b)::er (s.kill [k]).blks k)).fs (upG G k gv) F a w:=by
 have hst:Stay G F w (upG G k gv) F w (fun j=>j=k):=⟨fun j hj=>by simp[upG,hj],fun _ h=>h,Keep.refl _,fun _ _=>rfl⟩
 have hbl:∀ j b',lk ((k,b)::er (s.kill [k]).blks k) j=some b'→(j=k∧b'=b)∨(j≠k∧lk (s.kill [k]).blks j=some b'):=by
  intro j b' h1
  simp only[lk] at h1
  split at h1
  ·rename_i e;cases h1;exact .inl ⟨(beq_eq e).symm,rfl⟩
  ·rename_i e
   rw[lk_er] at h1
   split at h1
   ·cases h1
   ·rename_i e2;exact .inr ⟨Ne.symm e2,h1⟩
 have hG:upG G k gv k=gv:=by simp[upG]
 have hGo:∀ j,j≠k→upG G k gv j=G j:=fun j hj=>by simp[upG,hj]
 have old:∀ j b',lk (s.kill [k]).blks j=some b'→s.fs.b j≠none:=fun j b' h1=>by
  rw[show s.fs.b j=some b' from (kill_b h1).1];simp
 refine⟨h.own,h.bs,h.f0,h.f1,h.fl,fun j b' hj=> ?_,fun j j' h1 h2 hne g hg=> ?_,fun j g h1 hg=> ?_,fun t' av ht'=> ?_,h.sz,h.df,fun j hj=>by rw[hGo j (by omega)];exact h.pin j hj,h.fr.1,fun g hg=>⟨(h.fr.2 g hg).1,(h.fr.2 g hg).2.1,(h.fr.2 g hg).2.2.1,fun j hj e=>by
  obtain⟨b1,hb1⟩:=Option.ne_none_iff_exists'.1 hj
  rcases hbl j b1 hb1 with ⟨rfl,rfl⟩ | ⟨hn1,q1⟩
  ·rw[hG] at e;exact ho g e
  ·rw[hGo j hn1] at e
   exact (h.fr.2 g hg).2.2.2 j (old j b1 q1) e⟩⟩
 ·rcases hbl j b' hj with ⟨rfl,rfl⟩ | ⟨hne,h1⟩
  ·rw[hG];exact hb
  ·rw[hGo j hne]
   obtain⟨k1,k2,k3⟩:=kill_b h1
   exact (h.bk j b' k1).stay hst (fun i hi e=>k3 i hi (by simp[e])) (fun _ _=>rfl)
 ·obtain⟨b1,hb1⟩:=Option.ne_none_iff_exists'.1 h1
  obtain⟨b2,hb2⟩:=Option.ne_none_iff_exists'.1 h2
  rcases hbl j b1 hb1 with ⟨rfl,rfl⟩ | ⟨hn1,q1⟩
  ·rw[hG] at hg;exact absurd hg (ho g)
  ·rcases hbl j' b2 hb2 with ⟨rfl,rfl⟩ | ⟨hn2,q2⟩
   ·rw[hG];exact ho g
   ·rw[hGo j hn1] at hg
    rw[hGo j' hn2]
    exact h.ne j j' (old j b1 q1) (old j' b2 q2) hne g hg
 ·obtain⟨b1,hb1⟩:=Option.ne_none_iff_exists'.1 h1
  rcases hbl j b1 hb1 with ⟨rfl,rfl⟩ | ⟨hn1,q1⟩
  ·rw[hG] at hg;exact absurd hg (ho g)
  ·rw[hGo j hn1] at hg
   exact h.nf j g (old j b1 q1) hg
 ·obtain⟨k1,k2⟩:=kill_s ht'
  exact (h.sl t' av k1).stay hst (fun i hi e=>k2 i hi (by simp[e]))
theorem slot_ok {s:AState} (h:Rep D B m F0 w0 s.fs G F a w) {t:Nat} {av:AV} (hav:av.ok (GOk G F w) (a.tmps.getD t undef)):Rep D B m F0 w0 (AState.mk ((t,av)::er s.slots t) s.blks).fs G F a w:=by
 refine⟨h.own,h.bs,h.f0,h.f1,h.fl,h.bk,h.ne,h.nf,fun t' av' ht=> ?_,h.sz,h.df,h.pin,h.fr⟩
 have h1:lk ((t,av)::er s.slots t) t'=some av':=ht
 simp only[lk] at h1
 split at h1
 ·rename_i e;cases h1;rw[← beq_eq e];exact hav
 ·rw[lk_er] at h1
  split at h1
  ·cases h1
  ·exact h.sl t' av' h1
theorem two_ok {s:AState} (h:Rep D B m F0 w0 s.fs G F a w) {p t:Nat} (hpt:p≠t) {b1 b2:ABlk} {O1 O2:Nat→Prop} (hp:s.fs.b p≠none) (ht:s.fs.b t≠none) (hO:∀ g,O1 g∨O2 g→(G p).o g∨(G t).o g) (hd:∀ g,O1 g→¬ O2 g)
  (h1:∀ G',(∀ j,(G' j).v=(G j).v)→b1.ok B G' F w ⟨(G p).v,O1⟩) (h2:∀ G',(∀ j,(G' j).v=(G j).v)→b2.ok B G' F w ⟨(G t).v,O2⟩):∃ G',Rep D B m F0 w0 (AState.mk s.slots ((p,b1)::(t,b2)::er (er s.blks p) t)).fs G' F a w:=by
 obtain⟨G',hG'⟩:∃ G':Nat→GV,G'=upG (upG G t ⟨(G t).v,O2⟩) p ⟨(G p).v,O1⟩:=⟨_,rfl⟩
 have hGp:G' p=⟨(G p).v,O1⟩:=by rw[hG'];simp[upG]
 have hGt:G' t=⟨(G t).v,O2⟩:=by rw[hG'];simp[upG,Ne.symm hpt]
 have hGo:∀ j,j≠p→j≠t→G' j=G j:=fun j h1 h2=>by rw[hG'];simp[upG,h1,h2]
 have hGv:∀ j,(G' j).v=(G j).v:=fun j=>by
  by_cases h1:j=p
  ·rw[h1,hGp]
  ·by_cases h2:j=t
   ·rw[h2,hGt]
   ·rw[hGo j h1 h2]
 have hst:Stay G F w G' F w (fun _=>False):=⟨fun j _=>hGv j,fun _ h=>h,Keep.refl _,fun _ _=>rfl⟩
 have hbl:∀ j b,lk ((p,b1)::(t,b2)::er (er s.blks p) t) j=some b→(j=p∧b=b1)∨(j=t∧b=b2)∨(j≠p∧j≠t∧lk s.blks j=some b):=by
  intro j b h1
  simp only[lk] at h1
  split at h1
  ·rename_i e;cases h1;exact .inl ⟨(beq_eq e).symm,rfl⟩
  ·rename_i e
   split at h1
   ·rename_i e;cases h1;exact .inr (.inl ⟨(beq_eq e).symm,rfl⟩)
   ·rename_i e2
    rw[lk_er,lk_er] at h1
    split at h1
    ·cases h1
    ·split at h1
     ·cases h1
     ·exact .inr (.inr ⟨Ne.symm (bne_ne e),Ne.symm (bne_ne e2),h1⟩)
 have own:∀ j g,(AState.mk s.slots ((p,b1)::(t,b2)::er (er s.blks p) t)).fs.b j≠none→(G' j).o g→s.fs.b j≠none∧((j=p∧O1 g)∨(j=t∧O2 g)∨(j≠p∧j≠t∧(G j).o g)):=by
  intro j g hj hg
  obtain⟨b,hb⟩:=Option.ne_none_iff_exists'.1 hj
  rcases hbl j b hb with ⟨rfl,_⟩ | ⟨rfl,_⟩ | ⟨q1,q2,q3⟩
  ·rw[hGp] at hg;exact⟨hp,.inl ⟨rfl,hg⟩⟩
  ·rw[hGt] at hg;exact⟨ht,.inr (.inl ⟨rfl,hg⟩)⟩
  ·rw[hGo j q1 q2] at hg;exact⟨by rw[show s.fs.b j=some b from q3];simp,.inr (.inr ⟨q1,q2,hg⟩)⟩
 have pt:∀ j g,s.fs.b j≠none→j≠p→j≠t→(G j).o g→¬ (O1 g∨O2 g):=fun j g hj q1 q2 hg hO12=>by
  rcases hO g hO12 with h3 | h3
  ·exact h.ne j p hj hp q1 g hg h3
  ·exact h.ne j t hj ht q2 g hg h3
 refine⟨G',h.own,h.bs,h.f0,h.f1,h.fl,fun j b hj=> ?_,fun j j' q1 q2 hne g hg hg'=> ?_,fun j g q1 hg hF=> ?_,fun t' av ht'=>(h.sl t' av ht').stay hst (fun _ _ h=>h),h.sz,h.df,fun j hj=>(hGv j).trans (h.pin j hj),h.fr.1,fun g hg=>⟨(h.fr.2 g hg).1,(h.fr.2 g hg).2.1,(h.fr.2 g hg).2.2.1,fun j hj e=>by
  obtain⟨r1,r2⟩:=own j g hj e
  rcases r2 with ⟨rfl,k1⟩ | ⟨rfl,k1⟩ | ⟨k1,k2,k3⟩
  ·rcases hO g (.inl k1) with h3 | h3
   ·exact (h.fr.2 g hg).2.2.2 j hp h3
   ·exact (h.fr.2 g hg).2.2.2 t ht h3
  ·rcases hO g (.inr k1) with h3 | h3
   ·exact (h.fr.2 g hg).2.2.2 p hp h3
   ·exact (h.fr.2 g hg).2.2.2 j ht h3
  ·exact (h.fr.2 g hg).2.2.2 j r1 k3⟩⟩
 ·rcases hbl j b hj with ⟨rfl,rfl⟩ | ⟨rfl,rfl⟩ | ⟨q1,q2,q3⟩
  ·rw[hGp];exact h1 G' hGv
  ·rw[hGt];exact h2 G' hGv
  ·rw[hGo j q1 q2]
   exact (h.bk j b q3).stay hst (fun _ _ h=>h) (fun _ _=>rfl)
 ·obtain⟨r1,r2⟩:=own j g q1 hg
  obtain⟨r3,r4⟩:=own j' g q2 hg'
  rcases r2 with ⟨rfl,k1⟩ | ⟨rfl,k1⟩ | ⟨k1,k2,k3⟩
  ·rcases r4 with ⟨rfl,k4⟩ | ⟨rfl,k4⟩ | ⟨k4,k5,k6⟩
   ·exact hne rfl
   ·exact hd g k1 k4
   ·exact pt j' g r3 k4 k5 k6 (.inl k1)
  ·rcases r4 with ⟨rfl,k4⟩ | ⟨rfl,k4⟩ | ⟨k4,k5,k6⟩
   ·exact hd g k4 k1
   ·exact hne rfl
   ·exact pt j' g r3 k4 k5 k6 (.inr k1)
  ·rcases r4 with ⟨rfl,k4⟩ | ⟨rfl,k4⟩ | ⟨k4,k5,k6⟩
   ·exact pt j g r1 k1 k2 k3 (.inl k4)
   ·exact pt j g r1 k1 k2 k3 (.inr k4)
   ·exact h.ne j j' r1 r3 hne g k3 k6
 ·obtain⟨r1,r2⟩:=own j g q1 hg
  rcases r2 with ⟨rfl,k1⟩ | ⟨rfl,k1⟩ | ⟨k1,k2,k3⟩
  ·rcases hO g (.inl k1) with h3 | h3
   ·exact h.nf j g hp h3 hF
   ·exact h.nf t g ht h3 hF
  ·rcases hO g (.inr k1) with h3 | h3
   ·exact h.nf p g hp h3 hF
   ·exact h.nf j g ht h3 hF
  ·exact h.nf j g r1 k3 hF
theorem absorb_ok {s:AState} (h:Rep D B m F0 w0 s.fs G F a w) {p t T sz n m':Nat} {hc:Nat→Option Cell} {len:Nat→Nat} {e:Nat→Nat→List Cell} {nms:List Nat} {e':Nat→List Cell} (hp:lk s.blks p=some (.fam T sz n hc len e nms)) (ht:lk s.blks t=some (.row T sz m' e')) (hpt:p≠t) :
  ∃ G',Rep D B m F0 w0 (AState.mk s.slots ((p,.fam T sz (n+1) (fun j=>if j=n then some (.hd t) else hc j) (fun j=>if j=n then m' else len j) (fun j=>if j=n then e' else e j) (t::nms))::(t,.gho)::er (er s.blks p) t)).fs G' F a w:=by
 obtain⟨vs,f1,f2,f3⟩:=h.bk p _ hp
 obtain⟨v,ev,hr⟩:=h.bk t _ ht
 have hpn:s.fs.b p≠none:=by rw[show s.fs.b p=_ from hp];simp
 have htn:s.fs.b t≠none:=by rw[show s.fs.b t=_ from ht];simp
 have hv1:v.oneCell'=true:=by
  obtain⟨xs,h1,_⟩:=hr
  obtain⟨_,⟨rfl,_⟩ | ⟨g,cap,cur,rfl,_⟩⟩:=h1<;>rfl
 have hto:∀ g,(G t).o g↔ownBlk v=some g:=fun g=>by rw[ev];exact Iff.rfl
 refine two_ok h hpt (O1:=fun g=>(G p).o g∨(G t).o g) (O2:=fun _=>False) hpn htn (fun g hg=>hg.elim id fun h=>h.elim) (fun g _ h=>h) (fun G' hG'=> ?_) (fun G' _ g h=>h)
 have hst:Stay G F w G' F w (fun _=>False):=⟨fun j _=>hG' j,fun _ h=>h,Keep.refl _,fun _ _=>rfl⟩
 refine⟨fun j=>if j=n then v else vs j,fun i c hi hci=> ?_,fun g=> ?_,fun i j g hi hj q1 q2 hne g1 g2=> ?_⟩
 ·by_cases hin:i=n
  ·subst hin
   simp only[if_true,Option.some.injEq] at hci ⊢
   subst hci
   refine⟨⟨by rw[hG',ev];rfl,hv1⟩,hr,fun q hq=> ?_⟩
   simp only[Cell.nm0,List.mem_singleton] at hq
   rw[hq];exact List.mem_cons_self
  ·simp only[if_neg hin] at hci ⊢
   obtain⟨k1,k2,k3⟩:=f1 i c (by omega) hci
   exact⟨k1.stay hst (fun _ _ h=>h),k2,fun q hq=>List.mem_cons_of_mem _ (k3 q hq)⟩
 ·constructor
  ·rintro (hg | hg)
   ·obtain⟨i,q1,q2,q3⟩:=(f2 g).1 hg
    have hne:i≠n:=by omega
    exact⟨i,by omega,by simpa[hne] using q2,by simpa[hne] using q3⟩
   ·exact⟨n,by omega,by simp,by simpa using (hto g).1 hg⟩
  ·rintro⟨i,q1,q2,q3⟩
   by_cases hin:i=n
   ·subst hin
    simp only[if_true] at q3
    exact .inr ((hto g).2 q3)
   ·simp only[if_neg hin] at q2 q3
    exact .inl ((f2 g).2 ⟨i,by omega,q2,q3⟩)
 ·have mix:∀ j,j<n+1→j≠n→(if j=n then some (Cell.hd t) else hc j)≠none→ownBlk (vs j)=some g→ownBlk v=some g→False:=fun j hj hjn q1 q2 q3=>by
   simp only[if_neg hjn] at q1
   exact h.ne p t hpn htn hpt g ((f2 g).2 ⟨j,by omega,q1,q2⟩) ((hto g).2 q3)
  simp only at g1 g2
  by_cases hin:i=n
  ·have hjn:j≠n:=fun e=>hne (by rw[hin,e])
   rw[if_pos hin] at g1
   rw[if_neg hjn] at g2
   exact mix j hj hjn q2 g2 g1
  ·rw[if_neg hin] at g1
   by_cases hjn:j=n
   ·rw[if_pos hjn] at g2
    exact mix i hi hin q1 g1 g2
   ·rw[if_neg hjn] at g2
    simp only[if_neg hin] at q1
    simp only[if_neg hjn] at q2
    exact f3 i j g (by omega) (by omega) q1 q2 hne g1 g2
theorem take_ok {s s':AState} {ps:List Prop} (h:Rep D B m F0 w0 s.fs G F a w) {t p:Nat} (ht:take1 s t p=some (s',ps)) (hps:allP ps):∃ G',Rep D B m F0 w0 s'.fs G' F a w:=by
 unfold take1 at ht
 split at ht
 ·rename_i k0 i x T sz n hc len e nms hsl hp
  split at ht
  ·cases ht
  ·rename_i hcond
   cases ht
   rw[Bool.or_eq_false_iff,Bool.or_eq_false_iff] at hcond
   obtain⟨hcond,hlt⟩:=hcond
   have ht0:t<1000000:=Nat.not_le.1 fun h=>by rw[Nat.ble_eq_true_of_le h] at hlt;cases hlt
   have htp:t≠p:=bne_ne hcond.1
   have htn:t ∉ nms:=fun hm=>by
    have:=hcond.2
    rw[has_iff.2 hm] at this
    cases this
   obtain⟨⟨hi1,hi2⟩,_⟩:=hps
   obtain⟨vs,f1,f2,f3⟩:=h.bk p _ hp
   have hpn:s.fs.b p≠none:=by rw[show s.fs.b p=_ from hp];simp
   have hci:hc i≠none:=by rw[hi2];simp
   obtain⟨g1,g2,_⟩:=f1 i _ hi1 hi2
   have fhv:∀ {k i:Nat} {x u:Value},GOk0 G F w (.fh k i x) u→u=x∧u.oneCell'=true:=fun h=>by
    have h1:=h.one
    have h':COk F w (.fh _ _ _) _:=h
    cases h'
    exact⟨rfl,h1⟩
   have hvx:=fhv g1
   have hsv:GOk G F w (.fh k0 i x) (a.tmps.getD t undef):=one_inv (h.sl t _ hsl)
   have hsx:=fhv hsv
   -- t is new
   have hst0:Stay G F w (upG G t ⟨vs i,fun _=>False⟩) F w (fun j=>j=t):=⟨fun j hj=>by simp[upG,hj],fun _ h=>h,Keep.refl _,fun _ _=>rfl⟩
   have h0:=fresh_ok h t ht0 ⟨vs i,fun _=>False⟩ .gho (fun _ h=>h) (fun _ h=>h)
   have hGt:upG G t ⟨vs i,fun _=>False⟩ t=⟨vs i,fun _=>False⟩:=by simp[upG]
   have hGp:upG G t ⟨vs i,fun _=>False⟩ p=G p:=by simp[upG,Ne.symm htp]
   have hkp:lk (s.kill [t]).blks p=some (.fam T sz n hc len e nms):=kill_keep hp (fun hm=>by simp at hm;exact htp hm.symm) (fun q hq hm=>by simp at hm;rw[hm] at hq;exact htn hq)
   have h1:=slot_ok (t:=t) (av:= .s false [.hd t]) h0 (one_ok ⟨by rw[hGt];rw[hvx.1];exact hsx.1,hsx.2⟩)
   have hb_p:(AState.mk ((t,AV.s false [.hd t])::er (s.kill [t]).slots t) ((t,ABlk.gho)::er (s.kill [t]).blks t)).fs.b p=some (.fam T sz n hc len e nms):=by
    show lk ((t,ABlk.gho)::er (s.kill [t]).blks t) p=_
    simp only[lk,beq_ne' htp]
    rw[lk_er,if_neg htp]
    exact hkp
   have hb_t:(AState.mk ((t,AV.s false [.hd t])::er (s.kill [t]).slots t) ((t,ABlk.gho)::er (s.kill [t]).blks t)).fs.b t=some .gho:=by
    show lk ((t,ABlk.gho)::er (s.kill [t]).blks t) t=_
    simp[lk,Nat.beq_refl]
   have H2:=two_ok h1 (p:=t) (t:=p) htp (b1:= .row T sz (len i) (e i)) (b2:= .fam T sz n (fun j=>if j=i then none else hc j) len e nms) (O1:=fun g=>ownBlk (vs i)=some g) (O2:=fun g=>(G p).o g∧ownBlk (vs i)≠some g)
    (by rw[hb_t];simp) (by rw[hb_p];simp) (fun g hg=> .inr (by rw[hGp];exact hg.elim (fun hg=>(f2 g).2 ⟨i,hi1,hci,hg⟩) (fun hg=>hg.1))) (fun g hg hg2=>hg2.2 hg) (fun G' hG'=>by rw[hGt];exact⟨vs i,rfl,g2⟩) (fun G' hG'=> ?c2)
   ·obtain⟨G',h2⟩:=H2
    refine⟨G',h2.sub (fun t' av hh=>hh) fun k b hk=> ?_⟩
    have hk':lk ((t,ABlk.row T sz (len i) (e i))::(p,ABlk.fam T sz n (fun j=>if j=i then none else hc j) len e nms)::er (er (s.kill [t]).blks p) t) k=some b:=hk
    show lk ((t,ABlk.row T sz (len i) (e i))::(p,ABlk.fam T sz n (fun j=>if j=i then none else hc j) len e nms)::er (er ((t,ABlk.gho)::er (s.kill [t]).blks t) t) p) k=some b
    simp only[lk] at hk' ⊢
    split
    ·rename_i e1;rw[e1] at hk';exact hk'
    ·rename_i e1
     rw[e1] at hk'
     simp only at hk'
     split
     ·rename_i e2;rw[e2] at hk';exact hk'
     ·rename_i e2
      rw[e2] at hk'
      simp only at hk'
      rw[lk_er,lk_er] at hk'
      rw[lk_er,if_neg (bne_ne e2),lk_er,if_neg (bne_ne e1)]
      simp only[lk,e1]
      rw[lk_er,if_neg (bne_ne e1)]
      split at hk'
      ·cases hk'
      ·split at hk'
       ·cases hk'
       ·exact hk'
   case c2=>
    rw[hGp]
    have hst:Stay G F w G' F w (fun j=>j=t):=⟨fun j hj=>by rw[hG'];simp[upG,hj],fun _ h=>h,Keep.refl _,fun _ _=>rfl⟩
    refine⟨vs,fun j c hj hcj=> ?_,fun g=> ?_,fun j j' g hj hj' q1 q2=> ?_⟩
    ·have hji:j≠i:=fun e=>by rw[e] at hcj;simp at hcj
     simp only[if_neg hji] at hcj
     obtain⟨k1,k2,k3⟩:=f1 j c hj hcj
     exact⟨k1.stay hst (fun q hq e=>htn (by rw[← e];exact k3 q hq)),k2,k3⟩
    ·constructor
     ·rintro⟨q1,q2⟩
      obtain⟨j,r1,r2,r3⟩:=(f2 g).1 q1
      have hji:j≠i:=fun e=>q2 (by rw[← e];exact r3)
      exact⟨j,r1,by simpa[hji] using r2,r3⟩
     ·rintro⟨j,r1,r2,r3⟩
      have hji:j≠i:=fun e=>r2 (by simp[e])
      simp only[if_neg hji] at r2
      exact⟨(f2 g).2 ⟨j,r1,r2,r3⟩,fun r4=>f3 j i g r1 hi1 r2 hci hji r3 r4⟩
    ·have hji:j≠i:=fun e=>q1 (by simp[e])
     have hji':j'≠i:=fun e=>q2 (by simp[e])
     simp only[if_neg hji] at q1
     simp only[if_neg hji'] at q2
     exact f3 j j' g hj hj' q1 q2
 ·cases ht
theorem cut_ok {s s':AState} {ps:List Prop} (h:Rep D B m F0 w0 s.fs G F a w) {t k:Nat} (ht:cut1 s t k=some (s',ps)) (hps:allP ps):∃ G',Rep D B m F0 w0 s'.fs G' F a w:=by
 unfold cut1 at ht
 split at ht
 ·rename_i j sz m' hsl
  split at ht
  ·rename_i T sz' n e hj
   split at ht
   ·rename_i hcond
    cases ht
    simp only[Bool.and_eq_true,Bool.not_eq_true'] at hcond
    obtain⟨⟨c1,c2⟩,c3⟩:=hcond
    have:=beq_eq c1
    subst this
    have hkj:k≠j:=bne_ne c2
    have hk0:k<1000000:=Nat.not_le.1 fun h=>by rw[Nat.ble_eq_true_of_le h] at c3;cases c3
    obtain⟨hm0,_⟩:=hps
    obtain⟨v0,ev,xs,h1,hT,h0,h2,h3⟩:=h.bk j _ hj
    have hsv:GOk0 G F w (.pt j sz 0 m') (a.tmps.getD t undef):=(one_inv (h.sl t _ hsl):GOk G F w (.pt j sz 0 m') _)
    rcases hsv with ⟨q,_⟩ | ⟨_,g,n',c,q1,q2,q3⟩
    ·omega
    rw[ev] at q1
    have q1:v0= .slice (some ⟨g,0,none⟩) n' c:=q1
    subst q1
    have hrow:RowOk B F w T sz m' e (.slice (some ⟨g,0,none⟩) m' c):=by
     obtain⟨hx,⟨e1,hn⟩ | ⟨g',cap,cur,e1,hB,hh,hc,hm,hs,hta⟩⟩:=h1
     ·cases e1
     ·cases e1
      have hmn:m'*sz≤n*sz:=Nat.mul_le_mul_right _ (by omega)
      refine⟨xs.take (m'*sz),⟨by rw[List.length_take];omega,.inr ⟨g,c,cur,rfl,hB,hh,by omega,hm,hs,by rw[← hta,List.take_take];congr 1;omega⟩⟩,hT,h0,fun i hi=>h2 i (by omega),fun i q cc u hi hc2 hu=> ?_⟩
      rw[List.getElem?_take] at hu
      split at hu
      ·exact h3 i q cc u (by omega) hc2 hu
      ·cases hu
    rw[Nat.zero_mul,Nat.sub_zero] at q3
    have hjn:s.fs.b j≠none:=by rw[show s.fs.b j=_ from hj];simp
    have h4:=fresh_ok h k hk0 ⟨.slice (some ⟨g,0,none⟩) m' c,fun _=>False⟩ .gho (fun _ h=>h) (fun _ h=>h)
    have hGk:upG G k ⟨.slice (some ⟨g,0,none⟩) m' c,fun _=>False⟩ k=⟨.slice (some ⟨g,0,none⟩) m' c,fun _=>False⟩:=by simp[upG]
    have hGj:upG G k ⟨.slice (some ⟨g,0,none⟩) m' c,fun _=>False⟩ j=G j:=by simp[upG,Ne.symm hkj]
    have h5:=slot_ok (t:=t) (av:= .s false [.hd k]) h4 (one_ok ⟨by rw[hGk];exact q3,by rw[q3];rfl⟩)
    have hkp:lk (s.kill [k]).blks j=some (.row T sz n e):=kill_keep hj (fun hm=>by simp at hm;exact hkj hm.symm) (fun q hq=>by cases hq)
    have hb_j:(AState.mk ((t,AV.s false [.hd k])::er (s.kill [k]).slots t) ((k,ABlk.gho)::er (s.kill [k]).blks k)).fs.b j=some (.row T sz n e):=by
     show lk ((k,ABlk.gho)::er (s.kill [k]).blks k) j=_
     simp only[lk,beq_ne' hkj]
     rw[lk_er,if_neg hkj]
     exact hkp
    have hb_k:(AState.mk ((t,AV.s false [.hd k])::er (s.kill [k]).slots t) ((k,ABlk.gho)::er (s.kill [k]).blks k)).fs.b k=some .gho:=by
     show lk ((k,ABlk.gho)::er (s.kill [k]).blks k) k=_
     simp[lk,Nat.beq_refl]
    obtain⟨G',h6⟩:=two_ok h5 (p:=k) (t:=j) hkj (b1:= .row T sz m' e) (b2:= .gho) (O1:=fun b=>g=b) (O2:=fun _=>False)
     (by rw[hb_k];simp) (by rw[hb_j];simp) (fun b hb=> .inr (by rw[hGj,ev];exact hb.elim (fun hb=>congrArg some hb) (fun hb=>hb.elim))) (fun _ _ h=>h) (fun G' _=>⟨.slice (some ⟨g,0,none⟩) m' c,by
      rw[hGk]
      unfold GV.one
      congr 1
      funext b
      simp[ownBlk],hrow⟩) (fun _ _ _ h=>h)
    refine⟨G',h6.sub (fun t' av hh=>hh) fun i b hi=> ?_⟩
    have hi':lk ((k,ABlk.row T sz m' e)::er (er (s.kill [k]).blks j) k) i=some b:=hi
    show lk ((k,ABlk.row T sz m' e)::(j,ABlk.gho)::er (er ((k,ABlk.gho)::er (s.kill [k]).blks k) k) j) i=some b
    simp only[lk] at hi' ⊢
    split
    ·rename_i e1;rw[e1] at hi';exact hi'
    ·rename_i e1
     rw[e1] at hi'
     simp only at hi'
     rw[lk_er,lk_er] at hi'
     split at hi'
     ·cases hi'
     ·split at hi'
      ·cases hi'
      ·rename_i n1 n2
       rw[beq_ne' n2]
       simp only
       rw[lk_er,if_neg n2,lk_er,if_neg n1]
       simp only[lk,e1]
       rw[lk_er,if_neg n1]
       exact hi'
   ·cases ht
  ·cases ht
 ·cases ht
theorem adj1_ok {s:AState} (h:Rep D B m F0 w0 s.fs G F a w) (x:Adj):∃ G' F',Rep D B m F0 w0 (adj1 s x).fs G' F' a w:=by
 cases x with
 |nil t k T sz=>
  simp only[adj1]
  split
  ·rename_i ht
   split
   ·exact⟨G,F,h⟩
   ·rename_i hc
    rw[Bool.or_eq_false_iff,Bool.or_eq_false_iff] at hc
    obtain⟨hc,hlt⟩:=hc
    have hk0:k<1000000:=Nat.not_le.1 fun h=>by rw[Nat.ble_eq_true_of_le h] at hlt;cases hlt
    have h0:=fresh_ok h k hk0 (GV.one (.slice none 0 0)) (.row T sz 0 fun _=>[]) (fun g hg=>by cases hg) ⟨_,rfl,[],World.ownsRow_nil _ _ _ _,bne_ne hc.1,Nat.pos_of_ne_zero (bne_ne hc.2),fun i hi=>by omega,fun i j c v hi=>by omega⟩
    refine⟨_,F,slot_ok (t:=t) (av:= .s false [.hd k]) h0 ?_⟩
    have:=(v_inv (one_inv (h.sl t _ ht))).1
    rw[this]
    exact one_ok ⟨by simp[upG,GV.one],rfl⟩
  ·exact⟨G,F,h⟩
 |ren k k'=>
  simp only[adj1]
  split
  ·rename_i bk hbk
   split
   ·exact⟨G,F,h⟩
   ·rename_i hkk
    rw[Bool.or_eq_false_iff] at hkk
    obtain⟨hkk,hlt⟩:=hkk
    have hk0:k'<1000000:=Nat.not_le.1 fun h=>by rw[Nat.ble_eq_true_of_le h] at hlt;cases hlt
    have hne:k≠k':=bne_ne hkk
    have hbl:∀ j b,lk ((er (s.kill [k']).blks k').map fun p=>(renN k k' p.1,renB k k' p.2)) j=some b→∃ i b0,renN k k' i=j∧i≠k'∧lk (s.kill [k']).blks i=some b0∧renB k k' b0=b:=by
     intro j b h1
     obtain⟨i,b0,q1,q2,q3,q4⟩:=lk_ren (renB k k') (fun p hp=>er_mem p hp) h1
     rw[lk_er] at q3
     split at q3
     ·cases q3
     ·exact⟨i,b0,q1,q2,q3,q4⟩
    have inj:∀ i i',i≠k'→i'≠k'→renN k k' i≠renN k k' i'→i≠i':=fun i i' _ _ h1 h2=>h1 (by rw[h2])
    have nmr:∀ (c:Cell) (nms:List Nat),(∀ q∈c.nm0,q∈nms)→∀ q∈(renC0 k k' c).nm0,q∈nms.map (renN k k'):=by
     intro c nms hc q hq
     cases c with
     |hd j | own j o | oel j sz i o | pt j sz a n=>
      simp only[renC0,Cell.nm0,List.mem_singleton] at hq
      exact List.mem_map.2 ⟨j,hc j (by simp[Cell.nm0]),hq.symm⟩
     |clo | j | v | t | f | q | z | row | el | fh | m=>cases hq
    refine⟨upG G k' (G k),F,h.own,h.bs,h.f0,h.f1,h.fl,fun j b hj=> ?_,fun j j' h1 h2 hnj g hg=> ?_,fun j g h1 hg=> ?_,fun t av ht=> ?_,h.sz,h.df,fun j hj=>by rw[show upG G k' (G k) j=G j by simp[upG,show j≠k' by omega]];exact h.pin j hj,h.fr.1,fun g hg=>⟨(h.fr.2 g hg).1,(h.fr.2 g hg).2.1,(h.fr.2 g hg).2.2.1,fun j hj e=>by
     obtain⟨b,hb⟩:=Option.ne_none_iff_exists'.1 hj
     obtain⟨i,b0,rfl,q2,q3,rfl⟩:=hbl j b hb
     rw[ren_g q2] at e
     exact (h.fr.2 g hg).2.2.2 i (by rw[show s.fs.b i=some b0 from (kill_b q3).1];simp) e⟩⟩
    ·obtain⟨i,b0,rfl,q2,q3,rfl⟩:=hbl j b hj
     obtain⟨k1,k2,k3⟩:=kill_b q3
     rw[ren_g q2]
     have:=h.bk i b0 k1
     cases b0 with
     |st T l=>
      obtain⟨g,cs,e1,hB,hT,h5,h6⟩:=this
      exact⟨g,cs,e1,hB,hT,h5,ren_cs h6 (fun hk=>k3 k' hk (by simp))⟩
     |row T sz n e=>exact this
     |rowN T sz n e nms=>
      obtain⟨v,eu,⟨xs,h1,hT,h0,h2,h3⟩,h4⟩:=this
      have hk':k' ∉ nms:=fun hm=>k3 k' hm (by simp)
      refine⟨v,eu,⟨xs,h1,hT,h0,fun i hi=>by rw[List.length_map];exact h2 i hi,fun i j c u hi hc hu=> ?_⟩,fun i c q hi hc hq=> ?_⟩
      ·rw[List.getElem?_map] at hc
       cases h5:(e i)[j]? with
       |none=>rw[h5] at hc;cases hc
       |some c0=>
        rw[h5] at hc
        cases hc
        exact ren_c0 (h3 i j c0 u hi h5 hu) (fun hm=>hk' (h4 i c0 k' hi (List.mem_of_getElem? h5) hm))
      ·obtain⟨c0,hc0,rfl⟩:=List.mem_map.1 hc
       exact nmr c0 nms (fun q hq=>h4 i c0 q hi hc0 hq) q hq
     |fam T sz n hc len e nms=>
      obtain⟨vs,h1,h2,h3⟩:=this
      have hk':k' ∉ nms:=fun hm=>k3 k' hm (by simp)
      have hnn2:∀ i,((hc i).map (renC0 k k')≠none↔hc i≠none):=fun i=>by cases hc i<;>simp
      refine⟨vs,fun i c hi hci=> ?_,fun g=>(h2 g).trans ⟨fun ⟨i,r1,r2,r3⟩=>⟨i,r1,(hnn2 i).2 r2,r3⟩,fun ⟨i,r1,r2,r3⟩=>⟨i,r1,(hnn2 i).1 r2,r3⟩⟩,fun i j g hi hj r1 r2=>h3 i j g hi hj ((hnn2 i).1 r1) ((hnn2 j).1 r2)⟩
      simp only at hci
      cases h5:hc i with
      |none=>rw[h5] at hci;cases hci
      |some c0=>
       rw[h5] at hci
       cases hci
       obtain⟨r1,r2,r3⟩:=h1 i c0 hi h5
       exact⟨ren_c0 r1 (fun hm=>hk' (r3 k' hm)),r2,fun q hq=>nmr c0 nms r3 q hq⟩
     |gho=>exact this
     |rowP T sz n p=>exact this
    ·obtain⟨b,hb⟩:=Option.ne_none_iff_exists'.1 h1
     obtain⟨b',hb'⟩:=Option.ne_none_iff_exists'.1 h2
     obtain⟨i,b0,rfl,q2,q3,rfl⟩:=hbl j b hb
     obtain⟨i',b0',rfl,q2',q3',rfl⟩:=hbl j' b' hb'
     rw[ren_g q2] at hg
     rw[ren_g q2']
     exact h.ne i i' (by rw[show s.fs.b i=some b0 from (kill_b q3).1];simp) (by rw[show s.fs.b i'=some b0' from (kill_b q3').1];simp) (inj i i' q2 q2' hnj) g hg
    ·obtain⟨b,hb⟩:=Option.ne_none_iff_exists'.1 h1
     obtain⟨i,b0,rfl,q2,q3,rfl⟩:=hbl j b hb
     rw[ren_g q2] at hg
     exact h.nf i g (by rw[show s.fs.b i=some b0 from (kill_b q3).1];simp) hg
    ·have ht2:lk ((s.kill [k']).slots.map fun p=>(p.1,renA k k' p.2)) t=some av:=ht
     rw[lk_map] at ht2
     cases hq:lk (s.kill [k']).slots t with
     |none=>rw[hq] at ht2;cases ht2
     |some av0=>
      rw[hq] at ht2
      cases ht2
      obtain⟨k1,k2⟩:=kill_s hq
      exact ren_a (h.sl t av0 k1) (fun hk=>k2 k' hk (by simp))
  ·exact⟨G,F,h⟩
 |frz k=>
  obtain⟨F',h'⟩:=frz1_ok h k
  exact⟨G,F',h'⟩
 |fam k T sz=>
  simp only[adj1]
  split
  ·exact⟨G,F,h⟩
  rename_i hlt
  have hk0:k<1000000:=Nat.not_le.1 fun h=>by rw[Nat.ble_eq_true_of_le h] at hlt;cases hlt
  exact⟨_,F,fresh_ok h k hk0 ⟨undef,fun _=>False⟩ _ (fun _ h=>h) ⟨fun _=>undef,fun i c hi=>by omega,fun g=>⟨fun h=>h.elim,fun ⟨i,hi,_⟩=>by omega⟩,fun i j g hi=>by omega⟩⟩
 |absorb p t=>
  simp only[adj1]
  split
  ·rename_i T sz n hc len e nms T' sz' m' e' hp ht
   split
   ·rename_i hcond
    simp only[Bool.and_eq_true,Bool.not_eq_true'] at hcond
    obtain⟨⟨⟨q1,q2⟩,q3⟩,_⟩:=hcond
    have:=beq_eq q1
    subst this
    have:=beq_eq q2
    subst this
    obtain⟨G',h'⟩:=absorb_ok h hp ht (bne_ne q3)
    exact⟨G',F,h'⟩
   ·exact⟨G,F,h⟩
  ·exact⟨G,F,h⟩
 |opn t=>exact⟨G,F,h⟩
 |opnR t=>exact⟨G,F,h⟩
 |take t p=>exact⟨G,F,h⟩
 |cut t k=>exact⟨G,F,h⟩
 |say sl bl=>exact⟨G,F,h⟩
theorem adjQ_ok:∀ (l:List Adj) {s:AState} {Q:AState→Prop} {G:Nat→GV} {F:Nat→Prop},adjQ s l Q→Rep D B m F0 w0 s.fs G F a w→∃ s' G' F',Q s'∧Rep D B m F0 w0 s'.fs G' F' a w
 |[],s,_,G,F,hq,h=>⟨s,G,F,hq,h⟩
 | .opn t::l,s,Q,G,F,hq,h=>by
  have h1:adjQ (opnS s t (G t).v) l Q:=hq (G t).v
  exact adjQ_ok l h1 (subst_ok h t (.v (G t).v) (fun _ h=>h) (fun _ h=> .inl h) (fun h1=> .v _ h1) rfl)
 | .opnR k::l,s,Q,G,F,hq,h=>by
  simp only[adjQ] at hq
  split at hq
  ·rename_i T sz n p hk
   obtain⟨v,ev,e,he,hr⟩:=h.bk k _ hk
   refine adjQ_ok l (hq e he) (?_:Rep D B m F0 w0 _ G F a w)
   have hkn:s.fs.b k≠none:=by rw[show s.fs.b k=_ from hk];simp
   have hbl:∀ j b,lk ((k,ABlk.row T sz n e)::er s.blks k) j=some b→(j=k∧b= .row T sz n e)∨(j≠k∧lk s.blks j=some b):=by
    intro j b h1
    simp only[lk] at h1
    split at h1
    ·rename_i e;cases h1;exact .inl ⟨(beq_eq e).symm,rfl⟩
    ·rename_i e
     rw[lk_er] at h1
     split at h1
     ·cases h1
     ·rename_i e2;exact .inr ⟨Ne.symm e2,h1⟩
   have hnn:∀ j,lk ((k,ABlk.row T sz n e)::er s.blks k) j≠none→s.fs.b j≠none:=by
    intro j hj
    obtain⟨b,hb⟩:=Option.ne_none_iff_exists'.1 hj
    rcases hbl j b hb with ⟨rfl,_⟩ | ⟨_,h1⟩
    ·exact hkn
    ·rw[show s.fs.b j=some b from h1];simp
   refine⟨h.own,h.bs,h.f0,h.f1,h.fl,fun j b hj=> ?_,fun j j' h1 h2=>h.ne j j' (hnn j h1) (hnn j' h2),fun j g h1=>h.nf j g (hnn j h1),h.sl,h.sz,h.df,h.pin,h.fr.1,fun g hg=>⟨(h.fr.2 g hg).1,(h.fr.2 g hg).2.1,(h.fr.2 g hg).2.2.1,fun j hj=>(h.fr.2 g hg).2.2.2 j (hnn j hj)⟩⟩
   rcases hbl j b hj with ⟨rfl,rfl⟩ | ⟨_,h1⟩
   ·exact⟨v,ev,hr⟩
   ·exact h.bk j b h1
  ·exact hq.elim
 | .take t p::l,s,Q,G,F,hq,h=>by
  simp only[adjQ] at hq
  split at hq
  ·rename_i s' ps hs
   obtain⟨q1,q2⟩:=conj_ok hq
   obtain⟨G',h'⟩:=take_ok h hs q1
   exact adjQ_ok l q2 h'
  ·exact hq.elim
 | .cut t k::l,s,Q,G,F,hq,h=>by
  simp only[adjQ] at hq
  split at hq
  ·rename_i s' ps hs
   obtain⟨q1,q2⟩:=conj_ok hq
   obtain⟨G',h'⟩:=cut_ok h hs q1
   exact adjQ_ok l q2 h'
  ·exact hq.elim
 | .say sl bl::l,s,Q,G,F,hq,h=>by
  simp only[adjQ] at hq
  obtain⟨G',F',h'⟩:=(say_weak hq.1).h _ _ _ _ _ G F _ _ h
  exact adjQ_ok l hq.2 h'
 | .nil t k T sz::l,s,Q,G,F,hq,h=>by
  obtain⟨G',F',h'⟩:=adj1_ok h (.nil t k T sz)
  exact adjQ_ok l hq h'
 | .ren k k'::l,s,Q,G,F,hq,h=>by
  obtain⟨G',F',h'⟩:=adj1_ok h (.ren k k')
  exact adjQ_ok l hq h'
 | .frz k::l,s,Q,G,F,hq,h=>by
  obtain⟨G',F',h'⟩:=adj1_ok h (.frz k)
  exact adjQ_ok l hq h'
 | .fam k T sz::l,s,Q,G,F,hq,h=>by
  obtain⟨G',F',h'⟩:=adj1_ok h (.fam k T sz)
  exact adjQ_ok l hq h'
 | .absorb p t::l,s,Q,G,F,hq,h=>by
  obtain⟨G',F',h'⟩:=adj1_ok h (.absorb p t)
  exact adjQ_ok l hq h'
end
end Go.Proofs.YtmagoiniahpofaaGreat
namespace Go.Proofs.YtmagoiniahpofaaGreat
open Go Go.RowKit
inductive Xt where
 |n
 |ex (i:Nat)
 |go (l:Nat)
 |r
def keyOf:Code→Option Nat
 | .region id _ _=>some id
 | .seq a b=>match keyOf a with
  |some k=>some k
  |none=>keyOf b
 | .cond _ a b=>match keyOf a with
  |some k=>some k
  |none=>keyOf b
 | .block _ c=>keyOf c
 | .loop c=>keyOf c
 | .scope c=>keyOf c
 |_=>none
structure LInv where
 ι : Type
 ok : ι →Prop
 st : ι →AState
 mu : ι →Nat
 a0:List Adj
 a1:List Adj
 fix:Option (ι →Nat)
def leV (s s':AState):Prop:=slLe s s'.slots∧blLe s s'.blks
def iterN (step:(AState→Prop)→AState→Prop):Nat→AState→Prop
 |0,_=>False
 |n+1,s=>step (iterN step n) s
def iterI (get:Nat→Option LInv) (body:(AState→Prop)→AState→Prop):Nat→Nat→AState→Prop
 |0,_,_=>False
 |n+1,j,s=>match get j with
  |some J=>adjQ s J.a0 fun s=>∃ i,J.ok i∧leV s (J.st i)∧∀ i,J.ok i→body (iterI get body n (j+1)) (J.st i)
  |none=>False
def litK (inv:List (Nat × LInv)) (c:Code):Bool:=
 match keyOf c with
 |some k=>(lk inv (2000000+k)).isSome
 |none=>false
def vc (P:Program) (Γ : FuncId→Option Run) (m:Nat) (inv:List (Nat × LInv)):Code→AState→(Xt→AState→Prop)→Prop
 | .skip,s,Q=>Q .n s
 | .region id ops draw,s,Q=>match lk inv (1000000+id) with
  |none=>regVC P Γ m ops.toList draw s (Q .n) 64 []
  |some J=>adjQ s J.a0 fun s=>regVC P Γ m ops.toList draw s (fun s=>adjQ s J.a1 (Q .n)) 64 []
 | .seq x y,s,Q=>vc P Γ m inv x s fun e s'=>match e with
  | .n=>vc P Γ m inv y s' Q
  | .ex i=>Q (.ex i) s'
  | .go l=>Q (.go l) s'
  | .r=>Q .r s'
 | .cond c x y,s,Q=>match opnd s.fs c with
  |some (.s false [.t])=>vc P Γ m inv x s Q
  |some (.s false [.f])=>vc P Γ m inv y s Q
  |some (.s false [.v (.bool b)])=>match litK inv x with
   |true=>match b with
    |true=>vc P Γ m inv x s Q
    |false=>vc P Γ m inv y s Q
   |false=>(b=true→vc P Γ m inv x s Q)∧(b=false→vc P Γ m inv y s Q)
  |_=>False
 | .block id c,s,Q=>vc P Γ m inv c s fun e s'=>match e with
  | .n=>Q .n s'
  | .ex i=>match Nat.beq i id with
   |true=>Q .n s'
   |false=>Q (.ex i) s'
  | .go l=>Q (.go l) s'
  | .r=>Q .r s'
 | .loop c,s,Q=>match keyOf c with
  |some k=>match lk inv (3000000+k) with
   |some J=>iterN (fun K s=>vc P Γ m inv c s fun e s''=>match e with
     | .n=>K s''
     | .ex i=>Q (.ex i) s''
     | .go l=>Q (.go l) s''
     | .r=>Q .r s'') J.a0.length s
   |none=>match lk inv (5000000+k) with
    |some U=>iterI (fun j=>lk inv (6000000+1000*j+k)) (fun K s=>vc P Γ m inv c s fun e s''=>match e with
     | .n=>K s''
     | .ex i=>Q (.ex i) s''
     | .go l=>Q (.go l) s''
     | .r=>Q .r s'') U.a0.length 0 s
    |none=>match lk inv k with
     |some J=>match J.fix with
      |none=>(adjQ s J.a0 fun s=>∃ i,J.ok i∧leV s (J.st i))∧∀ i,J.ok i→vc P Γ m inv c (J.st i) fun e s''=>match e with
       | .n=>adjQ s'' J.a1 fun s''=>∃ i',J.ok i'∧J.mu i'<J.mu i∧leV s'' (J.st i')
       | .ex i=>Q (.ex i) s''
       | .go l=>Q (.go l) s''
       | .r=>Q .r s''
      |some f=>adjQ s J.a0 fun s=>∃ i0,J.ok i0∧leV s (J.st i0)∧∀ i,J.ok i→f i=f i0→vc P Γ m inv c (J.st i) fun e s''=>match e with
       | .n=>adjQ s'' J.a1 fun s''=>∃ i',J.ok i'∧f i'=f i0∧J.mu i'<J.mu i∧leV s'' (J.st i')
       | .ex i=>Q (.ex i) s''
       | .go l=>Q (.go l) s''
       | .r=>Q .r s''
     |none=>False
  |none=>False
 | .exit id,s,Q=>Q (.ex id) s
 | .label _,s,Q=>Q .n s
 | .goto l,s,Q=>Q (.go l) s
 | .ret,s,Q=>Q .r s
 |_,_,_=>False
def Seen (D:Prop) (B m:Nat) (F0:Base) (w0:World) (Q:Xt→AState→Prop):Exit→Act→World→Prop
 | .normal,a,w=>∃ s G F,Q .n s∧Rep D B m F0 w0 s.fs G F a w
 | .exit i,a,w=>∃ s G F,Q (.ex i) s∧Rep D B m F0 w0 s.fs G F a w
 | .goto l,a,w=>∃ s G F,Q (.go l) s∧Rep D B m F0 w0 s.fs G F a w
 | .ret,a,w=>∃ s G F,Q .r s∧Rep D B m F0 w0 s.fs G F a w
 |_,_,_=>False
theorem Rep.dummyView {D:Prop} {B m:Nat} {F0:Base} {w0:World} {x:FS} {G:Nat→GV} {F:Nat→Prop} {a:Act} {w:World} (h:Rep D B m F0 w0 x G F a w):View B x G F a w:=⟨h.bs,h.fl,h.bk,h.ne,h.nf,h.sl⟩
section
variable {P:Program} {D:Prop} {B m:Nat} {Γ : FuncId→Option Run} {inv:List (Nat × LInv)} {F0:Base} {w0:World}
theorem vc_ok (hΓ : ∀ f run,Γ f=some run→RunOK P D B f run) (hx:P.follows .mixedOrders=true):∀ (c:Code) {s:AState} {Q:Xt→AState→Prop} {G:Nat→GV} {F:Nat→Prop} {a:Act} {w:World},vc P Γ m inv c s Q→Rep D B m F0 w0 s.fs G F a w→c.wp P (Seen D B m F0 w0 Q) a w:=by
 intro c
 induction c with
 |skip=>intro s Q G F a w h hr;exact wp_skip ⟨s,G,F,h,hr⟩
 |region id ops draw=>
  intro s Q G F a w h hr
  simp only[vc] at h
  split at h
  ·have:=regVC_ok (id:=id) (Qx:=Seen D B m F0 w0 Q) hΓ hx hr (fun s' G F a w hq hr'=>⟨s',G,F,hq,hr'⟩) 64 [] h
   rwa [Array.toArray_toList] at this
  ·rename_i J hJ
   obtain⟨s1,G1,F1,h1,hr1⟩:=adjQ_ok J.a0 h hr
   have:=regVC_ok (id:=id) (Qx:=Seen D B m F0 w0 Q) hΓ hx hr1 (fun s' G F a w hq hr'=>by
    obtain⟨s2,G2,F2,h2,hr2⟩:=adjQ_ok J.a1 hq hr'
    exact⟨s2,G2,F2,h2,hr2⟩) 64 [] h1
   rwa [Array.toArray_toList] at this
 |seq x y ihx ihy=>
  intro s Q G F a w h hr
  refine wp_seq (wp_mono (ihx h hr) fun e a w hq=> ?_)
  cases e with
  |normal=>obtain⟨s',G',F',h1,h2⟩:=hq;exact ihy h1 h2
  |exit i=>obtain⟨s',G',F',h1,h2⟩:=hq;exact⟨s',G',F',h1,h2⟩
  |goto l=>obtain⟨s',G',F',h1,h2⟩:=hq;exact⟨s',G',F',h1,h2⟩
  |ret=>obtain⟨s',G',F',h1,h2⟩:=hq;exact⟨s',G',F',h1,h2⟩
  |panic ch=>exact hq.elim
  |outgrown=>exact hq.elim
 |cond c x y ihx ihy=>
  intro s Q G F a w h hr
  simp only[vc] at h
  split at h
  ·rename_i hc
   exact wp_cond_true (bool_inv (b:=true) (one_inv (opnd_ok hr.dummyView hc)) (.inl rfl)) (ihx h hr)
  ·rename_i hc
   exact wp_cond_false (bool_inv (b:=false) (one_inv (opnd_ok hr.dummyView hc)) (.inl rfl)) (ihy h hr)
  ·rename_i b hc
   split at h
   ·cases b with
    |true=>exact wp_cond_true (bool_inv (b:=true) (one_inv (opnd_ok hr.dummyView hc)) (.inr rfl)) (ihx h hr)
    |false=>exact wp_cond_false (bool_inv (b:=false) (one_inv (opnd_ok hr.dummyView hc)) (.inr rfl)) (ihy h hr)
   ·exact wp_cond_split (bool_inv (b:=b) (one_inv (opnd_ok hr.dummyView hc)) (.inr rfl)) (fun hb=>ihx (h.1 hb) hr) (fun hb=>ihy (h.2 hb) hr)
  ·exact h.elim
 |block id c ih=>
  intro s Q G F a w h hr
  refine wp_block (wp_mono (ih h hr) fun e a w hq=> ?_)
  cases e with
  |normal=>obtain⟨s',G',F',h1,h2⟩:=hq;exact⟨s',G',F',h1,h2⟩
  |exit i=>
   obtain⟨s',G',F',h1,h2⟩:=hq
   simp only[Exit.inBlock]
   simp only at h1
   split
   ·rename_i e
    rw[e,Nat.beq_refl] at h1
    exact⟨s',G',F',h1,h2⟩
   ·rename_i e
    rw[beq_ne' e] at h1
    exact⟨s',G',F',h1,h2⟩
  |goto l=>obtain⟨s',G',F',h1,h2⟩:=hq;exact⟨s',G',F',h1,h2⟩
  |ret=>obtain⟨s',G',F',h1,h2⟩:=hq;exact⟨s',G',F',h1,h2⟩
  |panic ch=>exact hq.elim
  |outgrown=>exact hq.elim
 |loop c ih=>
  intro s Q G F a w h hr
  simp only[vc] at h
  split at h
  ·rename_i k hk
   split at h
   ·rename_i J hJ
    refine wp_loop_ghost (fun n a w=>∃ s G F,iterN (fun K s=>vc P Γ m inv c s fun e s''=>match e with
     | .n=>K s''
     | .ex i=>Q (.ex i) s''
     | .go l=>Q (.go l) s''
     | .r=>Q .r s'') n s∧Rep D B m F0 w0 s.fs G F a w) J.a0.length ⟨s,G,F,h,hr⟩ ?_
    rintro n a w ⟨s,G,F,h,hr⟩
    cases n with
    |zero=>exact h.elim
    |succ n=>
     refine wp_mono (ih h hr) fun e a w hq=> ?_
     cases e with
     |normal=>
      obtain⟨s',G',F',h1,h2⟩:=hq
      exact⟨n,Nat.lt_succ_self n,s',G',F',h1,h2⟩
     |exit i=>obtain⟨s',G',F',h1,h2⟩:=hq;exact⟨s',G',F',h1,h2⟩
     |goto l=>obtain⟨s',G',F',h1,h2⟩:=hq;exact⟨s',G',F',h1,h2⟩
     |ret=>obtain⟨s',G',F',h1,h2⟩:=hq;exact⟨s',G',F',h1,h2⟩
     |panic ch=>exact hq.elim
     |outgrown=>exact hq.elim
   ·split at h
    ·rename_i U hU
     refine wp_loop_ghost (fun n a w=>∃ j s G F,iterI (fun j=>lk inv (6000000+1000*j+k)) (fun K s=>vc P Γ m inv c s fun e s''=>match e with
      | .n=>K s''
      | .ex i=>Q (.ex i) s''
      | .go l=>Q (.go l) s''
      | .r=>Q .r s'') n j s∧Rep D B m F0 w0 s.fs G F a w) U.a0.length ⟨0,s,G,F,h,hr⟩ ?_
     rintro n a w ⟨j,s,G,F,h,hr⟩
     cases n with
     |zero=>exact h.elim
     |succ n=>
      simp only[iterI] at h
      split at h
      ·rename_i J hJ
       obtain⟨s1,G1,F1,⟨i,h0,h1,h3⟩,hr1⟩:=adjQ_ok J.a0 h hr
       obtain⟨G',F',hr'⟩:=(weak_of h1.1 h1.2).h D B m F0 w0 G1 F1 a w hr1
       refine wp_mono (ih (h3 i h0) hr') fun e a w hq=> ?_
       cases e with
       |normal=>
        obtain⟨s',G',F',h1,h2⟩:=hq
        exact⟨n,Nat.lt_succ_self n,j+1,s',G',F',h1,h2⟩
       |exit i=>obtain⟨s',G',F',h1,h2⟩:=hq;exact⟨s',G',F',h1,h2⟩
       |goto l=>obtain⟨s',G',F',h1,h2⟩:=hq;exact⟨s',G',F',h1,h2⟩
       |ret=>obtain⟨s',G',F',h1,h2⟩:=hq;exact⟨s',G',F',h1,h2⟩
       |panic ch=>exact hq.elim
       |outgrown=>exact hq.elim
      ·exact h.elim
    ·split at h
     ·rename_i J hJ
      split at h
      ·obtain⟨hq0,h3⟩:=h
       obtain⟨s1,G1,F1,⟨i,h0,h1⟩,hr1⟩:=adjQ_ok J.a0 hq0 hr
       obtain⟨G',F',hr'⟩:=(weak_of h1.1 h1.2).h D B m F0 w0 G1 F1 a w hr1
       refine wp_loop_ghost (fun n a w=>∃ i G F,J.ok i∧J.mu i=n∧Rep D B m F0 w0 (J.st i).fs G F a w) (J.mu i) ⟨i,G',F',h0,rfl,hr'⟩ ?_
       rintro n a w ⟨i,G,F,hok,rfl,hr⟩
       refine wp_mono (ih (h3 i hok) hr) fun e a w hq=> ?_
       cases e with
       |normal=>
        obtain⟨s1,G1,F1,hq1,k4⟩:=hq
        obtain⟨s2,G3,F3,⟨i',k0,k1,k2⟩,k6⟩:=adjQ_ok J.a1 hq1 k4
        obtain⟨G2,F2,k5⟩:=(weak_of k2.1 k2.2).h D B m F0 w0 G3 F3 a w k6
        exact⟨J.mu i',k1,i',G2,F2,k0,rfl,k5⟩
       |exit i=>obtain⟨s',G',F',h1,h2⟩:=hq;exact⟨s',G',F',h1,h2⟩
       |goto l=>obtain⟨s',G',F',h1,h2⟩:=hq;exact⟨s',G',F',h1,h2⟩
       |ret=>obtain⟨s',G',F',h1,h2⟩:=hq;exact⟨s',G',F',h1,h2⟩
       |panic ch=>exact hq.elim
       |outgrown=>exact hq.elim
      ·rename_i f hf
       obtain⟨s1,G1,F1,⟨i,h0,h1,h3⟩,hr1⟩:=adjQ_ok J.a0 h hr
       obtain⟨G',F',hr'⟩:=(weak_of h1.1 h1.2).h D B m F0 w0 G1 F1 a w hr1
       refine wp_loop_ghost (fun n a w=>∃ i1 G F,J.ok i1∧f i1=f i∧J.mu i1=n∧Rep D B m F0 w0 (J.st i1).fs G F a w) (J.mu i) ⟨i,G',F',h0,rfl,rfl,hr'⟩ ?_
       rintro n a w ⟨i1,G,F,hok,hfx,rfl,hr⟩
       refine wp_mono (ih (h3 i1 hok hfx) hr) fun e a w hq=> ?_
       cases e with
       |normal=>
        obtain⟨s1,G1,F1,hq1,k4⟩:=hq
        obtain⟨s2,G3,F3,⟨i',k0,kf,k1,k2⟩,k6⟩:=adjQ_ok J.a1 hq1 k4
        obtain⟨G2,F2,k5⟩:=(weak_of k2.1 k2.2).h D B m F0 w0 G3 F3 a w k6
        exact⟨J.mu i',k1,i',G2,F2,k0,kf,rfl,k5⟩
       |exit i=>obtain⟨s',G',F',h1,h2⟩:=hq;exact⟨s',G',F',h1,h2⟩
       |goto l=>obtain⟨s',G',F',h1,h2⟩:=hq;exact⟨s',G',F',h1,h2⟩
       |ret=>obtain⟨s',G',F',h1,h2⟩:=hq;exact⟨s',G',F',h1,h2⟩
       |panic ch=>exact hq.elim
       |outgrown=>exact hq.elim
     ·exact h.elim
  ·exact h.elim
 |rangeFunc f ps x y ihx ihy=>intro s Q G F a w h;exact h.elim
 |exit id=>intro s Q G F a w h hr;exact wp_exit ⟨s,G,F,h,hr⟩
 |scope c ih=>intro s Q G F a w h;exact h.elim
 |label l=>intro s Q G F a w h hr;exact wp_label ⟨s,G,F,h,hr⟩
 |goto l=>intro s Q G F a w h hr;exact wp_goto ⟨s,G,F,h,hr⟩
 |ret=>intro s Q G F a w h hr;exact wp_ret ⟨s,G,F,h,hr⟩
 |refuse why=>intro s Q G F a w h;exact h.elim
end
def res1 (P:Program) (s:AState):ResultVar→Option (Bool × List Cell)
 | .tmp t=>match lk s.slots t with
  |some (.s ag l)=>some (ag,l)
  |_=>none
 | .cell t T=>match tyI P T,lk s.slots t with
  |some (ag,n),some (.s false [.own k 0])=>match cellsAt s.fs (.own k 0) n with
   |some (l,_)=>match Nat.beq l.length n && (ag || Nat.beq n 1) with
    |true=>some (ag,l)
    |false=>none
   |none=>none
  |_,_=>none
def resL (P:Program) (s:AState):List ResultVar→Option (List (Bool × List Cell))
 |[]=>some []
 |v::l=>match res1 P s v with
  |some x=>match resL P s l with
   |some xs=>some (x::xs)
   |none=>none
  |none=>none
def froz (s:AState) (c:Cell):Cell:=
 match c with
 | .hd k=>match lk s.blks k with
  |some (.row _ sz n e)=> .row sz n e
  |_=> .j
 | .pt k sz a n=>match lk s.blks k with
  |some (.row _ sz' _ e)=>match Nat.beq sz sz' with
   |true=> .row sz n fun i=>e (i+a)
   |false=> .j
  |_=> .j
 | .own .. | .oel .. | .clo .. => .j
 |c=>c
def resAV (P:Program) (s:AState) (l:List ResultVar):Option AV:=
 match resL P s l with
 |some [(ag,l)]=>some (.s ag (l.map (froz s)))
 |some l=>some (.tup (l.map fun p=>(p.1,p.2.map (froz s))))
 |none=>none
def retVC (P:Program) (l:List ResultVar) (spec:AV) (e:Xt) (s:AState):Prop:=
 match e with
 | .n | .r=>match resAV P s l with
  |some av=>AVle av spec
  |none=>False
 |_=>False
end Go.Proofs.YtmagoiniahpofaaGreat
namespace Go.Proofs.YtmagoiniahpofaaGreat
open Go Go.RowKit
section
variable {P:Program} {D:Prop} {B m:Nat} {F0:Base} {w0:World} {s:AState} {G:Nat→GV} {F:Nat→Prop} {a:Act} {w:World}
def frozF (s:AState) (G:Nat→GV) (F:Nat→Prop):Nat→Prop:=fun g=>F g∨∃ k,s.fs.b k≠none∧(G k).o g
theorem froz_ok (h:Rep D B m F0 w0 s.fs G F a w) {c:Cell} {v:Value} (hv:GOk G F w c v) (G':Nat→GV):GOk G' (frozF s G F) w (froz s c) v:=by
 have up:∀ {c:Cell} {v:Value},COk F w c v→GOk G' (frozF s G F) w c v:=fun hc=>GOk.of (hc.keep (Keep.refl _) (fun g hg=> .inl hg) (fun _ _=>rfl))
 have jk:GOk G' (frozF s G F) w .j v:=hv.one
 cases c with
 |hd k=>
  have hk:v=(G k).v:=(hv:GOk0 G F w (.hd k) v).1
  simp only[froz]
  split
  ·rename_i T sz n e hb
   obtain⟨v0,ev,hok⟩:=h.bk k _ hb
   rw[ev] at hk
   subst hk
   exact GOk.of (row_froz hok (fun g hg=> .inl hg) (fun g hg=> .inr ⟨k,by rw[show s.fs.b k=_ from hb];simp,by rw[ev];exact hg⟩))
  ·exact jk
 |pt k sz a n=>
  simp only[froz]
  split
  ·rename_i T sz' m e hb
   split
   ·rename_i e2
    have:=beq_eq e2
    subst this
    obtain⟨v0,ev,hok⟩:=h.bk k _ hb
    have hr:COk (frozF s G F) w (.row sz m e) v0:=row_froz hok (fun g hg=> .inl hg) (fun g hg=> .inr ⟨k,by rw[show s.fs.b k=_ from hb];simp,by rw[ev];exact hg⟩)
    have h3:=frz_c0 (k:=k) (x:= .row sz m e) (F':=frozF s G F) (fun g hg=> .inl hg) (fun _=>by rw[ev];exact hr) (show GOk0 G F w (.pt k sz a n) v from hv)
    simp only[frzC0,Nat.beq_refl] at h3
    exact GOk.of (show COk (frozF s G F) w (.row sz n fun i=>e (i+a)) v from h3)
   ·exact jk
  ·exact jk
 |own | oel | clo | j=>exact jk
 |v | t | f | q | z | row | el | fh | m=>simp only[GOk,GOk0] at hv;exact up hv
theorem sok_froz (h:Rep D B m F0 w0 s.fs G F a w) {ag:Bool} {l:List Cell} {v:Value} (hv:SOk (GOk G F w) ag l v) (G':Nat→GV):SOk (GOk G' (frozF s G F) w) ag (l.map (froz s)) v:=by
 cases ag with
 |true=>
  obtain⟨cs,h1,h2⟩:=hv
  refine⟨cs,h1,by simpa using h2.1,fun i c u h3 h4=> ?_⟩
  rw[List.getElem?_map] at h3
  cases hc:l[i]? with
  |none=>rw[hc] at h3;cases h3
  |some c'=>
   rw[hc] at h3
   cases h3
   exact froz_ok h (h2.2 i c' u hc h4) G'
 |false=>
  obtain⟨c,rfl,h2⟩:=hv
  exact⟨froz s c,rfl,froz_ok h h2 G'⟩
def resSem (tmps:Array Value) (v:ResultVar):Sem Value:=
 match v with
 | .tmp t=>pure (tmps.getD t undef)
 | .cell a t=>do loadVar t (← asAddr (tmps.getD a undef))
theorem results_eq (fn:Func) (tmps:Array Value):results fn tmps=(do
  let vs ← fn.results.mapM (resSem tmps)
  pure (if h:vs.size=1 then vs[0] else .tuple vs)):=by
 unfold results
 congr 2
theorem resL_ok (h:Rep D B m F0 w0 s.fs G F a w):∀ {rv:List ResultVar} {l:List (Bool × List Cell)},resL P s rv=some l→∃ vs:List Value,(rv.mapM (resSem a.tmps)).run P w= .ok vs w∧l.length=vs.length∧∀ (i:Nat) (p:Bool × List Cell) (u:Value),l[i]? =some p→vs[i]? =some u→SOk (GOk G F w) p.1 p.2 u
 |[],l,hl=>by cases hl;exact⟨[],by simp,rfl,fun i p u h1=>by simp at h1⟩
 |v::rv,l,hl=>by
  simp only[resL] at hl
  split at hl
  ·rename_i x hx
   split at hl
   ·rename_i xs hxs
    cases hl
    obtain⟨vs,h1,h2,h3⟩:=resL_ok h hxs
    have one:∃ u,(resSem a.tmps v).run P w= .ok u w∧SOk (GOk G F w) x.1 x.2 u:=by
     cases v with
     |tmp t=>
      simp only[res1] at hx
      split at hx
      ·rename_i ag l hs
       cases hx
       exact⟨_,rfl,h.sl t _ hs⟩
      ·cases hx
     |cell t T=>
      simp only[res1] at hx
      split at hx
      ·rename_i ag n k hty hs
       split at hx
       ·rename_i l ps hc
        split at hx
        ·rename_i hn
         cases hx
         rw[Bool.and_eq_true,Bool.or_eq_true] at hn
         have hps:allP ps:=by
          simp only[cellsAt] at hc
          split at hc
          ·cases hc;exact trivial
          ·cases hc
         obtain⟨g,off,cs,e1,q1,q2⟩:=cellsAt_ok h.dummyView hc hps (one_inv (h.sl t _ hs))
         have hlen:cs.length=n:=by rw[← q2.1];exact beq_eq hn.1
         have hrun:=run_load' (P:=P) (w:=w) hty hlen q1 (fun hf=>hn.2.elim (fun h=>by rw[hf] at h;cases h) beq_eq)
         refine⟨if ag then .agg cs.toArray else cs.getD 0 undef,?_,?_⟩
         ·simp only[resSem,e1,asAddr]
          simpa[Instr.loadAt,Instr.sureAddr] using hrun
         ·cases ag with
          |true=>exact⟨cs,rfl,q2⟩
          |false=>
           have:n=1:=hn.2.elim (fun h=>by cases h) beq_eq
           subst this
           match cs,l,hlen,q2 with
           |[u],[c'],_,q2=>exact⟨c',rfl,q2.2 0 c' u rfl rfl⟩
           |[u],[],_,q2=>cases q2.1
           |[u],_::_::_,_,q2=>cases q2.1
        ·cases hx
       ·cases hx
      ·cases hx
    obtain⟨u,k1,k2⟩:=one
    refine⟨u::vs,by simp[List.mapM_cons,k1,h1],by simp[h2],fun i p u' h4 h5=> ?_⟩
    match i,h4,h5 with
    |0,h4,h5=>cases h4;cases h5;exact k2
    |i+1,h4,h5=>exact h3 i p u' (by simpa using h4) (by simpa using h5)
   ·cases hl
  ·cases hl
theorem resAV_ok (h:Rep D B m F0 w0 s.fs G F a w) {fn:Func} {av:AV} (hr:resAV P s fn.results.toList=some av) (G':Nat→GV):∃ v,(results fn a.tmps).run P w= .ok v w∧av.ok (GOk G' (frozF s G F) w) v:=by
 unfold resAV at hr
 split at hr
 ·rename_i ag l hl
  cases hr
  obtain⟨vs,h1,h2,h3⟩:=resL_ok h hl
  match vs,h2 with
  |[u],_=>
   refine⟨u,?_,sok_froz h (h3 0 _ u rfl rfl) G'⟩
   rw[results_eq,Array.mapM_eq_mapM_toList]
   simp[h1]
 ·rename_i l hne hl
  cases hr
  obtain⟨vs,h1,h2,h3⟩:=resL_ok h hl
  have hn1:¬ vs.length=1:=fun e=>by
   rw[← h2] at e
   match l,e,hne with
   |[(ag,l')],_,hne=>exact hne ag l' rfl
  refine⟨.tuple vs.toArray,?_,vs,rfl,by simpa using h2,fun i p u h4 h5=> ?_⟩
  ·rw[results_eq,Array.mapM_eq_mapM_toList]
   simp[h1,hn1]
  ·rw[List.getElem?_map] at h4
   cases hc:l[i]? with
   |none=>rw[hc] at h4;cases h4
   |some p'=>
    rw[hc] at h4
    cases h4
    exact sok_froz h (h3 i p' u hc h5) G'
 ·cases hr
end
def entryS:List AV→Nat→List (Nat × AV)
 |[],_=>[]
 |av::l,i=>(i,av)::entryS l (i+1)
theorem entryS_at {t:Nat} {av:AV} : ∀ {l:List AV} {i:Nat},lk (entryS l i) t=some av→∃ j,t=i+j∧l[j]? =some av
 |[],_,h=>by cases h
 |a::l,i,h=>by
  simp only[entryS,lk] at h
  split at h
  ·rename_i e
   cases h
   exact⟨0,(beq_eq e).symm,rfl⟩
  ·obtain⟨j,h1,h2⟩:=entryS_at h
   exact⟨j+1,by omega,by simpa using h2⟩
def AvsLe (l l':List AV):Prop:=l'.length=l.length∧∀ (i:Nat) (av av':AV),l[i]? =some av→l'[i]? =some av'→AVle av av'
theorem AvsLe.refl (l:List AV):AvsLe l l:=⟨rfl,fun i a b h1 h2=>by rw[h1] at h2;cases h2;exact AVle.refl _⟩
theorem fn_pure {P:Program} {D:Prop} {Γ : FuncId→Option Run} {f:FuncId} {fn:Func} {c:Code} {run:Run} (hΓ : ∀ B f run,Γ f=some run→RunOK P D B f run) (hx:P.follows .mixedOrders=true) (hf:P.funcs[f]? =some fn) (hb:fn.body=some c) (hc:callable P f=true)
  (H:∀ b avs t e,run b avs t=some e→allP e.ps→e.set=[]∧∃ spec avs' inv,e.val=some spec∧AvsLe avs avs'∧avs'.length≤fn.ntmps∧vc P Γ fn.ntmps inv c ⟨entryS avs' 0,[]⟩ (retVC P fn.results.toList spec)) (B:Nat):RunOK P D B f run:=by
 refine⟨hc,fun b avs0 t e hr hp G F w vs V hvs0=> ?_⟩
 obtain⟨hset,spec,avs,inv,hspec,hle,hlen,hvc⟩:=H b avs0 t e hr hp
 have hvs:AvsOk (GOk G F w) avs vs:=⟨by rw[hle.1];exact hvs0.1,fun i av v h1 h2=>by
  have hi:i<avs0.length:=by rw[← hle.1];exact (List.getElem?_eq_some_iff.1 h1).1
  exact (hle.2 i _ av (List.getElem?_eq_getElem hi) h1).h _ _ _ _ (hvs0.2 i _ v (List.getElem?_eq_getElem hi) h2)⟩
 refine calls_of_wp hf hb ?_
 have hsz:vs.length=avs.length:=hvs.1.symm
 have hrep:Rep D w.heap.size fn.ntmps ⟨F,fun k=>(G k).v,fun _=>False⟩ w (AState.mk (entryS avs 0) []).fs G F { tmps:=vs.toArray++Array.replicate (fn.ntmps-vs.toArray.size) undef,defers:=[] } w:=by
  refine⟨⟨Below.refl _ _,fun _=>Nat.le_refl _⟩,Nat.le_refl _,fun _ h=>h,fun _ h=> .inl h,V.fl,fun k b h=>(by cases h),fun k k' h=>absurd rfl h,fun k g h=>absurd rfl h,fun t av ht=> ?_,(by simp;omega),rfl,fun _ _=>rfl,Keep.refl _,fun _ h=>h.elim⟩
  obtain⟨j,e1,e2⟩:=entryS_at (show lk (entryS avs 0) t=some av from ht)
  rw[Nat.zero_add] at e1
  subst e1
  have hj:t<vs.length:=by rw[hsz];exact (List.getElem?_eq_some_iff.1 e2).1
  have:=hvs.2 t av vs[t] e2 (List.getElem?_eq_getElem hj)
  have e3:(vs.toArray++Array.replicate (fn.ntmps-vs.toArray.size) undef).getD t undef=vs[t]:=by
   rw[Array.getD_eq_getD_getElem?,Array.getElem?_append_left (by simpa using hj)]
   simp[hj]
  rw[e3]
  exact this
 refine wp_mono (vc_ok (hΓ w.heap.size) hx c hvc hrep) fun ex a w' hq=> ?_
 have fin:∀ (s:AState) (G1:Nat→GV) (F1:Nat→Prop),(∃ av,resAV P s fn.results.toList=some av∧AVle av spec)→Rep D w.heap.size fn.ntmps ⟨F,fun k=>(G k).v,fun _=>False⟩ w s.fs G1 F1 a w'→a.defers=[]∧∃ v,(results fn a.tmps).run P w'= .ok v w'∧
   ∃ v',Ending.returned v=Ending.returned v'∧∃ G' F',Post D B ⟨fun _=>none,b⟩ (e.rc none [] []) G F w G' F' v' w':=by
  rintro s G1 F1 ⟨av,h1,h2⟩ hr'
  obtain⟨v,h3,h4⟩:=resAV_ok hr' h1 G
  refine⟨hr'.df,v,h3,v,rfl,G,frozF s G1 F1,fun k _=>rfl,fun k _=>rfl,fun g hg=> .inl (hr'.f0 g hg),fun g hg=> ?_,fun g hg=> ?_,hr'.own.b.os,hr'.own.b.tape,hr'.own.b.output,hr'.own.b.size,hr'.own.d,keep_grown (grown_of_below hr'.own.b none),fun g hg _=>hr'.own.b.block g hg,fun av' hav=> ?_,fun k b' hs=> ?_,fun k k' b' b2 hs=> ?_⟩
  ·rcases hg with hg | ⟨k,hk,hg⟩
   ·exact (hr'.f1 g hg).imp id .inl
   ·obtain⟨b',hb'⟩:=Option.ne_none_iff_exists'.1 hk
    exact .inr (.inl ((hr'.bk k b' hb').lt g hg).1)
  ·rcases hg with hg | ⟨k,hk,hg⟩
   ·exact hr'.fl g hg
   ·obtain⟨b',hb'⟩:=Option.ne_none_iff_exists'.1 hk
    exact ((hr'.bk k b' hb').lt g hg).2
  ·rw[show (e.rc none [] []).val=e.val from rfl,hspec] at hav
   cases hav
   exact h2.h _ _ _ _ h4
  ·rw[show (e.rc none [] []).set=e.set from rfl,hset] at hs
   cases hs
  ·rw[show (e.rc none [] []).set=e.set from rfl,hset] at hs
   cases hs
 have ret:∀ (x:Xt) (s:AState),retVC P fn.results.toList spec x s→(x= .n∨x= .r)∧∃ av,resAV P s fn.results.toList=some av∧AVle av spec:=by
  intro x s h
  unfold retVC at h
  split at h
  ·split at h
   ·rename_i av hav;exact⟨.inl rfl,av,hav,h⟩
   ·exact h.elim
  ·split at h
   ·rename_i av hav;exact⟨.inr rfl,av,hav,h⟩
   ·exact h.elim
  ·exact h.elim
 cases ex with
 |normal=>obtain⟨s,G1,F1,h1,h2⟩:=hq;exact fin s G1 F1 (ret _ _ h1).2 h2
 |ret=>obtain⟨s,G1,F1,h1,h2⟩:=hq;exact fin s G1 F1 (ret _ _ h1).2 h2
 |exit i=>
  obtain⟨s,G1,F1,h1,h2⟩:=hq
  exact h1.elim
 |goto l=>
  obtain⟨s,G1,F1,h1,h2⟩:=hq
  exact h1.elim
 |panic ch=>exact hq.elim
 |outgrown=>exact hq.elim
end Go.Proofs.YtmagoiniahpofaaGreat
