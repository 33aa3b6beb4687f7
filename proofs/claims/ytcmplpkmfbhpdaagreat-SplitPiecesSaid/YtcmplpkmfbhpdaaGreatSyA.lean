import Derived.Test.YtcmplpkmfbhpdaaGreatGMem
import Derived.Test.YtcmplpkmfbhpdaaGreatGDec
import Derived.Test.YtcmplpkmfbhpdaaGreatGPar
namespace Go.Proofs.YtcmplpkmfbhpdaaGreat
open Go Go.RowKit
inductive aaa where
 |v (x:Value)
 |t
 |f
 |q (x:Rat) (s i:Nat)
 |z (x:Int) (s i:Nat)
 |own (k off:Nat)
 |hd (k:Nat)
 |oel (k sz i off:Nat)
 |row (sz n:Nat) (e:Nat->List aaa)
 |el (sz n:Nat) (e:Nat->List aaa) (i off:Nat)
 |clo (f:FuncId) (caps:List aaa)
 |j
 |fh (k i:Nat) (x:Value)
 |pt (k sz a n:Nat)
 |m (x:Nat)
def rl (x:Rat):Nat:=max (limbs x.num.natAbs).length (limbs x.den).length
def QC (w:World) (x:Rat) (i:Nat) (v:Value):Prop:=
 match i with
 |0=>∃ a,v= .slice a (limbs x.num.natAbs).length (limbs x.num.natAbs).length/\abi w a (limbs x.num.natAbs)
 |1=>v= .bool (decide (x.num<0))
 |2=>∃ a D,v= .slice a (limbs D).length (limbs D).length/\abi w a (limbs D)/\(D=x.den\/(D=0/\x.den=1))
 |3=>v= .bool false
 |_=>False
def ZC1 (w:World) (x:Int) (i:Nat) (v:Value):Prop:=
 match i with
 |0=>∃ a,v= .slice a (limbs x.natAbs).length (limbs x.natAbs).length/\abi w a (limbs x.natAbs)
 |1=>v= .bool (decide (x<0))
 |2=>0<=x/\∃ (ls:List Nat) (a:Option Addr),v= .slice a ls.length ls.length/\abi w a ls/\Limb ls/\ls.length<=1000000/\valL ls=x.natAbs
 |_=>False
def acv (l:List Nat):Nat->List aaa:=λi=>[.v (.int .i64 ((l.getD i 0:Nat):Int))]
inductive COk (F:Nat->Prop) (w:World):aaa->Value->Prop
 |v (x:Value) (h:x.oneCell'=true):COk F w (.v x) x
 |t:COk F w .t (.bool true)
 |f:COk F w .f (.bool false)
 |fh {k i:Nat} (x:Value) (h:x.oneCell'=true):COk F w (.fh k i x) x
 |q {x:Rat} {s i:Nat} {v:Value} (h:QC w x i v) (hs:rl x<=s):COk F w (.q x s i) v
 |z {x:Int} {s i:Nat} {v:Value} (h:ZC1 w x i v) (hs:(limbs x.natAbs).length<=s):COk F w (.z x s i) v
 |row0 {sz:Nat} {e:Nat->List aaa} {a:Option Addr} {c:Nat} : COk F w (.row sz 0 e) (.slice a 0 c)
 |row {sz n:Nat} {e:Nat->List aaa} {g o c:Nat} (vals:Nat->Nat->Value) (hF:F g) (hn:n<=c) (hl:∀ i,i<n->(e i).length=sz)
   (hc:∀ i j,i<n->j<sz->w.cell? ⟨g,o+i*sz+j,none⟩=some (vals i j))
   (ho:∀ (i j:Nat) (c:aaa),i<n->(e i)[j]? =some c->COk F w c (vals i j)):COk F w (.row sz n e) (.slice (some ⟨g,o,none⟩) n c)
 |el {sz n:Nat} {e:Nat->List aaa} {g o k off:Nat} (vals:Nat->Nat->Value) (hF:F g) (hk:k<n) (hl:∀ i,i<n->(e i).length=sz)
   (hc:∀ i j,i<n->j<sz->w.cell? ⟨g,o+i*sz+j,none⟩=some (vals i j))
   (ho:∀ (i j:Nat) (c:aaa),i<n->(e i)[j]? =some c->COk F w c (vals i j)):COk F w (.el sz n e k off) (.pointer (some ⟨g,o+k*sz+off,none⟩))
 |m {x:Nat} {v:Value} (h:COk F w (.row 1 (Dec.limbs x).length (acv (Dec.limbs x))) v):COk F w (.m x) v
theorem QC.keep {w w':World} {x:Rat} {i:Nat} {v:Value} (h:QC w x i v) (k:aaR w w'):QC w' x i v:=by
 match i,h with
 |0,⟨a,h1,h2⟩=>exact⟨a,h1,h2.keep k⟩
 |1,h=>exact h
 |2,⟨a,D,h1,h2,h3⟩=>exact⟨a,D,h1,h2.keep k,h3⟩
 |3,h=>exact h
theorem ZC1.keep {w w':World} {x:Int} {i:Nat} {v:Value} (h:ZC1 w x i v) (k:aaR w w'):ZC1 w' x i v:=by
 match i,h with
 |0,⟨a,h1,h2⟩=>exact⟨a,h1,h2.keep k⟩
 |1,h=>exact h
 |2,⟨h0,ls,a,h1,h2,h3⟩=>exact⟨h0,ls,a,h1,h2.keep k,h3⟩
theorem COk.keep {F F':Nat->Prop} {w w':World} {c:aaa} {v:Value} (h:COk F w c v) (k:aaR w w') (hF:∀ g,F g->F' g) (hw:∀ g,F g->w'.heap[g]? =w.heap[g]?):COk F' w' c v:=by
 induction h with
 |v x h=>exact .v x h
 |t=>exact .t
 |f=>exact .f
 |fh x h=>exact .fh x h
 |q h hs=>exact .q (h.keep k) hs
 |z h hs=>exact .z (h.keep k) hs
 |row0=>exact .row0
 |row vals h1 hn hl hc ho ih=>exact .row vals (hF _ h1) hn hl (λi j hi hj=>by rw[World.cell?_of_block (hw _ h1)];exact hc i j hi hj) ih
 |el vals h1 hk hl hc ho ih=>exact .el vals (hF _ h1) hk hl (λi j hi hj=>by rw[World.cell?_of_block (hw _ h1)];exact hc i j hi hj) ih
 |m _ ih=>exact .m ih
theorem aur {w:World} {x:Rat} {i:Nat} {v:Value} (h:QC w x i v):v.oneCell'=true:=by
 match i,h with
 |0,⟨a,h1,h2⟩=>subst h1;rfl
 |1,h=>cases h;rfl
 |2,⟨a,D,h1,h2,h3⟩=>subst h1;rfl
 |3,h=>cases h;rfl
theorem atO {w:World} {x:Int} {i:Nat} {v:Value} (h:ZC1 w x i v):v.oneCell'=true:=by
 match i,h with
 |0,⟨a,h1,h2⟩=>subst h1;rfl
 |1,h=>cases h;rfl
 |2,⟨_,ls,a,h1,_⟩=>subst h1;rfl
theorem COk.rowOne {F:Nat->Prop} {w:World} {sz n:Nat} {e:Nat->List aaa} {v:Value} (h:COk F w (.row sz n e) v):v.oneCell'=true:=by
 cases h<;>rfl
theorem COk.one {F:Nat->Prop} {w:World} {c:aaa} {v:Value} (h:COk F w c v):v.oneCell'=true:=by
 cases h with
 |v h=>assumption
 |t=>rfl
 |f=>rfl
 |fh h=>assumption
 |q h hs=>exact aur h
 |z h hs=>exact atO h
 |row0=>rfl
 |row=>rfl
 |el=>rfl
 |m h=>exact h.rowOne
def aa7:Value->Option Nat
 | .pointer (some a)=>some a.block
 | .slice (some a) _ _=>some a.block
 |_=>none
structure GV where
 v:Value
 o:Nat->Prop
def GV.one (u:Value):GV:=⟨u,λg=>aa7 u=some g⟩
def abw (G:Nat->GV) (F:Nat->Prop) (w:World):aaa->Value->Prop
 | .own k off,v=>∃ g,(G k).v= .pointer (some ⟨g,0,none⟩)/\v= .pointer (some ⟨g,off,none⟩)
 | .hd k,v=>v=(G k).v/\v.oneCell'=true
 | .oel k sz i off,v=>∃ g n c,(G k).v= .slice (some ⟨g,0,none⟩) n c/\v= .pointer (some ⟨g,i*sz+off,none⟩)
 | .pt k sz a n,v=>(n=0/\∃ x c,v= .slice x 0 c)\/(0<n/\∃ g m c,(G k).v= .slice (some ⟨g,0,none⟩) m c/\a+n<=m/\v= .slice (some ⟨g,a*sz,none⟩) n (c-a))
 | .clo _ _,_=>False
 | .j,v=>v.oneCell'=true
 |c,v=>COk F w c v
def abu (ok:aaa->Value->Prop) (l:List aaa) (vs:List Value):Prop:=l.length=vs.length/\∀ (i:Nat) (c:aaa) (v:Value),l[i]? =some c->vs[i]? =some v->ok c v
def GOk (G:Nat->GV) (F:Nat->Prop) (w:World):aaa->Value->Prop
 | .clo f caps,v=>∃ vs:List Value,v= .func (.func f) #[] vs.toArray/\abu (abw G F w) caps vs
 |c,v=>abw G F w c v
def aaa.nm0:aaa->List Nat
 | .own k _=>[k]
 | .hd k=>[k]
 | .oel k _ _ _=>[k]
 | .pt k _ _ _=>[k]
 |_=>[]
def aaa.nm:aaa->List Nat
 | .clo _ caps=>caps.flatMap aaa.nm0
 |c=>c.nm0
theorem abu.mono {p q:aaa->Value->Prop} {l:List aaa} {vs:List Value} (h:abu p l vs) (k:∀ c∈l,∀ v,p c v->q c v):abu q l vs:=
 ⟨h.1,λi c v h1 h2=>k c (List.mem_of_getElem? h1) v (h.2 i c v h1 h2)⟩
theorem abw.one {G:Nat->GV} {F:Nat->Prop} {w:World} {c:aaa} {v:Value} (h:abw G F w c v):v.oneCell'=true:=by
 cases c with
 |own k off=>obtain⟨g,_,rfl⟩:=h;rfl
 |hd k=>exact h.2
 |oel k sz i off=>obtain⟨g,n,c,_,rfl⟩:=h;rfl
 |pt k sz a n=>rcases h with ⟨_,x,c,rfl⟩ | ⟨_,g,m,c,_,_,rfl⟩<;>rfl
 |clo f caps=>exact h.elim
 |j=>exact h
 |_=>exact COk.one h
theorem GOk.one {G:Nat->GV} {F:Nat->Prop} {w:World} {c:aaa} {v:Value} (h:GOk G F w c v):v.oneCell'=true:=by
 cases c with
 |clo f caps=>obtain⟨vs,rfl,_⟩:=h;rfl
 |_=>simp only[GOk] at h;exact h.one
structure ae9 (G:Nat->GV) (F:Nat->Prop) (w:World) (G':Nat->GV) (F':Nat->Prop) (w':World) (nw:Nat->Prop):Prop where
 g:∀ k,¬ nw k->(G' k).v=(G k).v
 f:∀ b,F b->F' b
 k:aaR w w'
 h:∀ b,F b->w'.heap[b]? =w.heap[b]?
section
variable {G G':Nat->GV} {F F':Nat->Prop} {w w':World} {nw:Nat->Prop}
theorem COk.stay {c:aaa} {v:Value} (h:COk F w c v) (s:ae9 G F w G' F' w' nw):COk F' w' c v:=h.keep s.k s.f s.h
theorem abw.stay {c:aaa} {v:Value} (h:abw G F w c v) (s:ae9 G F w G' F' w' nw) (hn:∀ k∈c.nm0,¬ nw k):abw G' F' w' c v:=by
 cases c with
 |own k off=>obtain⟨g,h1,h2⟩:=h;exact⟨g,by rw[s.g k (hn k (by simp[aaa.nm0]))];exact h1,h2⟩
 |hd k=>exact⟨by rw[s.g k (hn k (by simp[aaa.nm0]))];exact h.1,h.2⟩
 |oel k sz i off=>obtain⟨g,n,c,h1,h2⟩:=h;exact⟨g,n,c,by rw[s.g k (hn k (by simp[aaa.nm0]))];exact h1,h2⟩
 |pt k sz a n=>
  rcases h with h | ⟨h0,g,m,c,h1,h2⟩
  ·exact .inl h
  ·exact .inr ⟨h0,g,m,c,by rw[s.g k (hn k (by simp[aaa.nm0]))];exact h1,h2⟩
 |clo f caps=>exact h.elim
 |j=>exact h
 |_=>exact COk.stay h s
theorem GOk.stay {c:aaa} {v:Value} (h:GOk G F w c v) (s:ae9 G F w G' F' w' nw) (hn:∀ k∈c.nm,¬ nw k):GOk G' F' w' c v:=by
 cases c with
 |clo f caps=>
  obtain⟨vs,h1,h2⟩:=h;exact⟨vs,h1,h2.mono λc hc v hv=>hv.stay s λk hk=>hn k (by simp only[aaa.nm,List.mem_flatMap];exact⟨c,hc,hk⟩)⟩
 |_=>simp only[GOk] at h ⊢;exact h.stay s hn
theorem abu.stay {l:List aaa} {vs:List Value} (h:abu (GOk G F w) l vs) (s:ae9 G F w G' F' w' nw) (hn:∀ k∈l.flatMap aaa.nm,¬ nw k):abu (GOk G' F' w') l vs:=
 h.mono λc hc _v hv=>hv.stay s λk hk=>hn k (List.mem_flatMap.2 ⟨c,hc,hk⟩)
end
inductive AV where
 |s (a:Bool) (l:List aaa)
 |tup (l:List (Bool × List aaa))
def SOk (ok:aaa->Value->Prop) (a:Bool) (l:List aaa) (v:Value):Prop:=
 match a with
 |true=>∃ cs:List Value,v= .agg cs.toArray/\abu ok l cs
 |false=>∃ c,l=[c]/\ok c v
def AV.ok (ok:aaa->Value->Prop):AV->Value->Prop
 | .s a l,v=>SOk ok a l v
 | .tup l,v=>∃ vs:List Value,v= .tuple vs.toArray/\l.length=vs.length/\∀ (i:Nat) (p:Bool × List aaa) (u:Value),l[i]? =some p->vs[i]? =some u->SOk ok p.1 p.2 u
def AV.nm:AV->List Nat
 | .s _ l=>l.flatMap aaa.nm
 | .tup l=>l.flatMap λp=>p.2.flatMap aaa.nm
inductive KD where
 |str
 |int (k:IntKind)
deriving DecidableEq
def KD.ok:KD->Value->Prop
 | .str,v=>∃ s,v= .string s
 | .int k,v=>∃ z,v= .int k z
inductive aae where
 |st (T:TypeId) (l:List aaa)
 |row (T:TypeId) (sz n:Nat) (e:Nat->List aaa)
 |rowN (T:TypeId) (sz n:Nat) (e:Nat->List aaa) (nms:List Nat)
 |fam (T:TypeId) (sz n:Nat) (hc:Nat->Option aaa) (len:Nat->Nat) (e:Nat->Nat->List aaa) (nms:List Nat)
 |gho
 |rowP (T:TypeId) (sz n:Nat) (p:(Nat->List aaa)->Prop)
 |mp (kd:KD) (zv:Value) (n:Nat) (key:Nat->Value) (ag:Bool) (val:Nat->List aaa) (nms:List Nat)
def aae.nm:aae->List Nat
 | .st _ l=>l.flatMap aaa.nm
 | .row .. =>[]
 | .rowN _ _ _ _ nms=>nms
 | .fam _ _ _ _ _ _ nms=>nms
 | .gho=>[]
 | .rowP .. =>[]
 | .mp _ _ _ _ _ _ nms=>nms
def aec (B:Nat) (F:Nat->Prop) (w:World) (T:TypeId) (sz n:Nat) (e:Nat->List aaa) (v:Value):Prop:=
 ∃ xs:List Value,w.ownsRow B T sz v n xs/\T≠213 /\0<sz/\(∀ i,i<n->(e i).length=sz)/\∀ (i j:Nat) (c:aaa) (v:Value),i<n->(e i)[j]? =some c->xs[i*sz+j]? =some v->COk F w c v
def aae.ok (B:Nat) (G:Nat->GV) (F:Nat->Prop) (w:World):aae->GV->Prop
 | .st T l,u=>∃ g cs,u=GV.one (.pointer (some ⟨g,0,none⟩))/\B<=g/\T≠213 /\aak T w g cs/\abu (GOk G F w) l cs
 | .row T sz n e,u=>∃ v,u=GV.one v/\aec B F w T sz n e v
 | .rowN T sz n e nms,u=>∃ v,u=GV.one v/\(∃ xs:List Value,w.ownsRow B T sz v n xs/\T≠213 /\0<sz/\(∀ i,i<n->(e i).length=sz)/\∀ (i j:Nat) (c:aaa) (v:Value),i<n->(e i)[j]? =some c->xs[i*sz+j]? =some v->abw G F w c v)/\∀ i c k,i<n->c∈e i->k∈c.nm0->k∈nms
 | .fam T sz n hc len e nms,u=>∃ vs:Nat->Value,(∀ i c,i<n->hc i=some c->abw G F w c (vs i)/\aec B F w T sz (len i) (e i) (vs i)/\∀ k∈c.nm0,k∈nms)/\(∀ g,u.o g↔∃ i,i<n/\hc i≠none/\aa7 (vs i)=some g)/\
   ∀ i j g,i<n->j<n->hc i≠none->hc j≠none->i≠j->aa7 (vs i)=some g->aa7 (vs j)≠some g
 | .gho,u=>∀ g,¬ u.o g
 | .rowP T sz n p,u=>∃ v,u=GV.one v/\∃ e,p e/\aec B F w T sz n e v
 | .mp kd zv n key ag val nms,u=>(∃ g es ck,u=⟨.map (some g),λx=>x=g⟩/\B<=g/\w.heap[g]? =some (.map es ck)/\es.size=n/\(∀ (i:Nat) (e:MapEntry),es[i]? =some e->e.key=key i/\kd.ok e.key/\SOk (abw G F w) ag (val i) e.val)/\SOk (abw G F w) ag (val n) zv)/\∀ i c k,i<=n->c∈val i->k∈c.nm0->k∈nms
theorem SOk.mono {p q:aaa->Value->Prop} {a:Bool} {l:List aaa} {v:Value} (h:SOk p a l v) (k:∀ c∈l,∀ v,p c v->q c v):SOk q a l v:=by
 cases a with
 |true=>obtain⟨cs,h1,h2⟩:=h;exact⟨cs,h1,h2.mono k⟩
 |false=>obtain⟨c,rfl,h2⟩:=h;exact⟨c,rfl,k c (by simp) v h2⟩
theorem AV.ok.mono {p q:aaa->Value->Prop} {av:AV} {v:Value} (h:av.ok p v) (k:∀ c v,(∀ x∈c.nm,x∈av.nm)->p c v->q c v):av.ok q v:=by
 cases av with
 |s a l=>exact SOk.mono h λc hc v hv=>k c v (λx hx=>List.mem_flatMap.2 ⟨c,hc,hx⟩) hv
 |tup l=>
  obtain⟨vs,h1,h2,h3⟩:=h;exact⟨vs,h1,h2,λi p u hp hu=>(h3 i p u hp hu).mono λc hc v hv=>k c v (λx hx=>List.mem_flatMap.2 ⟨p,List.mem_of_getElem? hp,List.mem_flatMap.2 ⟨c,hc,hx⟩⟩) hv⟩
section
variable {G G':Nat->GV} {F F':Nat->Prop} {w w':World} {nw:Nat->Prop}
theorem AV.ok.stay {av:AV} {v:Value} (h:av.ok (GOk G F w) v) (s:ae9 G F w G' F' w' nw) (hn:∀ k∈av.nm,¬ nw k):av.ok (GOk G' F' w') v:=
 h.mono λ_ _ hc hv=>hv.stay s λk hk=>hn k (hc k hk)
theorem abr {v:Value} {B:Nat} {T:TypeId} {sz n:Nat} {xs:List Value} (h:w.ownsRow B T sz v n xs):aa7 v=v.ownBlock:=by
 obtain⟨_,⟨rfl,_⟩ | ⟨g,cap,cur,rfl,_⟩⟩:=h<;>rfl
theorem aiO {B:Nat} {T:TypeId} {sz n:Nat} {v:Value} {xs:List Value} (h1:w.ownsRow B T sz v n xs) (hw:∀ g,aa7 v=some g->w'.heap[g]? =w.heap[g]?):w'.ownsRow B T sz v n xs:=by
 refine⟨h1.1,?_⟩;rcases h1.2 with h | ⟨g,cap,cur,rfl,hb,hg,rest⟩
 ·exact .inl h
 ·exact .inr ⟨g,cap,cur,rfl,hb,(hw g rfl).trans hg,rest⟩
theorem aec.stay {B:Nat} {T:TypeId} {sz n:Nat} {e:Nat->List aaa} {v:Value} (h:aec B F w T sz n e v) (s:ae9 G F w G' F' w' nw) (hw:∀ g,aa7 v=some g->w'.heap[g]? =w.heap[g]?):aec B F' w' T sz n e v:=by
 obtain⟨xs,h1,hT,h2,h3,h4⟩:=h;exact⟨xs,aiO h1 hw,hT,h2,h3,λi j c v hi hc hv=>(h4 i j c v hi hc hv).stay s⟩
theorem aec.lt {B:Nat} {T:TypeId} {sz n:Nat} {e:Nat->List aaa} {v:Value} (h:aec B F w T sz n e v):∀ g,aa7 v=some g->B<=g/\g<w.heap.size:=by
 intro g hg;obtain⟨xs,h1,_⟩:=h;rw[abr h1] at hg;exact h1.lt g hg
theorem aae.ok.stay {B:Nat} {b:aae} {u:GV} (h:b.ok B G F w u) (s:ae9 G F w G' F' w' nw) (hn:∀ k∈b.nm,¬ nw k) (hw:∀ g,u.o g->w'.heap[g]? =w.heap[g]?):b.ok B G' F' w' u:=by
 cases b with
 |st T l=>
  obtain⟨g,cs,rfl,h1,hT,h2,h3⟩:=h;exact⟨g,cs,rfl,h1,hT,(hw g rfl).trans h2,h3.stay s hn⟩
 |row T sz n e=>
  obtain⟨v,rfl,h1⟩:=h;exact⟨v,rfl,h1.stay s hw⟩
 |rowN T sz n e nms=>
  obtain⟨v,rfl,⟨xs,h1,hT,h2,h3,h4⟩,h5⟩:=h;exact⟨v,rfl,⟨xs,aiO h1 hw,hT,h2,h3,λi j c v hi hc hv=>(h4 i j c v hi hc hv).stay s λk hk=>hn k (h5 i c k hi (List.mem_of_getElem? hc) hk)⟩,h5⟩
 |fam T sz n hc len e nms=>
  obtain⟨vs,h1,h2,h3⟩:=h;refine⟨vs,λi c hi hci=> ?_,h2,h3⟩;obtain⟨k1,k2,k3⟩:=h1 i c hi hci;exact⟨k1.stay s λk hk=>hn k (k3 k hk),k2.stay s λg hg=>hw g ((h2 g).2 ⟨i,hi,by rw[hci];simp,hg⟩),k3⟩
 |gho=>exact h
 |rowP T sz n p=>
  obtain⟨v,rfl,e,h0,h1⟩:=h;exact⟨v,rfl,e,h0,h1.stay s hw⟩
 |mp kd zv n key ag val nms=>
  obtain⟨⟨g,es,ck,rfl,hB,h1,h2,h3,h4⟩,h5⟩:=h;have one:∀ {i:Nat} {v:Value},i<=n->SOk (abw G F w) ag (val i) v->SOk (abw G' F' w') ag (val i) v:=λ{i v} hi hv=>SOk.mono hv λc hc v hv=>hv.stay s λk hk=>hn k (h5 i c k hi hc hk);refine⟨⟨g,es,ck,rfl,hB,(hw g rfl).trans h1,h2,λi e he=> ?_,one (Nat.le_refl n) h4⟩,h5⟩;obtain⟨k1,k2,k3⟩:=h3 i e he;have hi:i<es.size:=(Array.getElem?_eq_some_iff.1 he).1;exact⟨k1,k2,one (by omega) k3⟩
theorem aae.ok.lt {B:Nat} {b:aae} {u:GV} (h:b.ok B G F w u):∀ g,u.o g->B<=g/\g<w.heap.size:=by
 intro g hg;cases b with
 |st T l=>
  obtain⟨g',cs,rfl,h1,_,h2,_⟩:=h;cases hg;exact⟨h1,h2.lt⟩
 |row T sz n e=>
  obtain⟨v,rfl,h1⟩:=h;exact h1.lt g hg
 |rowN T sz n e nms=>
  obtain⟨v,rfl,⟨xs,h1,_⟩,_⟩:=h;rw[show (GV.one v).o g=(aa7 v=some g) from rfl,abr h1] at hg;exact h1.lt g hg
 |fam T sz n hc len e nms=>
  obtain⟨vs,h1,h2,h3⟩:=h;obtain⟨i,hi,hne,hb⟩:=(h2 g).1 hg;obtain⟨c,hc⟩:=Option.ne_none_iff_exists'.1 hne;exact (h1 i c hi hc).2.1.lt g hb
 |gho=>exact absurd hg (h g)
 |rowP T sz n p=>
  obtain⟨v,rfl,e,_,h1⟩:=h;exact h1.lt g hg
 |mp kd zv n key ag val nms=>
  obtain⟨⟨g',es,ck,rfl,hB,h1,_⟩,_⟩:=h;have:g=g':=hg;subst this;exact⟨hB,(Array.getElem?_eq_some_iff.1 h1).1⟩
end
end Go.Proofs.YtcmplpkmfbhpdaaGreat
namespace Go.Proofs.YtcmplpkmfbhpdaaGreat
open Go Go.RowKit
structure av5 (D:Prop) (B:Nat) (w w':World):Prop where
 b:Below B w w'
 d:D->w.drawn<=w'.drawn
def lk {α:Type _} : List (Nat × α)->Nat->Option α
 |[],_=>none
 |(k',x)::l,k=>match Nat.beq k' k with
  |true=>some x
  |false=>lk l k
theorem aaq {a b:Nat} (h:Nat.beq a b=true):a=b:=Nat.eq_of_beq_eq_true h
theorem aaY {a b:Nat} (h:Nat.beq a b=false):a≠b:=Nat.ne_of_beq_eq_false h
theorem agL {α:Type _} {k:Nat} {x:α} : ∀ {l:List (Nat × α)},lk l k=some x->(k,x)∈l
 |[],h=>by cases h
 |(j,y)::l,h=>by
  simp only[lk] at h;split at h
  ·rename_i e;cases h;rw[aaq e];exact List.mem_cons_self
  ·exact List.mem_cons_of_mem _ (agL h)
theorem asG {α:Type _} {k:Nat} {x:α} {l:List (Nat × α)} (h:lk l k=some x):k∈l.map (·.1):=List.mem_map.2 ⟨_,agL h,rfl⟩
theorem afP {α:Type _} {k:Nat} : ∀ {l:List (Nat × α)},lk l k=none->k ∉ l.map (·.1)
 |[],_=>by simp
 |(j,y)::l,h=>by
  simp only[lk] at h;split at h
  ·cases h
  ·rename_i e;simp only[List.map_cons,List.mem_cons,not_or];exact⟨λe2=>aaY e e2.symm,afP h⟩
theorem aew {α:Type _} {k:Nat} {l:List (Nat × α)} (h:k∈l.map (·.1)):∃ x,lk l k=some x:=by
 cases hl:lk l k with
 |some x=>exact⟨x,rfl⟩
 |none=>exact absurd h (afP hl)
theorem aaO {α:Type _} {k j:Nat} {x y:α} (h:lk [(k,x)] j=some y):k=j/\x=y:=by
 simp only[lk] at h;split at h
 ·rename_i e;cases h;exact⟨aaq e,rfl⟩
 ·cases h
structure FS where
 s:Nat->Option AV
 b:Nat->Option aae
structure Rec where
 dst:Option Nat
 rs:List Nat
 br:List Nat
 val:Option AV
 set:List (Nat × aae)
 nws:List Nat
 del:List Nat
def Rec.app (r:Rec) (x:FS):FS:=
 ⟨λt=>if r.dst=some t then r.val else x.s t,λk=>match lk r.set k with
  |some b=>some b
  |none=>if k∈r.del then none else x.b k⟩
def Rec.wb (r:Rec):List Nat:=r.set.map (·.1)++r.del
structure akF where
 f:Nat->Prop
 p:Nat->Value
 k:Nat->Prop
 d:List Deferred
structure Rep (D:Prop) (B m:Nat) (F0:akF) (w0:World) (x:FS) (G:Nat->GV) (F:Nat->Prop) (a:Act) (w:World):Prop where
 own:av5 D B w0 w
 bs:B<=w.heap.size
 f0:∀ g,F0.f g->F g
 f1:∀ g,F g->F0.f g\/B<=g
 fl:∀ g,F g->g<w.heap.size
 bk:∀ k b,x.b k=some b->b.ok B G F w (G k)
 ne:∀ k k',x.b k≠none->x.b k'≠none->k≠k'->∀ g,(G k).o g->¬ (G k').o g
 nf:∀ k g,x.b k≠none->(G k).o g->¬ F g
 sl:∀ t av,x.s t=some av->av.ok (GOk G F w) (a.tmps.getD t undef)
 sz:a.tmps.size=m
 df:a.defers=F0.d
 pin:∀ k,1000000<=k->(G k).v=F0.p k
 fr:aaR w0 w/\∀ g,F0.k g->g<w.heap.size/\w.heap[g]? =w0.heap[g]? /\(F g->F0.f g)/\∀ k,x.b k≠none->¬ (G k).o g
structure ad6 (B:Nat) (R:FS) (G:Nat->GV) (F:Nat->Prop) (a:Act) (w:World):Prop where
 bs:B<=w.heap.size
 fl:∀ g,F g->g<w.heap.size
 bk:∀ k b,R.b k=some b->b.ok B G F w (G k)
 ne:∀ k k',R.b k≠none->R.b k'≠none->k≠k'->∀ g,(G k).o g->¬ (G k').o g
 nf:∀ k g,R.b k≠none->(G k).o g->¬ F g
 sl:∀ t av,R.s t=some av->av.ok (GOk G F w) (a.tmps.getD t undef)
structure acJ (D:Prop) (B:Nat) (R:FS) (r:Rec) (G:Nat->GV) (F:Nat->Prop) (w:World) (G':Nat->GV) (F':Nat->Prop) (v:Value) (w':World):Prop where
 g:∀ k,lk r.set k=none->G' k=G k
 gv:∀ k,k ∉ r.nws->(G' k).v=(G k).v
 f:∀ b,F b->F' b
 fn:∀ b,F' b->F b\/w.heap.size<=b\/∃ k,k∈r.wb/\R.b k≠none/\(G k).o b
 fl:∀ b,F' b->b<w'.heap.size
 os:w'.os=w.os
 tape:w'.tape=w.tape
 out:w'.output=w.output
 sz:w.heap.size<=w'.heap.size
 dr:D->w.drawn<=w'.drawn
 k:aaR w w'
 h:∀ g,g<w.heap.size->(∀ k,k∈r.wb->R.b k≠none->¬ (G k).o g)->w'.heap[g]? =w.heap[g]?
 v:∀ av,r.val=some av->av.ok (GOk G' F' w') v
 s:∀ k b,lk r.set k=some b->b.ok B G' F' w' (G' k)/\∀ g,(G' k).o g->¬ F' g/\(w.heap.size<=g\/∃ k0,k0∈r.wb/\R.b k0≠none/\(G k0).o g)
 d:∀ k k' b b',lk r.set k=some b->lk r.set k'=some b'->k≠k'->∀ g,(G' k).o g->¬ (G' k').o g
def ada (P:Program) (D:Prop) (B:Nat) (o:Oper) (R:FS) (r:Rec):Prop:=
 ∀ G F a w,ad6 B R G F a w->acF P o a w λv w'=>∃ G' F',acJ D B R r G F w G' F' v w'
structure azq (R x:FS) (r:Rec):Prop where
 s:∀ t av,R.s t=some av->x.s t=some av
 b:∀ k,R.b k≠none->x.b k=R.b k
 old:∀ k b,lk r.set k=some b->k ∉ r.nws->R.b k≠none
 del:∀ k,k∈r.del->R.b k≠none
 nb:∀ k,k∈r.nws->x.b k=none
 ns:∀ k,k∈r.nws->∀ t av,x.s t=some av->k ∉ av.nm
 nn:∀ k,k∈r.nws->∀ k' b',x.b k'=some b'->k ∉ b'.nm
 np:∀ k,k∈r.nws->k<1000000
section
variable {D:Prop} {B m:Nat} {F0:akF} {w0:World} {x:FS} {G:Nat->GV} {F:Nat->Prop} {a:Act} {w:World} {R:FS} {r:Rec}
theorem Rep.view (h:Rep D B m F0 w0 x G F a w) (s:azq R x r):ad6 B R G F a w:=
 ⟨h.bs,h.fl,λk b hk=>h.bk k b (by rw[s.b k (by rw[hk];simp)];exact hk),
  λk k' h1 h2=>h.ne k k' (by rw[s.b k h1];exact h1) (by rw[s.b k' h2];exact h2),
  λk g h1=>h.nf k g (by rw[s.b k h1];exact h1),λt av ht=>h.sl t av (s.s t av ht)⟩
theorem Rep.skip (h:Rep D B m F0 w0 x G F a w) (h1:r.val=none\/r.val=some (.tup [])) (h2:r.set=[]) (h3:r.del=[]):Rep D B m F0 w0 (r.app x) G F (a.put r.dst undef) w:=by
 have eb:(r.app x).b=x.b:=by
  funext k;simp[Rec.app,h2,h3,lk]
 refine⟨h.own,h.bs,h.f0,h.f1,h.fl,by rw[eb];exact h.bk,by rw[eb];exact h.ne,by rw[eb];exact h.nf,λt av ht=> ?_,?_,?_,h.pin,by rw[eb];exact h.fr⟩
 ·simp only[Rec.app] at ht;split at ht
  ·rename_i hd;rcases h1 with h1 | h1
   ·rw[h1] at ht;cases ht
   ·rw[h1] at ht;cases ht;have e:(a.put r.dst undef).tmps.getD t undef=undef:=by
     rw[hd];simp only[Act.put,Array.getD_eq_getD_getElem?,Array.getElem?_setIfInBounds];split
     ·split<;>rfl
     ·rename_i hne;exact absurd trivial hne
    rw[e];exact⟨[],rfl,rfl,λi p u h _=>by simp at h⟩
  ·rename_i hd;have:=h.sl t av ht;cases hd2:r.dst with
   |none=>exact this
   |some d=>
    have hne:d≠t:=λe=>hd (by rw[hd2,e]);simp only[Act.put,Array.getD_eq_getD_getElem?,Array.getElem?_setIfInBounds,if_neg hne];simpa[Array.getD_eq_getD_getElem?] using this
 ·cases hd2:r.dst<;>simp[Act.put,h.sz]
 ·cases hd2:r.dst<;>simp[Act.put,h.df]
theorem Rep.step (h:Rep D B m F0 w0 x G F a w) (s:azq R x r) (hm:∀ d,r.dst=some d->d<m) {G':Nat->GV} {F':Nat->Prop} {v:Value} {w':World} (p:acJ D B R r G F w G' F' v w'):Rep D B m F0 w0 (r.app x) G' F' (a.put r.dst v) w':=by
 have hstay:ae9 G F w G' F' w' (λk=>k∈r.nws):=⟨p.gv,p.f,p.k,λb hb=>p.h b (h.fl b hb) λk hk hR e=>h.nf k b (by rw[s.b k hR];exact hR) e hb⟩
 have hb':∀ k b,(r.app x).b k=some b->(lk r.set k=some b)\/(x.b k=some b/\lk r.set k=none/\k ∉ r.wb):=by
  intro k b hk;simp only[Rec.app] at hk;split at hk
  ·rename_i b' hb';cases hk;exact .inl hb'
  ·rename_i hn;split at hk
   ·cases hk
   ·rename_i hd;refine .inr ⟨hk,hn,λhw=> ?_⟩;rcases List.mem_append.1 hw with hw | hw
    ·exact afP hn hw
    ·exact hd hw
 have heap:∀ k,x.b k≠none->k ∉ r.wb->∀ g,(G k).o g->w'.heap[g]? =w.heap[g]? :=by
  intro k hx h1 g hg;obtain⟨b,hb⟩:=Option.ne_none_iff_exists'.1 hx;refine p.h g ((h.bk k b hb).lt g hg).2 λk0 hk0 hR e=> ?_;have hne:k0≠k:=by
   rintro rfl;exact h1 hk0
  exact h.ne k0 k (by rw[s.b k0 hR];exact hR) hx hne g e hg
 refine⟨⟨⟨p.os.trans h.own.b.os,p.tape.trans h.own.b.tape,p.out.trans h.own.b.output,Nat.le_trans h.own.b.size p.sz,λk hk=> ?_⟩,λhD=>Nat.le_trans (h.own.d hD) (p.dr hD)⟩,Nat.le_trans h.bs p.sz,λg hg=>p.f g (h.f0 g hg),λg hg=> ?_,p.fl,?_,?_,?_,?_,?_,?_,λk hk=>(p.gv k λe=>Nat.not_lt.2 hk (s.np k e)).trans (h.pin k hk),h.fr.1.trans p.k,λg hg=> ?_⟩
 ·refine (p.h k (Nat.lt_of_lt_of_le hk h.bs) λk0 hk0 hR e=> ?_).trans (h.own.b.block k hk);obtain⟨b,hb⟩:=Option.ne_none_iff_exists'.1 hR;have:=((h.bk k0 b (by rw[s.b k0 hR];exact hb)).lt k e).1;omega
 ·rcases p.fn g hg with h1 | h1 | ⟨k,_,h2,h3⟩
  ·exact h.f1 g h1
  ·exact .inr (Nat.le_trans h.bs h1)
  ·obtain⟨b,hb⟩:=Option.ne_none_iff_exists'.1 h2;exact .inr ((h.bk k b (by rw[s.b k h2];exact hb)).lt g h3).1
 ·intro k b hk;rcases hb' k b hk with h1 | ⟨h1,h2,h3⟩
  ·exact (p.s k b h1).1
  ·rw[p.g k h2];exact (h.bk k b h1).stay hstay (λk' hk' e=>s.nn k' e k b h1 hk') (heap k (by rw[h1];simp) h3)
 ·intro k k' h1 h2 hne g hg;obtain⟨b,hb⟩:=Option.ne_none_iff_exists'.1 h1;obtain⟨b',hb2⟩:=Option.ne_none_iff_exists'.1 h2;have mix:∀ k k' b b',k≠k'->lk r.set k=some b->x.b k'=some b'->lk r.set k'=none->k' ∉ r.wb->∀ g,(G' k).o g->¬ (G' k').o g:=by
   intro k k' b b' hne c1 d1 d2 d3 g hg e;rw[p.g k' d2] at e;rcases ((p.s k b c1).2 g hg).2 with q | ⟨k0,q1,q2,q3⟩
   ·have:=((h.bk k' b' d1).lt g e).2;omega
   ·exact h.ne k0 k' (by rw[s.b k0 q2];exact q2) (by rw[d1];simp) (by rintro rfl;exact d3 q1) g q3 e
  rcases hb' k b hb with c1 | ⟨c1,c2,c3⟩
  ·rcases hb' k' b' hb2 with d1 | ⟨d1,d2,d3⟩
   ·exact p.d k k' b b' c1 d1 hne g hg
   ·exact mix k k' b b' hne c1 d1 d2 d3 g hg
  ·rcases hb' k' b' hb2 with d1 | ⟨d1,d2,d3⟩
   ·exact λe=>mix k' k b' b (Ne.symm hne) d1 c1 c2 c3 g e hg
   ·rw[p.g k c2] at hg;rw[p.g k' d2];exact h.ne k k' (by rw[c1];simp) (by rw[d1];simp) hne g hg
 ·intro k g h1 hg hF;obtain⟨b,hb⟩:=Option.ne_none_iff_exists'.1 h1;rcases hb' k b hb with c1 | ⟨c1,c2,c3⟩
  ·exact ((p.s k b c1).2 g hg).1 hF
  ·rw[p.g k c2] at hg;rcases p.fn g hF with q | q | ⟨k0,q1,q2,q3⟩
   ·exact h.nf k g (by rw[c1];simp) hg q
   ·have:=((h.bk k b c1).lt g hg).2;omega
   ·exact h.ne k0 k (by rw[s.b k0 q2];exact q2) (by rw[c1];simp) (by rintro rfl;exact c3 q1) g q3 hg
 ·intro t av ht;simp only[Rec.app] at ht;split at ht
  ·rename_i hd;have:=p.v av ht;simp only[hd,Act.put,Array.getD_eq_getD_getElem?,Array.getElem?_setIfInBounds,if_pos,h.sz,hm t hd,Option.getD_some];exact this
  ·rename_i hd;have h1:=(h.sl t av ht).stay hstay (λk hk e=>s.ns k e t av ht hk);cases hd2:r.dst with
   |none=>exact h1
   |some d=>
    have hne:d≠t:=λe=>hd (by rw[hd2,e]);simp only[Act.put,Array.getD_eq_getD_getElem?,Array.getElem?_setIfInBounds,if_neg hne];simpa[Array.getD_eq_getD_getElem?] using h1
 ·cases hd2:r.dst<;>simp[Act.put,h.sz]
 ·cases hd2:r.dst<;>simp[Act.put,h.df]
 ·obtain⟨f1,f2,f4,f3⟩:=h.fr.2 g hg;refine⟨Nat.lt_of_lt_of_le f1 p.sz,(p.h g f1 λk0 _ hR e=>f3 k0 (by rw[s.b k0 hR];exact hR) e).trans f2,λhF=> ?_,λk hk e=> ?_⟩
  ·rcases p.fn g hF with q | q | ⟨k0,q1,q2,q3⟩
   ·exact f4 q
   ·omega
   ·exact absurd q3 (f3 k0 (by rw[s.b k0 q2];exact q2))
  obtain⟨b,hb⟩:=Option.ne_none_iff_exists'.1 hk;rcases hb' k b hb with c1 | ⟨c1,c2,c3⟩
  ·rcases ((p.s k b c1).2 g e).2 with q | ⟨k0,q1,q2,q3⟩
   ·omega
   ·exact f3 k0 (by rw[s.b k0 q2];exact q2) q3
  ·rw[p.g k c2] at e;exact f3 k (by rw[c1];simp) e
end
end Go.Proofs.YtcmplpkmfbhpdaaGreat
namespace Go.Proofs.YtcmplpkmfbhpdaaGreat
open Go Go.RowKit
theorem amv {ops:List Oper} (hp:∀ i o,ops[i]? =some o->∀ e∈o.after,Region.binds .any e=true->e.on<i) {listed:Array Bool} (hs:listed.size=ops.length) (h:Region.ready .any ops.toArray listed=[]):∀ i,i<ops.length->listed.getD i false=true:=by
 intro i;induction i using Nat.strongRecOn with
 |ind i ih=>
  intro hi;cases hl:listed.getD i false with
  |true=>rfl
  |false=>
   exfalso;have ho:ops[i]? =some ops[i]:=List.getElem?_eq_getElem hi;have hm:i∈Region.ready .any ops.toArray listed:=by
    unfold Region.ready;rw[List.mem_filter];refine⟨by simpa using hi,?_⟩;have ho2:ops.toArray[i]? =some ops[i]:=by simp[ho]
    simp only[ho2,Option.map_some,Option.getD_some,Bool.and_eq_true,Bool.not_eq_true'];refine⟨?_,?_⟩
    ·have e:listed[i]? =some (listed[i]'(by omega)):=Array.getElem?_eq_getElem (by omega);simp only[Array.getD_eq_getD_getElem?,e,Option.getD_some] at hl ⊢;exact hl
    ·rw[Array.all_eq_true'];intro e he;cases hb:Region.binds .any e with
     |false=>rfl
     |true=>
      have h1:=hp i _ ho e he hb;simp[ih e.on h1 (by omega)]
   rw[h] at hm;cases hm
theorem amu {P:Program} {id:Nat} {ops:List Oper} {a0:Act} {w0:World} {Q:Exit->Act->World->Prop} (hx:P.follows .mixedOrders=true) (hp:∀ i o,ops[i]? =some o->∀ e∈o.after,Region.binds .any e=true->e.on<i)
  (J:(Nat->Bool)->Act->World->Prop) (hJ:∀ f g a w,(∀ j,j<ops.length->f j=g j)->J f a w->J g a w) (h0:J (λ_=>false) a0 w0.drew)
  (hstep:∀ i o f a w,ops[i]? =some o->J f a w->f i=false->(∀ e∈o.after,Region.binds .any e=true->f e.on=true)->
   (∀ j p,ops[j]? =some p->f j=true->∀ e∈p.after,Region.binds .any e=true->f e.on=true)->
   (Region.wanted o (yielded ops.toArray a.tmps)=true/\acF P o a w (λv w'=>J (upd f i) (a.put o.dst v) w'))\/(Region.wanted o (yielded ops.toArray a.tmps)=false/\J (upd f i) (a.put o.dst undef) w))
  (hend:∀ a w,J (λ_=>true) a w->Q .normal a w):(Code.region id ops.toArray true).wp P Q a0 w0:=by
 refine wp_region_any hx ?_;have key:∀ (fuel:Nat) (listed:Array Bool) (a:Act) (w:World),listed.toList.count false<=fuel->listed.size=ops.length->J (λj=>listed.getD j false) a w->
   (∀ j p,ops[j]? =some p->listed.getD j false=true->∀ e∈p.after,Region.binds .any e=true->listed.getD e.on false=true)->wpAny P .any ops.toArray Q fuel listed a w:=by
  have fin:∀ (listed:Array Bool) a w,listed.size=ops.length->J (λj=>listed.getD j false) a w->Region.ready .any ops.toArray listed=[]->Q .normal a w:=λlisted a w hs hj hr=>
   hend a w (hJ _ _ a w (λj hl=>amv hp hs hr j hl) hj)
  intro fuel;induction fuel with
  |zero=>
   intro listed a w hc hs hj hcl;have hr:Region.ready .any ops.toArray listed=[]:=by
    apply List.eq_nil_iff_forall_not_mem.2;intro i hi;have h1:=(acP hi).1;have:=count_set h1;omega
   exact⟨hr,fin _ _ _ hs hj hr⟩
  |succ fuel ih=>
   intro listed a w hc hs hj hcl;refine⟨fin _ _ _ hs hj,λi hi=> ?_⟩;obtain⟨h1,o,ho,hdep⟩:=acP hi;have hil:i<listed.size:=by rw[hs];exact (List.getElem?_eq_some_iff.1 ho).1
   have hf:listed.getD i false=false:=by
    simp only[Array.getD_eq_getD_getElem?,Array.getElem?_eq_getElem hil,Option.getD_some] at h1 ⊢;exact h1
   have hget:∀ j,(listed.setIfInBounds i true).getD j false=upd (λj=>listed.getD j false) i j:=λj=>by
    unfold upd;simp only[Array.getD_eq_getD_getElem?,Array.getElem?_setIfInBounds];by_cases hij:i=j
    ·subst hij;simp[hil]
    ·rw[if_neg hij,if_neg (Ne.symm hij)]
   have hcl':∀ j p,ops[j]? =some p->(listed.setIfInBounds i true).getD j false=true->∀ e∈p.after,Region.binds .any e=true->(listed.setIfInBounds i true).getD e.on false=true:=by
    intro j p hj2 hl e he hb;rw[hget];unfold upd;split
    ·rfl
    ·by_cases hij:j=i
     ·subst hij;rw[ho] at hj2;cases hj2;exact hdep e he hb
     ·have hl2:listed.getD j false=true:=by rw[hget] at hl;unfold upd at hl;rwa [if_neg hij] at hl
      exact hcl j p hj2 hl2 e he hb
   have next:∀ a' w',J (upd (λj=>listed.getD j false) i) a' w'->wpAny P .any ops.toArray Q fuel (listed.setIfInBounds i true) a' w':=λa' w' hj'=>
    ih _ _ _ (by have:=count_set h1;omega) (by simp[hs]) (hJ _ _ a' w' (λj _=>(hget j).symm) hj') hcl'
   unfold wpOp;have ho2:ops.toArray[i]? =some o:=by simpa using ho
   simp only[ho2];rcases hstep i o _ a w ho hj hf hdep hcl with ⟨hw,hk⟩ | ⟨hw,hk⟩
   ·rw[if_pos hw];exact .inl (adI hk λv w' h=>next _ _ h)
   ·rw[hw];exact next _ _ hk
 refine key _ _ _ _ (by simp) (by simp) (hJ _ _ _ _ (λj hj=> ?_) h0) (λj p hj hl=> ?_)
 ·simp[Array.getD_eq_getD_getElem?,hj]
 ·have hjl:j<ops.length:=(List.getElem?_eq_some_iff.1 hj).1;simp[Array.getD_eq_getD_getElem?,hjl] at hl
theorem amr {P:Program} {id:Nat} {ops:List Oper} {a0:Act} {w0:World} {Q:Exit->Act->World->Prop}
  (J:Nat->Act->World->Prop) (h0:J 0 a0 w0)
  (hstep:∀ i o a w,ops[i]? =some o->J i a w->
   (Region.wanted o (yielded ops.toArray a.tmps)=true/\acF P o a w (λv w'=>J (i+1) (a.put o.dst v) w'))\/(Region.wanted o (yielded ops.toArray a.tmps)=false/\J (i+1) (a.put o.dst undef) w))
  (hend:∀ a w,J ops.length a w->Q .normal a w):(Code.region id ops.toArray false).wp P Q a0 w0:=by
 refine wp_region ?_;have key:∀ (n i:Nat) (a:Act) (w:World),i+n=ops.length->J i a w->wpOps P ops.toArray Q (List.range' i n) a w:=by
  intro n;induction n with
  |zero=>
   intro i a w hi hj;simp only[List.range'_zero,wpOps];have:i=ops.length:=by omega
   subst this;exact hend a w hj
  |succ n ih=>
   intro i a w hi hj;rw[List.range'_succ,wpOps_cons];have ho:ops[i]? =some ops[i]:=List.getElem?_eq_getElem (by omega);have ho2:ops.toArray[i]? =some ops[i]:=by simp[ho]
   unfold wpOp;simp only[ho2];rcases hstep i _ a w ho hj with ⟨hw,hk⟩ | ⟨hw,hk⟩
   ·rw[if_pos hw];exact .inl (adI hk λv w' h=>ih _ _ _ (by omega) h)
   ·rw[hw];exact ih _ _ _ (by omega) hk
 have:=key ops.length 0 a0 w0 (by omega) h0;rw[List.range_eq_range'];simpa using this
def stF:List Rec->Nat->(Nat->Bool)->FS->FS
 |[],_,_,x=>x
 |r::rs,i,f,x=>stF rs (i+1) f (if f i then r.app x else x)
theorem az7 {r:Rec} {x y:FS} {t:Nat} (h:x.s t=y.s t):(r.app x).s t=(r.app y).s t:=by
 simp only[Rec.app,h]
theorem atI {r:Rec} {x y:FS} {k:Nat} (h:x.b k=y.b k):(r.app x).b k=(r.app y).b k:=by
 simp only[Rec.app,h]
theorem arT {r:Rec} {x:FS} {t:Nat} (h:r.dst≠some t):(r.app x).s t=x.s t:=by
 simp only[Rec.app,if_neg h]
theorem adk {r:Rec} {k:Nat} : k∈r.wb↔(∃ b,lk r.set k=some b)\/k∈r.del:=by
 simp only[Rec.wb,List.mem_append];constructor
 ·rintro (h | h)
  ·exact .inl (aew h)
  ·exact .inr h
 ·rintro (⟨b,h⟩ | h)
  ·exact .inl (asG h)
  ·exact .inr h
theorem aeq {r:Rec} {x:FS} {k:Nat} (h:k ∉ r.wb):(r.app x).b k=x.b k:=by
 rw[adk] at h;have h1:lk r.set k=none:=by
  cases hl:lk r.set k with
  |none=>rfl
  |some b=>exact absurd (.inl ⟨b,hl⟩) h
 have h2:k ∉ r.del:=λe=>h (.inr e);simp[Rec.app,h1,h2]
theorem arU {r q:Rec} (x:FS) (hd:∀ d,r.dst=some d->q.dst≠some d) (hw:∀ k,k∈r.wb->k ∉ q.wb):q.app (r.app x)=r.app (q.app x):=by
 have h1:(q.app (r.app x)).s=(r.app (q.app x)).s:=by
  funext t;simp only[Rec.app];by_cases e1:q.dst=some t
  ·by_cases e2:r.dst=some t
   ·exact absurd e1 (hd t e2)
   ·simp[e1,e2]
  ·simp[e1]
 have h2:(q.app (r.app x)).b=(r.app (q.app x)).b:=by
  funext k;by_cases e1:k∈q.wb
  ·have e2:k ∉ r.wb:=λe=>hw k e e1;rw[aeq e2];exact atI (aeq e2)
  ·rw[aeq e1];exact (atI (aeq e1)).symm
 cases hq:q.app (r.app x);cases hr:r.app (q.app x);rw[hq,hr] at h1 h2;simp only at h1 h2;rw[h1,h2]
section
variable {f g:Nat->Bool}
theorem awd {t:Nat} : ∀ (rs:List Rec) (i:Nat) {x y:FS},x.s t=y.s t->(∀ j r,rs[j]? =some r->r.dst=some t->f (i+j)=g (i+j))->(stF rs i f x).s t=(stF rs i g y).s t
 |[],_,_,_,h,_=>h
 |r::rs,i,x,y,h,hf=>by
  simp only[stF];refine awd rs (i+1) ?_ (λj q hj hd=>by rw[Nat.add_assoc,Nat.add_comm 1 j];exact hf (j+1) q (by simpa using hj) hd);by_cases hd:r.dst=some t
  ·have:=hf 0 r rfl hd;simp only[Nat.add_zero] at this;rw[this];split
   ·exact az7 h
   ·exact h
  ·have e:∀ (b:Bool) (z:FS),(if b then r.app z else z).s t=z.s t:=λb z=>by
    cases b
    ·rfl
    ·exact arT hd
   rw[e,e];exact h
theorem awe {k:Nat} : ∀ (rs:List Rec) (i:Nat) {x y:FS},x.b k=y.b k->(∀ j r,rs[j]? =some r->k∈r.wb->f (i+j)=g (i+j))->(stF rs i f x).b k=(stF rs i g y).b k
 |[],_,_,_,h,_=>h
 |r::rs,i,x,y,h,hf=>by
  simp only[stF];refine awe rs (i+1) ?_ (λj q hj hd=>by rw[Nat.add_assoc,Nat.add_comm 1 j];exact hf (j+1) q (by simpa using hj) hd);by_cases hd:k∈r.wb
  ·have:=hf 0 r rfl hd;simp only[Nat.add_zero] at this;rw[this];split
   ·exact atI h
   ·exact h
  ·have e:∀ (b:Bool) (z:FS),(if b then r.app z else z).b k=z.b k:=λb z=>by
    cases b
    ·rfl
    ·exact aeq hd
   rw[e,e];exact h
theorem ahu:∀ (rs:List Rec) (i:Nat) (x:FS),(∀ j,j<rs.length->f (i+j)=g (i+j))->stF rs i f x=stF rs i g x
 |[],_,_,_=>rfl
 |r::rs,i,x,hf=>by
  simp only[stF];have:=hf 0 (by simp);simp only[Nat.add_zero] at this;rw[this];exact ahu rs (i+1) _ (λj hj=>by rw[Nat.add_assoc,Nat.add_comm 1 j];exact hf (j+1) (by simp;omega))
theorem agk {t:Nat} {av:AV} : ∀ (rs:List Rec) (i:Nat) {x:FS},(stF rs i f x).s t=some av->x.s t=some av\/∃ j r,rs[j]? =some r/\f (i+j)=true/\r.dst=some t/\r.val=some av
 |[],_,_,h=> .inl h
 |r::rs,i,x,h=>by
  simp only[stF] at h;rcases agk rs (i+1) h with h1 | ⟨j,q,h1,h2,h3,h4⟩
  ·cases hfi:f i with
   |false=>rw[hfi] at h1;exact .inl h1
   |true=>
    rw[hfi] at h1;by_cases hd:r.dst=some t
    ·refine .inr ⟨0,r,rfl,by simpa using hfi,hd,?_⟩;simpa[Rec.app,hd] using h1
    ·exact .inl (by simpa[Rec.app,hd] using h1)
  ·exact .inr ⟨j+1,q,by simpa using h1,by rw[<- h2];congr 1;omega,h3,h4⟩
theorem adY {k:Nat} {b:aae} : ∀ (rs:List Rec) (i:Nat) {x:FS},(stF rs i f x).b k=some b->x.b k=some b\/∃ j r,rs[j]? =some r/\f (i+j)=true/\lk r.set k=some b
 |[],_,_,h=> .inl h
 |r::rs,i,x,h=>by
  simp only[stF] at h;rcases adY rs (i+1) h with h1 | ⟨j,q,h1,h2,h3⟩
  ·cases hfi:f i with
   |false=>rw[hfi] at h1;exact .inl h1
   |true=>
    rw[hfi] at h1;simp only[if_true,Rec.app] at h1;split at h1
    ·rename_i b' hb';cases h1;exact .inr ⟨0,r,rfl,by simpa using hfi,hb'⟩
    ·split at h1
     ·cases h1
     ·exact .inl h1
  ·exact .inr ⟨j+1,q,by simpa using h1,by rw[<- h2];congr 1;omega,h3⟩
end
theorem anT {r:Rec} : ∀ (rs:List Rec) (i:Nat) {f:Nat->Bool} (x:FS),(∀ j q,rs[j]? =some q->f (i+j)=true->(∀ d,r.dst=some d->q.dst≠some d)/\∀ k,k∈r.wb->k ∉ q.wb)->stF rs i f (r.app x)=r.app (stF rs i f x)
 |[],_,_,_,_=>rfl
 |q::rs,i,f,x,h=>by
  simp only[stF];have h0:=h 0 q rfl;simp only[Nat.add_zero] at h0;have hr:=λy=>anT (r:=r) rs (i+1) (f:=f) y (λj q hj hfj=>h (j+1) q (by simpa using hj) (by rw[<- hfj];congr 1;omega));cases hfi:f i with
  |false=>exact hr x
  |true=>
   simp only[if_true];rw[arU x (h0 hfi).1 (h0 hfi).2];exact hr _
theorem anS {r:Rec} : ∀ (rs:List Rec) (i n:Nat) {f:Nat->Bool} (x:FS),rs[n]? =some r->f (i+n)=false->(∀ j q,n<j->rs[j]? =some q->f (i+j)=true->(∀ d,r.dst=some d->q.dst≠some d)/\∀ k,k∈r.wb->k ∉ q.wb)->
  stF rs i (upd f (i+n)) x=r.app (stF rs i f x)
 |[],_,_,_,_,h,_,_=>by simp at h
 |q::rs,i,0,f,x,h,hf,hc=>by
  simp only[List.getElem?_cons_zero,Option.some.injEq] at h;subst h;simp only[Nat.add_zero] at hf ⊢;simp only[stF,hf,upd,if_true,Bool.false_eq_true,if_false];rw[ahu (g:=f) rs (i+1) _ (λj hj=>by unfold upd;rw[if_neg (by omega)])];exact anT rs (i+1) x (λj q hj hfj=>hc (j+1) q (by omega) (by simpa using hj) (by rw[<- hfj];congr 1;omega))
 |q::rs,i,n+1,f,x,h,hf,hc=>by
  simp only[stF];have e:upd f (i+(n+1)) i=f i:=by unfold upd;rw[if_neg (by omega)]
  rw[e];have:=anS (r:=r) rs (i+1) n (f:=f) (if f i then q.app x else x) (by simpa using h) (by rw[<- hf];congr 1;omega) (λj p hj hp hfj=>hc (j+1) p (by omega) (by simpa using hp) (by rw[<- hfj];congr 1;omega));rw[<- this];congr 2
  omega
end Go.Proofs.YtcmplpkmfbhpdaaGreat
namespace Go.Proofs.YtcmplpkmfbhpdaaGreat
open Go Go.RowKit
def abJ (x:FS) (r:Rec):FS:=⟨λt=>if t∈r.rs then x.s t else none,λk=>if k∈r.br then x.b k else none⟩
def ajr (recs:List Rec) (i:Nat) (x0:FS):FS:=stF recs 0 (λj=>decide (j<i)) x0
def tf (b:Bool):aaa:=if b then .t else .f
def atJ (P:Program) (D:Prop) (B:Nat) (ops:List Oper) (o:Oper) (R:FS) (r:Rec):Prop:=
 r.dst=o.dst/\match o.guard with
  |none=>ada P D B o R r
  |some (j,want)=>(∃ p d b,ops[j]? =some p/\p.dst=some d/\R.s d=some (.s false [tf b])/\((b=want/\ada P D B o R r)\/(b≠want/\r.val=some (.tup [])/\r.set=[]/\r.del=[])))\/∃ p d,ops[j]? =some p/\p.dst=some d/\R.s d=some (.tup [])/\r.val=some (.tup [])/\r.set=[]/\r.del=[]
def Rec.mn (r:Rec):List Nat:=(match r.val with | some av=>av.nm | none=>[])++r.set.flatMap λp=>p.2.nm
theorem axE {r:Rec} {av:AV} (h:r.val=some av) {k:Nat} (hk:k∈av.nm):k∈r.mn:=by
 unfold Rec.mn;rw[h];exact List.mem_append_left _ hk
theorem axF {r:Rec} {j:Nat} {b:aae} (h:lk r.set j=some b) {k:Nat} (hk:k∈b.nm):k∈r.mn:=
 List.mem_append_right _ (List.mem_flatMap.2 ⟨_,agL h,hk⟩)
structure am5 (r q:Rec):Prop where
 a:∀ d,r.dst=some d->d ∉ q.rs/\q.dst≠some d
 b:∀ d,q.dst=some d->d ∉ r.rs
 c:∀ k,k∈r.wb->k ∉ q.wb/\k ∉ q.br
 d:∀ k,k∈q.wb->k ∉ r.br
 e:∀ k,k∈r.nws->k ∉ q.mn
structure ahr (P:Program) (D:Prop) (B m:Nat) (ops:List Oper) (recs:List Rec) (x0:FS) (dep:Nat->Nat->Prop):Prop where
 len:recs.length=ops.length
 ok:∀ (i:Nat) (o:Oper) (r:Rec),ops[i]? =some o->recs[i]? =some r->atJ P D B ops o (abJ (ajr recs i x0) r) r
 dst:∀ (i:Nat) (r:Rec) (d:Nat),recs[i]? =some r->r.dst=some d->d<m
 old:∀ (i:Nat) (r:Rec) (k:Nat) (b:aae),recs[i]? =some r->lk r.set k=some b->k ∉ r.nws->k∈r.br/\(ajr recs i x0).b k≠none
 del:∀ (i:Nat) (r:Rec) (k:Nat),recs[i]? =some r->k∈r.del->k∈r.br/\(ajr recs i x0).b k≠none
 nwb:∀ (i:Nat) (r:Rec) (k:Nat),recs[i]? =some r->k∈r.nws->k∈r.wb
 nx:∀ (i:Nat) (r:Rec) (k:Nat),recs[i]? =some r->k∈r.nws->x0.b k=none/\(∀ t av,x0.s t=some av->k ∉ av.nm)/\(∀ k' b',x0.b k'=some b'->k ∉ b'.nm)/\k<1000000/\∀ (j:Nat) (r':Rec),recs[j]? =some r'->j<i->k ∉ r'.mn/\k ∉ r'.wb
 ind:∀ (i j:Nat) (r q:Rec),i<j->recs[i]? =some r->recs[j]? =some q->dep j i\/am5 r q
section
variable {P:Program} {D:Prop} {B m:Nat} {ops:List Oper} {recs:List Rec} {x0:FS} {dep:Nat->Nat->Prop} {f:Nat->Bool}
theorem ahr.sees (H:ahr P D B m ops recs x0 dep) {i:Nat} {r:Rec} (hr:recs[i]? =some r) (hf:f i=false) (h1:∀ j,dep i j->f j=true) (h2:∀ j l,f j=true->dep j l->f l=true) :
  azq (abJ (ajr recs i x0) r) (stF recs 0 f x0) r:=by
 have after:∀ j,f j=true->dep j i->False:=λj hj hd=>by
  have:=h2 j i hj hd;rw[hf] at this;cases this
 have agS:∀ t,t∈r.rs->(stF recs 0 f x0).s t=(ajr recs i x0).s t:=λt ht=>by
  refine awd recs 0 rfl λj q hj hd=> ?_;simp only[Nat.zero_add];rcases Nat.lt_trichotomy j i with hlt | rfl | hgt
  ·rcases H.ind j i q r hlt hj hr with h | h
   ·rw[h1 j h];simp[hlt]
   ·exact absurd ht (h.a t hd).1
  ·rw[hf];simp
  ·rcases H.ind i j r q hgt hr hj with h | h
   ·cases hfj:f j with
    |true=>exact (after j hfj h).elim
    |false=>simp;omega
   ·exact absurd ht (h.b t hd)
 have agB:∀ k,k∈r.br->(stF recs 0 f x0).b k=(ajr recs i x0).b k:=λk hk=>by
  refine awe recs 0 rfl λj q hj hd=> ?_;simp only[Nat.zero_add];rcases Nat.lt_trichotomy j i with hlt | rfl | hgt
  ·rcases H.ind j i q r hlt hj hr with h | h
   ·rw[h1 j h];simp[hlt]
   ·exact absurd hk (h.c k hd).2
  ·rw[hf];simp
  ·rcases H.ind i j r q hgt hr hj with h | h
   ·cases hfj:f j with
    |true=>exact (after j hfj h).elim
    |false=>simp;omega
   ·exact absurd hk (h.d k hd)
 have touch:∀ k,k∈r.nws->∀ j q,recs[j]? =some q->f j=true->k ∉ q.mn/\k ∉ q.wb:=λk hn j q hj hfj=>by
  rcases Nat.lt_trichotomy j i with hlt | rfl | hgt
  ·exact (H.nx i r k hr hn).2.2.2.2 j q hj hlt
  ·rw[hf] at hfj;cases hfj
  ·rcases H.ind i j r q hgt hr hj with h | h
   ·exact (after j hfj h).elim
   ·exact⟨h.e k hn,(h.c k (H.nwb i r k hr hn)).1⟩
 refine⟨λt av ht=> ?_,λk hk=> ?_,λk b hs hn=> ?_,λk hd=> ?_,λk hn=> ?_,λk hn t av ht hk=> ?_,λk hn k' b' hb hk=> ?_,λk hn=>(H.nx i r k hr hn).2.2.2.1⟩
 ·simp only[abJ] at ht;split at ht
  ·rename_i hm;rw[agS t hm];exact ht
  ·cases ht
 ·simp only[abJ] at hk ⊢;split at hk
  ·rename_i hm;rw[if_pos hm];exact agB k hm
  ·exact absurd rfl hk
 ·obtain⟨h3,h4⟩:=H.old i r k b hr hs hn;simp only[abJ,if_pos h3];exact h4
 ·obtain⟨h3,h4⟩:=H.del i r k hr hd;simp only[abJ,if_pos h3];exact h4
 ·cases hx:(stF recs 0 f x0).b k with
  |none=>rfl
  |some b'=>
   rcases adY recs 0 hx with h | ⟨j,q,hj,hfj,hsj⟩
   ·rw[(H.nx i r k hr hn).1] at h;cases h
   ·simp only[Nat.zero_add] at hfj;exact absurd (adk.2 (.inl ⟨b',hsj⟩)) (touch k hn j q hj hfj).2
 ·rcases agk recs 0 ht with h | ⟨j,q,hj,hfj,hd,hv⟩
  ·exact (H.nx i r k hr hn).2.1 t av h hk
  ·simp only[Nat.zero_add] at hfj;exact (touch k hn j q hj hfj).1 (axE hv hk)
 ·rcases adY recs 0 hb with h | ⟨j,q,hj,hfj,hsj⟩
  ·exact (H.nx i r k hr hn).2.2.1 k' b' h hk
  ·simp only[Nat.zero_add] at hfj;exact (touch k hn j q hj hfj).1 (axF hsj hk)
theorem alm {P:Program} {o:Oper} {a:Act} {w:World} {K K':Value->World->Prop} (h:acF P o a w K) (k:∀ v w',K v w'->K' v w'):acF P o a w K':=
 λQ=>Oper.wp_mono (λ_ _ ⟨v,e,hv⟩=>⟨v,e,k v _ hv⟩) (h Q)
theorem ahr.step (H:ahr P D B m ops recs x0 dep) {F0:akF} {w0:World} {i:Nat} {o:Oper} {a:Act} {w:World} {G:Nat->GV} {F:Nat->Prop} (ho:ops[i]? =some o) (hrep:Rep D B m F0 w0 (stF recs 0 f x0) G F a w)
  (hf:f i=false) (h1:∀ j,dep i j->f j=true) (h2:∀ j l,f j=true->dep j l->f l=true) :
  (Region.wanted o (yielded ops.toArray a.tmps)=true/\acF P o a w (λv w'=>∃ G' F',Rep D B m F0 w0 (stF recs 0 (upd f i) x0) G' F' (a.put o.dst v) w')) \/
  (Region.wanted o (yielded ops.toArray a.tmps)=false/\∃ G' F',Rep D B m F0 w0 (stF recs 0 (upd f i) x0) G' F' (a.put o.dst undef) w):=by
 have hir:i<recs.length:=by rw[H.len];exact (List.getElem?_eq_some_iff.1 ho).1
 have hr:recs[i]? =some recs[i]:=List.getElem?_eq_getElem hir;generalize recs[i]=r at hr;have hs:=H.sees hr hf h1 h2;have eu:stF recs 0 (upd f i) x0=r.app (stF recs 0 f x0):=by
  have:=anS (r:=r) recs 0 i (f:=f) x0 hr (by rw[Nat.zero_add];exact hf) (λj q hlt hj hfj=>by
   rw[Nat.zero_add] at hfj;rcases H.ind i j r q hlt hr hj with h | h
   ·have:=h2 j i hfj h;rw[hf] at this;cases this
   ·exact⟨λd hd=>(h.a d hd).2,λk hk=>(h.c k hk).1⟩)
  rw[Nat.zero_add] at this;exact this
 obtain⟨ed,hok⟩:=H.ok i o r ho hr;have hv:=hrep.view hs;have run:ada P D B o (abJ (ajr recs i x0) r) r->acF P o a w (λv w'=>∃ G' F',Rep D B m F0 w0 (stF recs 0 (upd f i) x0) G' F' (a.put o.dst v) w'):=λh=>
  alm (h G F a w hv) λv w' ⟨G',F',p⟩=>⟨G',F',by rw[eu,<- ed];exact hrep.step hs (λd hd=>H.dst i r d hr hd) p⟩
 cases hg:o.guard with
 |none=>
  rw[hg] at hok;exact .inl ⟨by simp[Region.wanted,hg],run hok⟩
 |some jw=>
  obtain⟨j,want⟩:=jw;rw[hg] at hok;rcases hok with ⟨p,d,b,hp,hd,hR,hc⟩ | ⟨p,d,hp,hd,hR,h3,h4,h5⟩
  rotate_left
  ·obtain⟨vs,e1,e2,_⟩:=hv.sl d _ hR;obtain rfl:vs=[]:=List.length_eq_zero_iff.1 e2.symm;have ey:yielded ops.toArray a.tmps j=none:=by
    cases e:a.tmps[d]? with
    |none=>simp[yielded,hp,hd,e]
    |some u=>
     rw[Array.getD_eq_getD_getElem?,e,Option.getD_some] at e1;subst e1;simp[yielded,hp,hd,e]
   refine .inr ⟨by simp[Region.wanted,hg,ey],G,F,?_⟩;rw[eu,<- ed];exact hrep.skip (.inr h3) h4 h5
  have hval:a.tmps.getD d undef= .bool b:=by
   obtain⟨c,e1,e2⟩:=hv.sl d _ hR;simp only[List.cons.injEq,and_true] at e1;subst e1;revert e2
   generalize a.tmps.getD d undef=u;intro e2;cases b
   ·have e3:COk F w .f u:=e2;cases e3;rfl
   ·have e3:COk F w .t u:=e2;cases e3;rfl
  have hlt:d<a.tmps.size:=by
   rcases Nat.lt_or_ge d a.tmps.size with h | h
   ·exact h
   ·rw[Array.getD_eq_getD_getElem?,Array.getElem?_eq_none h] at hval;cases hval
  have e:a.tmps[d]? =some (.bool b):=by
   rw[Array.getElem?_eq_getElem hlt];rw[Array.getD_eq_getD_getElem?,Array.getElem?_eq_getElem hlt,Option.getD_some] at hval;rw[hval]
  have ey:yielded ops.toArray a.tmps j=some b:=by simp[yielded,hp,hd,e]
  rcases hc with ⟨rfl,h⟩ | ⟨hne,h3,h4,h5⟩
  ·exact .inl ⟨by simp[Region.wanted,hg,ey],run h⟩
  ·refine .inr ⟨by simp[Region.wanted,hg,ey,hne],G,F,?_⟩;rw[eu,<- ed];exact hrep.skip (.inr h3) h4 h5
theorem ahr.seq (H:ahr P D B m ops recs x0 (λj i=>i<j)) {id:Nat} {F0:akF} {w0:World} {a:Act} {w:World} {G:Nat->GV} {F:Nat->Prop} (hrep:Rep D B m F0 w0 x0 G F a w) {Q:Exit->Act->World->Prop}
  (hQ:∀ G F a w,Rep D B m F0 w0 (stF recs 0 (λ_=>true) x0) G F a w->Q .normal a w):(Code.region id ops.toArray false).wp P Q a w:=by
 refine amr (λi a w=>∃ G F,Rep D B m F0 w0 (ajr recs i x0) G F a w) ⟨G,F,?_⟩ (λi o a w ho ⟨G,F,h⟩=> ?_) (λa w ⟨G,F,h⟩=>hQ G F a w ?_)
 ·have:ajr recs 0 x0=x0:=by
   have:∀ (rs:List Rec) (i:Nat),stF rs i (λj=>decide (j<0)) x0=x0:=λrs=>by
    induction rs with
    |nil=>intro i;rfl
    |cons r rs ih=>intro i;simp only[stF];exact ih _
   exact this recs 0
  rw[this];exact hrep
 ·have e:upd (λj=>decide (j<i)) i=λj=>decide (j<i+1):=by
   funext j;unfold upd;split
   ·rename_i h;subst h;simp
   ·rename_i h2;by_cases h3:j<i
    ·simp[h3,Nat.lt_succ_of_lt h3]
    ·simp[h3];omega
  have:=H.step (f:=λj=>decide (j<i)) ho h (by simp) (λj hj=>by simpa using hj) (λj l hj hl=>by
   simp at hj ⊢;omega)
  rw[e] at this;exact this
 ·have:ajr recs ops.length x0=stF recs 0 (λ_=>true) x0:=ahu recs 0 x0 (λj hj=>by rw[H.len] at hj;simpa using hj);rw[<- this];exact h
theorem ahr.draw {C:List (List Nat)} (H:ahr P D B m ops recs x0 (λj i=>i∈C.getD j [])) (hx:P.follows .mixedOrders=true) (hp:∀ i o,ops[i]? =some o->∀ e∈o.after,Region.binds .any e=true->e.on<i)
  (hC:∀ i j,j∈C.getD i []->∃ o,ops[i]? =some o/\∃ e∈o.after,Region.binds .any e=true/\(j=e.on\/j∈C.getD e.on []))
  {id:Nat} {F0:akF} {w0:World} {a:Act} {w:World} {G:Nat->GV} {F:Nat->Prop} (hrep:Rep D B m F0 w0 x0 G F a w) {Q:Exit->Act->World->Prop}
  (hQ:∀ G F a w,Rep D B m F0 w0 (stF recs 0 (λ_=>true) x0) G F a w->Q .normal a w):(Code.region id ops.toArray true).wp P Q a w:=by
 have deep:∀ (f:Nat->Bool),(∀ j p,ops[j]? =some p->f j=true->∀ e∈p.after,Region.binds .any e=true->f e.on=true)->
   ∀ (i:Nat),(∀ o,ops[i]? =some o->∀ e∈o.after,Region.binds .any e=true->f e.on=true)->∀ j,j∈C.getD i []->f j=true:=by
  intro f hcl i;induction i using Nat.strongRecOn with
  |ind i ih=>
   intro hi j hj;obtain⟨o,ho,e,he,hb,h⟩:=hC i j hj;have hfe:=hi o ho e he hb;rcases h with rfl | h
   ·exact hfe
   ·exact ih e.on (hp i o ho e he hb) (λp hp2 e' he' hb'=>hcl e.on p hp2 hfe e' he' hb') j h
 have hdrew:∀ x,Rep D B m F0 w0 x G F a w->Rep D B m F0 w0 x G F a w.drew:=λx h=>by
  have st:ae9 G F w G F w.drew (λ_=>False):=⟨λ_ _=>rfl,λ_ h=>h,λ_ _ e=>e,λ_ _=>rfl⟩
  exact⟨⟨h.own.b.drew,λhD=>Nat.le_succ_of_le (h.own.d hD)⟩,h.bs,h.f0,h.f1,h.fl,λk b hk=>(h.bk k b hk).stay st (λ_ _ hh=>hh) (λ_ _=>rfl),h.ne,h.nf,λt av ht=>(h.sl t av ht).stay st (λ_ _ hh=>hh),h.sz,h.df,h.pin,h.fr⟩
 refine amu hx hp (λf a w=>∃ G F,Rep D B m F0 w0 (stF recs 0 f x0) G F a w) (λf g a w e ⟨G,F,h⟩=>⟨G,F,?_⟩) ⟨G,F,?_⟩ (λi o f a w ho ⟨G,F,h⟩ hf hdep hcl=> ?_) (λa w ⟨G,F,h⟩=>hQ G F a w h)
 ·rw[<- ahu (f:=f) (g:=g) recs 0 x0 (λj hj=>by rw[H.len] at hj;simpa using e j hj)];exact h
 ·have:∀ (rs:List Rec) (i:Nat),stF rs i (λ_=>false) x0=x0:=λrs=>by
   induction rs with
   |nil=>intro i;rfl
   |cons r rs ih=>intro i;simp only[stF];exact ih _
  rw[this];exact hdrew _ hrep
 ·exact H.step ho h hf (deep f hcl i (λp hp2 e he hb=>by rw[ho] at hp2;cases hp2;exact hdep e he hb)) (λj l hj hl=>deep f hcl j (λp hp2 e he hb=>hcl j p hp2 hj e he hb) l hl)
end
end Go.Proofs.YtcmplpkmfbhpdaaGreat
namespace Go.Proofs.YtcmplpkmfbhpdaaGreat
open Go Go.RowKit
theorem abC {P:Program} {o:Oper} {a:Act} {w w':World} {v:Value} {K:Value->World->Prop} (h:(execOp a.eval o).run P w= .ok (.value v) w') (k:K v w'):acF P o a w K:=by
 intro Q;unfold Oper.wp;rw[h,Oper.upon_value];exact⟨v,rfl,k⟩
theorem aht {P:Program} {o:Oper} {a:Act} {w w':World} {K:Value->World->Prop} (h:(execOp a.eval o).run P w= .ok .skip w') (k:K undef w'):acF P o a w K:=by
 intro Q;unfold Oper.wp;rw[h,Oper.upon_skip];exact⟨undef,rfl,k⟩
theorem at5 {P:Program} {o:Oper} {a:Act} {w w':World} {f:FuncId} {xs:Array Value} {K:Value->World->Prop} (h:(execOp a.eval o).run P w= .ok (.enter f xs) w') (k:Calls P f xs w' λe w''=>∃ v,e= .returned v/\K v w''):acF P o a w K:=by
 intro Q;unfold Oper.wp;rw[h,Oper.upon_enter];refine k.mono ?_;rintro e w'' ⟨v,rfl,hk⟩;exact⟨v,rfl,hk⟩
def afd:Value->aaa
 | .bool true=> .t
 | .bool false=> .f
 |v=> .v v
def azf:Value->Option AV
 | .agg cs=>if cs.toList.all (·.oneCell') then some (.s true (cs.toList.map afd)) else none
 | .tuple _=>none
 |v=>some (.s false [afd v])
def ab3 (R:FS):Operand->Option AV
 | .tmp t=>R.s t
 | .const v=>azf v
 | .func f=>some (.s false [.clo f []])
 | .global _=>none
section
variable {D:Prop} {B:Nat} {R:FS} {G:Nat->GV} {F:Nat->Prop} {a:Act} {w:World}
theorem GOk.of {c:aaa} {v:Value} (h:COk F w c v):GOk G F w c v:=by
 cases h with
 |v x h=>exact COk.v _ h
 |t=>exact COk.t
 |f=>exact COk.f
 |fh x h=>exact COk.fh _ h
 |q h hs=>exact COk.q h hs
 |z h hs=>exact COk.z h hs
 |row0=>exact COk.row0
 |row vals h1 hn hl hc ho=>exact COk.row vals h1 hn hl hc ho
 |el vals h1 hk hl hc ho=>exact COk.el vals h1 hk hl hc ho
 |m h=>exact COk.m h
theorem GOk.of0 {c:aaa} {v:Value} (h:abw G F w c v):GOk G F w c v:=by
 cases c with
 |clo f caps=>exact h.elim
 |_=>simpa only[GOk] using h
theorem GV.st_v {u:GV} {g:Nat} (h:u=GV.one (.pointer (some ⟨g,0,none⟩))):u.v= .pointer (some ⟨g,0,none⟩):=by rw[h];rfl
theorem afr {v:Value} (h:v.oneCell'=true):GOk G F w (afd v) v:=by
 unfold afd;split
 ·exact GOk.of .t
 ·exact GOk.of .f
 ·exact GOk.of (.v v h)
theorem auZ {v:Value} {av:AV} (h:azf v=some av):av.ok (GOk G F w) v:=by
 unfold azf at h;split at h
 ·rename_i cs;split at h
  ·rename_i hall;cases h;refine⟨cs.toList,by simp,by simp,λi c u h1 h2=> ?_⟩;rw[List.getElem?_map,h2] at h1;cases h1;exact afr (List.all_eq_true.1 hall u (List.mem_of_getElem? h2))
  ·cases h
 ·cases h
 ·rename_i h1 h2;cases h;refine⟨_,rfl,afr ?_⟩;cases v<;>first | rfl | exact absurd rfl (h1 _) | exact absurd rfl (h2 _)
theorem opnd_ok {x:Operand} {av:AV} (V:ad6 B R G F a w) (h:ab3 R x=some av):av.ok (GOk G F w) (a.eval x):=by
 cases x with
 |tmp t=>exact V.sl t av h
 |const v=>exact auZ h
 |func f=>
  cases h;exact⟨_,rfl,[],rfl,rfl,λi c v h1 _=>by simp at h1⟩
 |global g=>cases h
theorem SOk.cells {ok:aaa->Value->Prop} {ag:Bool} {l:List aaa} {v:Value} (hone:∀ c v,ok c v->v.oneCell'=true) (h:SOk ok ag l v):abu ok l v.cells.toList:=by
 cases ag with
 |true=>
  obtain⟨cs,rfl,h⟩:=h;simpa[Value.cells] using h
 |false=>
  obtain⟨c,rfl,h⟩:=h;have h1:=hone _ _ h;have e:v.cells= #[v]:=by cases v<;>first | rfl | cases h1
  rw[e];refine⟨rfl,λi c' u h2 h3=> ?_⟩;match i,h2,h3 with
  |0,h2,h3=>cases h2;cases h3;exact h
theorem abu.one {l:List aaa} {vs:List Value} (h:abu (GOk G F w) l vs):∀ v∈vs,v.oneCell'=true:=by
 intro v hv;obtain⟨i,hi⟩:=List.getElem?_of_mem hv;have hl:i<l.length:=by rw[h.1];exact (List.getElem?_eq_some_iff.1 hi).1
 exact (h.2 i _ v (List.getElem?_eq_getElem hl) hi).one
theorem abu.drop {ok:aaa->Value->Prop} {l:List aaa} {vs:List Value} (h:abu ok l vs) (n:Nat):abu ok (l.drop n) (vs.drop n):=
 ⟨by simp[h.1],λi c v h1 h2=>by rw[List.getElem?_drop] at h1 h2;exact h.2 _ c v h1 h2⟩
theorem abu.take {ok:aaa->Value->Prop} {l:List aaa} {vs:List Value} (h:abu ok l vs) (n:Nat):abu ok (l.take n) (vs.take n):=
 ⟨by simp[h.1],λi c v h1 h2=>by
  rw[List.getElem?_take] at h1 h2;split at h1
  ·rename_i hi;rw[if_pos hi] at h2;exact h.2 _ c v h1 h2
  ·cases h1⟩
theorem abu.append {ok:aaa->Value->Prop} {l l':List aaa} {vs vs':List Value} (h:abu ok l vs) (h':abu ok l' vs'):abu ok (l++l') (vs++vs'):=
 ⟨by simp[h.1,h'.1],λi c v h1 h2=>by
  rcases Nat.lt_or_ge i l.length with hi | hi
  ·rw[List.getElem?_append_left hi] at h1;rw[List.getElem?_append_left (by rw[<- h.1];exact hi)] at h2;exact h.2 i c v h1 h2
  ·rw[List.getElem?_append_right hi] at h1;rw[List.getElem?_append_right (by rw[<- h.1];exact hi),<- h.1] at h2;exact h'.2 _ c v h1 h2⟩
end
structure Eff where
 val:Option AV:=none
 set:List (Nat × aae):=[]
 nws:List Nat:=[]
 del:List Nat:=[]
 ps:List Prop:=[]
def Eff.rc (e:Eff) (dst:Option Nat) (rs br:List Nat):Rec:=⟨dst,rs,br,e.val,e.set,e.nws,e.del⟩
def aca:List Prop->Prop
 |[]=>True
 |p::l=>p/\aca l
theorem ac8 {l l':List Prop} (h:aca (l++l')):aca l/\aca l':=by
 induction l with
 |nil=>exact⟨trivial,h⟩
 |cons q l ih=>exact⟨⟨h.1,(ih h.2).1⟩,(ih h.2).2⟩
section
variable {D:Prop} {B:Nat} {R:FS} {r:Rec} {G:Nat->GV} {F:Nat->Prop} {a:Act} {w:World}
theorem acJ.pure (V:ad6 B R G F a w) {v:Value} (hs:r.set=[]) (hv:∀ av,r.val=some av->av.ok (GOk G F w) v):acJ D B R r G F w G F v w:=
 ⟨λ_ _=>rfl,λ_ _=>rfl,λ_ h=>h,λ_ h=> .inl h,V.fl,rfl,rfl,rfl,Nat.le_refl _,λ_=>Nat.le_refl _,aaR.refl _,λ_ _ _=>rfl,hv,λk b h=>(by rw[hs] at h;cases h),λk k' b b' h=>(by rw[hs] at h;cases h)⟩
end
def asJ:TypeDesc->Bool
 | .struct _ | .array _ _=>true
 |_=>false
def tyI (P:Program) (t:TypeId):Option (Bool × Nat):=
 match P.underlying t with
 |some d=>match P.info? t with
  |some i=>some (asJ d,i.size)
  |none=>none
 |none=>none
section
variable {P:Program} {w:World}
theorem aeP {t:TypeId} {ag:Bool} {n:Nat} (h:tyI P t=some (ag,n)):(isAgg t).run P w= .ok ag w/\(sizeOf t).run P w= .ok n w:=by
 unfold tyI at h;split at h
 ·rename_i d hd;split at h
  ·rename_i i hi;cases h;refine⟨?_,by simp[sizeOf,typeInfo,hi]⟩;cases d<;>simp[isAgg,run_underlying hd,asJ]
  ·cases h
 ·cases h
theorem aiF {t:TypeId} {ag:Bool} {n g off:Nat} {cs:List Value} (h:tyI P t=some (ag,n)) (hn:cs.length=n) (hc:∀ j u,cs[j]? =some u->w.cell? ⟨g,off+j,none⟩=some u) (h1:ag=false->n=1) :
  (Instr.loadAt t (.pointer (some ⟨g,off,none⟩))).run P w= .ok (if ag then .agg cs.toArray else cs.getD 0 undef) w:=by
 obtain⟨e1,e2⟩:=aeP (w:=w) h;subst hn;cases ag with
 |true=>
  have:=run_loadCells_list (P:=P) w ⟨g,off,none⟩ cs (λj u hj=>by rw[Addr.add_lit];exact hc j u hj);simp[Instr.loadAt,Instr.sureAddr,loadVar,e1,e2,this]
 |false=>
  match cs,h1 rfl with
  |[c],_=>
   have:=hc 0 c rfl;simp only[Nat.add_zero] at this;simp[Instr.loadAt,Instr.sureAddr,loadVar,e1,this]
end
def adX (R:FS) (c:aaa) (n:Nat):Option (List aaa × List Prop):=
 match c with
 | .own k off=>match R.b k with
  |some (.st _ l)=>some ((l.drop off).take n,[])
  |_=>none
 | .oel k sz i off=>match R.b k with
  |some (.row _ sz' m e)=>if sz=sz' then some (((e i).drop off).take n,[i<m]) else none
  |some (.rowN _ sz' m e _)=>if sz=sz' then some (((e i).drop off).take n,[i<m]) else none
  |_=>none
 | .el _ _ e i off=>some (((e i).drop off).take n,[])
 |_=>none
section
variable {D:Prop} {B:Nat} {R:FS} {G:Nat->GV} {F:Nat->Prop} {a:Act} {w:World}
theorem ahd (V:ad6 B R G F a w) {c:aaa} {n:Nat} {l:List aaa} {ps:List Prop} {v:Value} (h:adX R c n=some (l,ps)) (hp:aca ps) (hv:GOk G F w c v) :
  ∃ g off cs,v= .pointer (some ⟨g,off,none⟩)/\(∀ j u,cs[j]? =some u->w.cell? ⟨g,off+j,none⟩=some u)/\abu (GOk G F w) l cs:=by
 cases c with
 |own k off=>
  simp only[adX] at h;split at h
  ·rename_i T l0 hb;cases h;obtain⟨g,e1,rfl⟩:=hv;obtain⟨g',cs,e2,h1,hT,h2,h3⟩:=V.bk k _ hb;rw[GV.st_v e2] at e1;cases e1;refine⟨g,off,(cs.drop off).take n,rfl,λj u hj=> ?_,(h3.drop off).take n⟩;rw[List.getElem?_take] at hj;split at hj
   ·rw[List.getElem?_drop] at hj;rw[h2.cell];exact hj
   ·cases hj
  ·cases h
 |oel k sz i off=>
  have gen:∀ (T:TypeId) (m:Nat) (e:Nat->List aaa) (v0:Value) (xs:List Value),(G k).v=v0->w.ownsRow B T sz v0 m xs->(∀ i,i<m->(e i).length=sz)->(∀ (i j:Nat) (c:aaa) (v:Value),i<m->(e i)[j]? =some c->xs[i*sz+j]? =some v->GOk G F w c v)->i<m->
    ∃ g off' cs,v= .pointer (some ⟨g,off',none⟩)/\(∀ j u,cs[j]? =some u->w.cell? ⟨g,off'+j,none⟩=some u)/\abu (GOk G F w) (((e i).drop off).take n) cs:=by
   intro T m e v0 xs e0 h1 h2 h3 hi;obtain⟨g,n',c',e1,rfl⟩:=hv;rw[e0] at e1;subst e1;have hcell:=λj u hj=>h1.cells (g:=g) rfl j u hj;have hlen:=h1.1;have hin:i*sz+sz<=xs.length:=by
    rw[hlen];have:=Nat.mul_le_mul_right sz (show i+1<=m by omega);rw[Nat.add_mul] at this;omega
   refine⟨g,i*sz+off,((xs.drop (i*sz)).take sz |>.drop off).take n,rfl,λj u hj=> ?_,?_⟩
   ·rw[List.getElem?_take] at hj;split at hj
    ·rw[List.getElem?_drop,List.getElem?_take] at hj;split at hj
     ·rw[List.getElem?_drop] at hj;have:=hcell _ _ hj;rw[Addr.add_lit] at this;rw[<- this];congr 2
      omega
     ·cases hj
    ·cases hj
   ·refine abu.take (abu.drop ⟨?_,λj c u h4 h5=> ?_⟩ off) n
    ·rw[h2 i hi];simp;omega
    ·rw[List.getElem?_take] at h5;split at h5
     ·rw[List.getElem?_drop] at h5;exact h3 i j c u hi h4 h5
     ·cases h5
  simp only[adX] at h;split at h
  ·rename_i T sz' m e hb;split at h
   ·rename_i hsz;subst hsz;cases h;obtain⟨v0,e0,xs,h1,hT,h0,h2,h3⟩:=V.bk k _ hb;exact gen T m e v0 xs (by rw[e0];rfl) h1 h2 (λi j c v hi hc hv=>GOk.of (h3 i j c v hi hc hv)) hp.1
   ·cases h
  ·rename_i T sz' m e nms hb;split at h
   ·rename_i hsz;subst hsz;cases h;obtain⟨v0,e0,⟨xs,h1,hT,h0,h2,h3⟩,_⟩:=V.bk k _ hb;exact gen T m e v0 xs (by rw[e0];rfl) h1 h2 (λi j c v hi hc hv=>GOk.of0 (h3 i j c v hi hc hv)) hp.1
   ·cases h
  ·cases h
 |el sz m e i off=>
  cases h;have hv':COk F w (.el sz m e i off) v:=hv;cases hv' with
  |el vals hF hk hl hc ho=>
   rename_i g o;refine⟨g,_,(((List.range sz).map (vals i)).drop off).take n,rfl,λj u hj=> ?_,abu.take (abu.drop ⟨?_,λj c u h4 h5=> ?_⟩ off) n⟩
   ·rw[List.getElem?_take] at hj;split at hj
    ·rw[List.getElem?_drop,List.getElem?_map] at hj;rcases Nat.lt_or_ge (off+j) sz with hlt | hge
     ·rw[List.getElem?_range hlt] at hj;cases hj;rw[Nat.add_assoc];exact hc i (off+j) hk hlt
     ·rw[List.getElem?_eq_none (by simpa using hge)] at hj;cases hj
    ·cases hj
   ·rw[hl i hk];simp
   ·rw[List.getElem?_map] at h5;rcases Nat.lt_or_ge j sz with hlt | hge
    ·rw[List.getElem?_range hlt] at h5;cases h5;exact GOk.of (ho i j c hk h4)
    ·rw[List.getElem?_eq_none (by simpa using hge)] at h5;cases h5
 |_=>cases h
end
end Go.Proofs.YtcmplpkmfbhpdaaGreat
namespace Go.Proofs.YtcmplpkmfbhpdaaGreat
open Go Go.RowKit
def aaa.cl:aaa->Bool
 | .own .. | .hd _ | .oel .. | .clo .. | .j | .pt .. =>false
 |_=>true
def upG (G:Nat->GV) (t:Nat) (u:GV):Nat->GV:=λk=>if k=t then u else G k
def awJ (l:List aaa):List Nat:=l.flatMap aaa.nm
section
variable {P:Program} {D:Prop} {B:Nat} {R:FS} {r:Rec} {G:Nat->GV} {F:Nat->Prop} {a:Act} {w:World}
theorem COk.of {c:aaa} {v:Value} (h:GOk G F w c v) (hc:c.cl=true):COk F w c v:=by
 cases c with
 |own | hd | oel | clo | j | pt=>cases hc
 |_=>simpa only[GOk,abw] using h
theorem abu.cl {l:List aaa} {vs:List Value} (h:abu (GOk G F w) l vs) (hc:l.all aaa.cl=true):abu (COk F w) l vs:=
 h.mono λc hm _v hv=>COk.of hv (List.all_eq_true.1 hc c hm)
theorem ac6 {T:TypeId} {g:Nat} {cs:Array Value} (h:w.heap[g]? =some (.cells cs T (0,0))) (hT:T≠213) (cs':Array Value):aaR w (w.setRow g cs'):=by
 intro b c e;have hne:b≠g:=by
  rintro rfl;rw[h] at e;injection e with e
  injection e with _ e2
  exact hT e2
 rw[setRow_other w g b cs' hne];exact e
theorem acJ.mkSt (V:ad6 B R G F a w) {T:TypeId} {l:List aaa} {cs:List Value} {t:Nat} (hT:T≠213) (hcs:abu (GOk G F w) l cs) (ht:t ∉ awJ l)
  (h1:r.set=[(t,.st T l)]) (h2:r.nws=[t]) (h4:r.val=some (.s false [.own t 0])) :
  acJ D B R r G F w (upG G t (GV.one (.pointer (some ⟨w.heap.size,0,none⟩)))) F (.pointer (some ⟨w.heap.size,0,none⟩)) (w.alloc (.cells cs.toArray T)):=by
 have hst:ae9 G F w (upG G t (GV.one (.pointer (some ⟨w.heap.size,0,none⟩)))) F (w.alloc (.cells cs.toArray T)) (λk=>k=t):=
  ⟨λk hk=>by simp[upG,hk],λ_ h=>h,aaC (aab _ _ none),λb hb=>(aab w (.cells cs.toArray T) none).block b (V.fl b hb) (by simp)⟩
 have hG:upG G t (GV.one (.pointer (some ⟨w.heap.size,0,none⟩))) t=GV.one (.pointer (some ⟨w.heap.size,0,none⟩)):=by simp[upG]
 refine⟨λk hk=> ?_,λk hk=> ?_,λ_ h=>h,λ_ h=> .inl h,λb hb=> ?_,rfl,rfl,rfl,by simp,λ_=>Nat.le_refl _,hst.k,λg hg _=>(aab w _ none).block g hg (by simp),λav hav=> ?_,λk b hkb=> ?_,λk k' b b' hk hk' hne=> ?_⟩
 ·have:k≠t:=by rintro rfl;rw[h1] at hk;simp[lk,Nat.beq_refl] at hk
  simp[upG,this]
 ·have:k≠t:=by rintro rfl;rw[h2] at hk;simp at hk
  simp[upG,this]
 ·have:=V.fl b hb;simp;omega
 ·rw[h4] at hav;cases hav;exact⟨_,rfl,w.heap.size,by rw[hG];rfl,rfl⟩
 ·rw[h1] at hkb;obtain⟨rfl,rfl⟩:=aaO hkb;rw[hG];refine⟨⟨_,cs,rfl,V.bs,hT,aak.new _ _ _,hcs.stay hst λk hk e=>ht (by rw[<- e];exact hk)⟩,λg hg=> ?_⟩;cases hg;exact⟨λhF=>Nat.lt_irrefl _ (V.fl _ hF),.inl (Nat.le_refl _)⟩
 ·rw[h1] at hk hk';exact absurd ((aaO hk).1.symm.trans (aaO hk').1) hne
theorem acJ.set1 (V:ad6 B R G F a w) {k:Nat} {b0 b1:aae} {v:Value} {w':World} (hb:R.b k=some b0) (h1:r.set=[(k,b1)]) (h4:r.val=none) (hg:∀ g,¬ (G k).o g->w'.heap[g]? =w.heap[g]?) (hs:w'.heap.size=w.heap.size) (ho:w'.os=w.os/\w'.tape=w.tape/\w'.output=w.output) (hd:D->w.drawn<=w'.drawn) (hk:aaR w w')
  (hok:ae9 G F w G F w' (λ_=>False)->b1.ok B G F w' (G k)):acJ D B R r G F w G F v w':=by
 have hst:ae9 G F w G F w' (λ_=>False):=⟨λ_ _=>rfl,λ_ h=>h,hk,λb hbF=>hg b λe=>V.nf k b (by rw[hb];simp) e hbF⟩
 have hw:k∈r.wb:=adk.2 (.inl ⟨b1,by rw[h1];simp[lk,Nat.beq_refl]⟩);refine⟨λ_ _=>rfl,λ_ _=>rfl,λ_ h=>h,λ_ h=> .inl h,λb hb=>by rw[hs];exact V.fl b hb,ho.1,ho.2.1,ho.2.2,by rw[hs];exact Nat.le_refl _,hd,hk,λg _ hne=>hg g (hne k hw (by rw[hb];simp)),λav hav=>(by rw[h4] at hav;cases hav),λk' b' hkb=> ?_,λk' k2 b' b2 hk1 hk2 hne=> ?_⟩
 ·rw[h1] at hkb;obtain⟨rfl,rfl⟩:=aaO hkb;exact⟨hok hst,λg hg=>⟨V.nf k g (by rw[hb];simp) hg,.inr ⟨k,hw,by rw[hb];simp,hg⟩⟩⟩
 ·rw[h1] at hk1 hk2;exact absurd ((aaO hk1).1.symm.trans (aaO hk2).1) hne
theorem acJ.setSt (V:ad6 B R G F a w) {T:TypeId} {k:Nat} {l ly:List aaa} {vy:List Value} {off:Nat} {v:Value} (hb:R.b k=some (.st T l)) (hy:abu (GOk G F w) ly vy) (_hfit:off+ly.length<=l.length)
  (h1:r.set=[(k,.st T (l.take off++ly++l.drop (off+ly.length)))]) (h4:r.val=none) :
  ∃ g,(G k).v= .pointer (some ⟨g,0,none⟩)/\∃ cs:List Value,aak T w g cs/\cs.length=l.length/\acJ D B R r G F w G F v (w.setRow g (cs.take off++vy++cs.drop (off+vy.length)).toArray):=by
 obtain⟨g,cs,e1,hB,hT,h5,h6⟩:=V.bk k _ hb;refine⟨g,GV.st_v e1,cs,h5,h6.1.symm,?_⟩;have hk:aaR w (w.setRow g (cs.take off++vy++cs.drop (off+vy.length)).toArray):=ac6 h5 hT _;refine acJ.set1 V hb h1 h4 (λg' hg'=>setRow_other w g g' _ λe=>hg' (by rw[e1,e];rfl)) (by simp) ⟨rfl,rfl,rfl⟩ (λ_=>Nat.le_refl _) hk λhst=> ?_;refine⟨g,_,e1,hB,hT,setRow_heap w g cs.toArray _ T (0,0) h5,abu.stay ?_ hst (λ_ _ h=>h)⟩;have:=((h6.take off).append hy).append (h6.drop (off+ly.length));rw[hy.1] at this;rw[hy.1];exact this
theorem ad0 {T:TypeId} {sz n i off:Nat} {u:Value} {xs vy:List Value} (h5:w.ownsRow B T sz u n xs) (hi:0<n) (hin:i*sz+off+vy.length<=n*sz) :
  ∃ g c cur,u= .slice (some ⟨g,0,none⟩) n c/\w.heap[g]? =some (.cells cur T (0,0))/\i*sz+off+vy.length<=cur.size/\
   (w.setRow g (cur.toList.take (i*sz+off)++vy++cur.toList.drop (i*sz+off+vy.length)).toArray).ownsRow B T sz u n (xs.take (i*sz+off)++vy++xs.drop (i*sz+off+vy.length)):=by
 obtain⟨hx,⟨_,hn0⟩ | ⟨g,cap,cur,e1,hB,hh,hc,hm,hs,ht⟩⟩:=h5
 ·omega
 have hnc:n*sz<=cur.size:=by rw[hs];exact Nat.mul_le_mul_right _ hc
 have hfit2:i*sz+off+vy.length<=cur.size:=by omega
 refine⟨g,cap,cur,e1,hh,hfit2,?_,.inr ⟨g,cap,_,e1,hB,setRow_heap w g cur _ T (0,0) hh,hc,hm,?_,?_⟩⟩
 ·simp[hx];omega
 ·simp;omega
 ·rw[<- ht];apply List.ext_getElem?;intro q;have hl1:(cur.toList.take (i*sz+off)).length=i*sz+off:=by simp;omega
  have hl2:((cur.toList.take (n*sz)).take (i*sz+off)).length=i*sz+off:=by simp;omega
  simp only[List.getElem?_take,List.append_assoc];by_cases hq:q<n*sz
  ·rw[if_pos hq];rcases Nat.lt_or_ge q (i*sz+off) with c1 | c1
   ·rw[List.getElem?_append_left (by rw[hl1];exact c1),List.getElem?_append_left (by rw[hl2];exact c1)];simp[c1,hq]
   ·have A:∀ (L M:List Value),L.length=i*sz+off->(L++(vy++M))[q]? =(vy++M)[q-(i*sz+off)]? :=λL M hL=>by
     rw[List.getElem?_append_right (by rw[hL];exact c1),hL]
    rw[A _ _ hl1,A _ _ hl2];rcases Nat.lt_or_ge (q-(i*sz+off)) vy.length with c2 | c2
    ·rw[List.getElem?_append_left c2,List.getElem?_append_left c2]
    ·have A2:∀ (M:List Value),(vy++M)[q-(i*sz+off)]? =M[q-(i*sz+off)-vy.length]? :=λM=>List.getElem?_append_right c2;rw[A2,A2,List.getElem?_drop,List.getElem?_drop,List.getElem?_take,if_pos (by omega)]
  ·rw[if_neg hq];refine (List.getElem?_eq_none ?_).symm;simp;omega
theorem ae7 {ok':aaa->Value->Prop} {sz n i off:Nat} {e:Nat->List aaa} {ly:List aaa} {xs vy:List Value} (hx:xs.length=n*sz) (hi:i<n) (hyl:ly.length=vy.length) (hy:∀ (q:Nat) (c:aaa) (u:Value),ly[q]? =some c->vy[q]? =some u->ok' c u) (hfit:off+ly.length<=sz)
  (h6:∀ i,i<n->(e i).length=sz) (h7:∀ (i j:Nat) (c:aaa) (v:Value),i<n->(e i)[j]? =some c->xs[i*sz+j]? =some v->ok' c v) :
  (∀ j,j<n->(if j=i then (e i).take off++ly++(e i).drop (off+ly.length) else e j).length=sz)/\
  ∀ (j q:Nat) (c:aaa) (u:Value),j<n->(if j=i then (e i).take off++ly++(e i).drop (off+ly.length) else e j)[q]? =some c->(xs.take (i*sz+off)++vy++xs.drop (i*sz+off+vy.length))[j*sz+q]? =some u->ok' c u:=by
 have hin:i*sz+sz<=n*sz:=by
  have:=Nat.mul_le_mul_right sz (show i+1<=n by omega);rwa [Nat.add_mul,Nat.one_mul] at this
 have hel:∀ j,j<n->(if j=i then (e i).take off++ly++(e i).drop (off+ly.length) else e j).length=sz:=by
  intro j hj;split
  ·rename_i e2;subst e2;have:=h6 j hj;simp;omega
  ·exact h6 j hj
 refine⟨hel,λj q c u hj hq hu=> ?_⟩;have hjn:j*sz+sz<=n*sz:=by
  have:=Nat.mul_le_mul_right sz (show j+1<=n by omega);rwa [Nat.add_mul,Nat.one_mul] at this
 have hl3:(xs.take (i*sz+off)).length=i*sz+off:=by rw[List.length_take];omega
 have hqs:q<sz:=by rw[<- hel j hj];exact (List.getElem?_eq_some_iff.1 hq).1
 by_cases e2:j=i
 ·subst e2;have he:=h6 j hj;simp only[if_pos] at hq;have hl4:((e j).take off).length=off:=by rw[List.length_take];omega
  rcases Nat.lt_or_ge q off with c1 | c1
  ·rw[List.append_assoc,List.getElem?_append_left (by rw[hl4];exact c1),List.getElem?_take,if_pos c1] at hq;rw[List.append_assoc,List.getElem?_append_left (by rw[hl3];omega),List.getElem?_take,if_pos (by omega)] at hu;exact h7 j q c u hj hq hu
  ·rw[List.append_assoc,List.getElem?_append_right (by rw[hl4];exact c1),hl4] at hq;rw[List.append_assoc,List.getElem?_append_right (by rw[hl3];omega),hl3,show j*sz+q-(j*sz+off)=q-off by omega] at hu;rcases Nat.lt_or_ge (q-off) ly.length with c2 | c2
   ·rw[List.getElem?_append_left c2] at hq;rw[List.getElem?_append_left (by omega)] at hu;exact hy _ c u hq hu
   ·rw[List.getElem?_append_right c2,List.getElem?_drop] at hq;rw[List.getElem?_append_right (by omega),List.getElem?_drop] at hu;refine h7 j q c u hj ?_ ?_
    ·rw[<- hq];congr 1;omega
    ·rw[<- hu];congr 1;omega
 ·simp only[if_neg e2] at hq;have hu2:xs[j*sz+q]? =some u:=by
   rw[<- hu,List.append_assoc];rcases Nat.lt_or_gt_of_ne e2 with c1 | c1
   ·have:(j+1)*sz<=i*sz:=Nat.mul_le_mul_right _ (by omega);rw[Nat.add_mul,Nat.one_mul] at this;rw[List.getElem?_append_left (by rw[hl3];omega),List.getElem?_take,if_pos (by omega)]
   ·have:(i+1)*sz<=j*sz:=Nat.mul_le_mul_right _ (by omega);rw[Nat.add_mul,Nat.one_mul] at this;rw[List.getElem?_append_right (by rw[hl3];omega),hl3,List.getElem?_append_right (by omega),List.getElem?_drop];congr 1
    omega
  exact h7 j q c u hj hq hu2
theorem acJ.setRw (V:ad6 B R G F a w) {T:TypeId} {k sz n i off:Nat} {e:Nat->List aaa} {ly:List aaa} {vy:List Value} {v:Value} (hb:R.b k=some (.row T sz n e)) (hi:i<n) (hy:abu (GOk G F w) ly vy) (hcl:ly.all aaa.cl=true) (hfit:off+ly.length<=sz)
  (h1:r.set=[(k,.row T sz n λj=>if j=i then (e i).take off++ly++(e i).drop (off+ly.length) else e j)]) (h4:r.val=none) :
  ∃ g c,(G k).v= .slice (some ⟨g,0,none⟩) n c/\∃ cur:Array Value,w.heap[g]? =some (.cells cur T (0,0))/\i*sz+off+vy.length<=cur.size/\acJ D B R r G F w G F v (w.setRow g (cur.toList.take (i*sz+off)++vy++cur.toList.drop (i*sz+off+vy.length)).toArray):=by
 obtain⟨u,eu,xs,h5,hT,h0,h6,h7⟩:=V.bk k _ hb;obtain⟨g,cap,cur,e1,hh,hfit2,ho⟩:=ad0 (vy:=vy) (off:=off) (i:=i) h5 (by omega) (by
  have:=Nat.mul_le_mul_right sz (show i+1<=n by omega);rw[Nat.add_mul,Nat.one_mul] at this;rw[<- hy.1];omega)
 refine⟨g,cap,by rw[eu];exact e1,cur,hh,hfit2,?_⟩;refine acJ.set1 V hb h1 h4 (λg' hg'=>setRow_other w g g' _ λe2=>hg' (by rw[eu,e2,e1];rfl)) (by simp) ⟨rfl,rfl,rfl⟩ (λ_=>Nat.le_refl _) (ac6 hh hT _) λhst=> ?_;obtain⟨q1,q2⟩:=ae7 (ok':=COk F w) h5.1 hi hy.1 (λq c u hq hu=>(abu.cl hy hcl).2 q c u hq hu) hfit h6 h7;exact⟨u,eu,_,ho,hT,h0,q1,λj q c u hj hq hu=>(q2 j q c u hj hq hu).stay hst⟩
theorem acJ.setRwN (V:ad6 B R G F a w) {T:TypeId} {k sz n i off:Nat} {e:Nat->List aaa} {ly:List aaa} {vy:List Value} {v:Value} {nms:List Nat} {b0:aae} (hb:R.b k=some b0) (hb0:(b0= .row T sz n e/\nms=[])\/b0= .rowN T sz n e nms) (hi:i<n) (hy:abu (abw G F w) ly vy) (hfit:off+ly.length<=sz)
  (h1:r.set=[(k,.rowN T sz n (λj=>if j=i then (e i).take off++ly++(e i).drop (off+ly.length) else e j) (ly.flatMap aaa.nm0++nms))]) (h4:r.val=none) :
  ∃ g c,(G k).v= .slice (some ⟨g,0,none⟩) n c/\∃ cur:Array Value,w.heap[g]? =some (.cells cur T (0,0))/\i*sz+off+vy.length<=cur.size/\acJ D B R r G F w G F v (w.setRow g (cur.toList.take (i*sz+off)++vy++cur.toList.drop (i*sz+off+vy.length)).toArray):=by
 have up:∃ u,G k=GV.one u/\(∃ xs:List Value,w.ownsRow B T sz u n xs/\T≠213 /\0<sz/\(∀ i,i<n->(e i).length=sz)/\∀ (i j:Nat) (c:aaa) (v:Value),i<n->(e i)[j]? =some c->xs[i*sz+j]? =some v->abw G F w c v)/\∀ i c k,i<n->c∈e i->k∈c.nm0->k∈nms:=by
  have h:=V.bk k _ hb;rcases hb0 with ⟨rfl,rfl⟩ | rfl
  ·obtain⟨u,eu,xs,h5,hT,h0,h6,h7⟩:=h;have c0:∀ {c:aaa} {v:Value},COk F w c v->abw G F w c v/\c.nm0=[]:=λhc=>by
    cases hc with
    |v x h=>exact⟨COk.v _ h,rfl⟩
    |t=>exact⟨COk.t,rfl⟩
    |f=>exact⟨COk.f,rfl⟩
    |fh x h=>exact⟨COk.fh _ h,rfl⟩
    |q h hs=>exact⟨COk.q h hs,rfl⟩
    |z h hs=>exact⟨COk.z h hs,rfl⟩
    |row0=>exact⟨COk.row0,rfl⟩
    |row vals h1 hn hl hc ho=>exact⟨COk.row vals h1 hn hl hc ho,rfl⟩
    |el vals h1 hk hl hc ho=>exact⟨COk.el vals h1 hk hl hc ho,rfl⟩
    |m h=>exact⟨COk.m h,rfl⟩
   refine⟨u,eu,⟨xs,h5,hT,h0,h6,λi j c v hi hc hv=>(c0 (h7 i j c v hi hc hv)).1⟩,λi c k hi hc hk=> ?_⟩;obtain⟨j,hj⟩:=List.getElem?_of_mem hc;have hjl:j<sz:=by rw[<- h6 i hi];exact (List.getElem?_eq_some_iff.1 hj).1
   have hlt:i*sz+j<xs.length:=by
    rw[h5.1];have:=Nat.mul_le_mul_right sz (show i+1<=n by omega);rw[Nat.add_mul,Nat.one_mul] at this;omega
   rw[(c0 (h7 i j c _ hi hj (List.getElem?_eq_getElem hlt))).2] at hk;cases hk
  ·exact h
 obtain⟨u,eu,⟨xs,h5,hT,h0,h6,h7⟩,h8⟩:=up;obtain⟨g,cap,cur,e1,hh,hfit2,ho⟩:=ad0 (vy:=vy) (off:=off) (i:=i) h5 (by omega) (by
  have:=Nat.mul_le_mul_right sz (show i+1<=n by omega);rw[Nat.add_mul,Nat.one_mul] at this;rw[<- hy.1];omega)
 refine⟨g,cap,by rw[eu];exact e1,cur,hh,hfit2,?_⟩;refine acJ.set1 V hb h1 h4 (λg' hg'=>setRow_other w g g' _ λe2=>hg' (by rw[eu,e2,e1];rfl)) (by simp) ⟨rfl,rfl,rfl⟩ (λ_=>Nat.le_refl _) (ac6 hh hT _) λhst=> ?_;obtain⟨q1,q2⟩:=ae7 (ok':=abw G F w) h5.1 hi hy.1 (λq c u hq hu=>hy.2 q c u hq hu) hfit h6 h7;refine⟨u,eu,⟨_,ho,hT,h0,q1,λj q c u hj hq hu=>(q2 j q c u hj hq hu).stay hst (λ_ _ h=>h)⟩,λj c k hj hc hk=> ?_⟩;have old:∀ j,j<n->c∈e j->k∈ly.flatMap aaa.nm0++nms:=λj hj hc=>List.mem_append_right _ (h8 j c k hj hc hk);simp only at hc;split at hc
 ·rcases List.mem_append.1 hc with hc | hc
  ·rcases List.mem_append.1 hc with hc | hc
   ·exact old i hi (List.mem_of_mem_take hc)
   ·exact List.mem_append_left _ (List.mem_flatMap.2 ⟨c,hc,hk⟩)
  ·exact old i hi (List.mem_of_mem_drop hc)
 ·exact old j hj hc
theorem asb {α:Type _} {z:List α} : ∀ (n i q:Nat),i<n->q<z.length->(List.replicate n z).flatten[i*z.length+q]? =z[q]?
 |0,i,q,h,_=>by omega
 |n+1,0,q,_,hq=>by rw[List.replicate_succ,List.flatten_cons,Nat.zero_mul,Nat.zero_add,List.getElem?_append_left hq]
 |n+1,i+1,q,h,hq=>by
  rw[List.replicate_succ,List.flatten_cons,List.getElem?_append_right (by rw[Nat.add_mul,Nat.one_mul];omega)];have e:(i+1)*z.length+q-z.length=i*z.length+q:=by rw[Nat.add_mul,Nat.one_mul];omega
  rw[e];exact asb n i q (by omega) hq
theorem acJ.clrRw (V:ad6 B R G F a w) {T:TypeId} {k sz n i m:Nat} {e:Nat->List aaa} {z:List aaa} {vz:List Value} {v:Value} (hb:R.b k=some (.row T sz n e)) (h0:0<m) (hi:i+m<=n) (hy:abu (COk F w) z vz) (hz:z.length=sz)
  (h1:r.set=[(k,.row T sz n λj=>if i<=j/\j<i+m then z else e j)]) (h4:r.val=none) :
  ∃ g c,(G k).v= .slice (some ⟨g,0,none⟩) n c/\∃ cur:Array Value,w.heap[g]? =some (.cells cur T (0,0))/\i*sz+(List.replicate m vz).flatten.length<=cur.size/\acJ D B R r G F w G F v (w.setRow g (cur.toList.take (i*sz)++(List.replicate m vz).flatten++cur.toList.drop (i*sz+(List.replicate m vz).flatten.length)).toArray):=by
 obtain⟨u,eu,xs,h5,hT,hs0,h6,h7⟩:=V.bk k _ hb;have hvz:vz.length=sz:=by rw[<- hy.1];exact hz
 have hlen:(List.replicate m vz).flatten.length=m*sz:=by simp[hvz]
 have hin:i*sz+m*sz<=n*sz:=by rw[<- Nat.add_mul];exact Nat.mul_le_mul_right _ hi
 obtain⟨g,cap,cur,e1,hh,hfit2,ho⟩:=ad0 (vy:=(List.replicate m vz).flatten) (off:=0) (i:=i) h5 (by omega) (by rw[Nat.add_zero,hlen];exact hin);simp only[Nat.add_zero] at hfit2 ho;refine⟨g,cap,by rw[eu];exact e1,cur,hh,hfit2,?_⟩;refine acJ.set1 V hb h1 h4 (λg' hg'=>setRow_other w g g' _ λe2=>hg' (by rw[eu,e2,e1];rfl)) (by simp) ⟨rfl,rfl,rfl⟩ (λ_=>Nat.le_refl _) (ac6 hh hT _) λhst=> ?_;have hel:∀ j,j<n->(if i<=j/\j<i+m then z else e j).length=sz:=λj hj=>by
  split
  ·exact hz
  ·exact h6 j hj
 refine⟨u,eu,_,ho,hT,hs0,hel,λj q c x hj hq hx=> ?_⟩;have hq:(if i<=j/\j<i+m then z else e j)[q]? =some c:=hq;have hqs:q<sz:=by rw[<- hel j hj];exact (List.getElem?_eq_some_iff.1 hq).1
 have hxl:=h5.1;have hjn:j*sz+sz<=n*sz:=by
  have:=Nat.mul_le_mul_right sz (show j+1<=n by omega);rwa [Nat.add_mul,Nat.one_mul] at this
 have hl3:(xs.take (i*sz)).length=i*sz:=by rw[List.length_take];omega
 rw[List.append_assoc] at hx;by_cases hij:i<=j/\j<i+m
 ·rw[if_pos hij] at hq;have h8:i*sz<=j*sz:=Nat.mul_le_mul_right _ hij.1;have h9:(j-i)*sz+sz<=m*sz:=by
   have:=Nat.mul_le_mul_right sz (show (j-i)+1<=m by omega);rwa [Nat.add_mul,Nat.one_mul] at this
  have h10:j*sz=i*sz+(j-i)*sz:=by rw[<- Nat.add_mul];congr 1;omega
  rw[List.getElem?_append_right (by omega),hl3,List.getElem?_append_left (by rw[hlen];omega)] at hx;have h11:=asb (z:=vz) m (j-i) q (by omega) (by omega);rw[hvz] at h11;rw[show j*sz+q-i*sz=(j-i)*sz+q by omega,h11] at hx;exact (hy.2 q c x hq hx).stay hst
 ·rw[if_neg hij] at hq;refine (h7 j q c x hj hq ?_).stay hst;rw[<- hx];by_cases c1:j<i
  ·have:(j+1)*sz<=i*sz:=Nat.mul_le_mul_right _ (by omega);rw[Nat.add_mul,Nat.one_mul] at this;rw[List.getElem?_append_left (by rw[hl3];omega),List.getElem?_take,if_pos (by omega)]
  ·have:(i+m)*sz<=j*sz:=Nat.mul_le_mul_right _ (by omega);rw[Nat.add_mul] at this;rw[List.getElem?_append_right (by omega),hl3,List.getElem?_append_right (by rw[hlen];omega),List.getElem?_drop,hlen];congr 1
   omega
theorem acJ.mkRw (V:ad6 B R G F a w) {T:TypeId} {sz n t:Nat} {e:Nat->List aaa} {xs:List Value} {u:Value} {w':World} {row:Option Nat} (hT:T≠213) (h0:0<sz) (ho:w'.ownsRow B T sz u n xs)
  (hg:w.grownBy w' row) (hd:D->w.drawn<=w'.drawn) (hk:aaR w w') (hrow:∀ g,row=some g->∃ k0,R.b k0≠none/\k0∈r.del/\(G k0).o g) (hnew:∀ g,aa7 u=some g->w.heap.size<=g\/row=some g)
  (hl:∀ i,i<n->(e i).length=sz) (hc:∀ (i j:Nat) (c:aaa) (v:Value),i<n->(e i)[j]? =some c->xs[i*sz+j]? =some v->COk F w c v)
  (h1:r.set=[(t,.row T sz n e)]) (h2:r.nws=[t]) (h4:r.val=some (.s false [.hd t])):acJ D B R r G F w (upG G t (GV.one u)) F u w':=by
 have hFr:∀ g,F g->row≠some g:=λg hF e2=>by
  obtain⟨k0,q1,q2,q3⟩:=hrow g e2;exact V.nf k0 g q1 q3 hF
 have hst:ae9 G F w (upG G t (GV.one u)) F w' (λk=>k=t):=
  ⟨λk hk=>by simp[upG,hk],λ_ h=>h,hk,λb hb=>hg.block b (V.fl b hb) λe2=>hFr b hb e2.symm⟩
 have hG:upG G t (GV.one u) t=GV.one u:=by simp[upG]
 refine⟨λk hk=> ?_,λk hk=> ?_,λ_ h=>h,λ_ h=> .inl h,λb hb=>Nat.lt_of_lt_of_le (V.fl b hb) hg.size,hg.os,hg.tape,hg.output,hg.size,hd,hk,λg hgl hne=>hg.block g hgl λe2=> ?_,λav hav=> ?_,λk b hkb=> ?_,λk k' b b' hk1 hk2 hne=> ?_⟩
 ·have:k≠t:=by rintro rfl;rw[h1] at hk;simp[lk,Nat.beq_refl] at hk
  simp[upG,this]
 ·have:k≠t:=by rintro rfl;rw[h2] at hk;simp at hk
  simp[upG,this]
 ·obtain⟨k0,q1,q2,q3⟩:=hrow g e2.symm;exact hne k0 (adk.2 (.inr q2)) q1 q3
 ·rw[h4] at hav;cases hav;refine⟨_,rfl,by rw[hG];rfl,?_⟩;obtain⟨_,⟨rfl,_⟩ | ⟨g,cap,cur,rfl,_⟩⟩:=ho<;>rfl
 ·rw[h1] at hkb;obtain⟨rfl,rfl⟩:=aaO hkb;rw[hG];refine⟨⟨u,rfl,xs,ho,hT,h0,hl,λi j c v hi h5 h6=>(hc i j c v hi h5 h6).stay hst⟩,λg hgg=> ?_⟩;rcases hnew g hgg with q | q
  ·exact⟨λhF=>by have:=V.fl g hF;omega,.inl q⟩
  ·obtain⟨k0,q1,q2,q3⟩:=hrow g q;exact⟨V.nf k0 g q1 q3,.inr ⟨k0,adk.2 (.inr q2),q1,q3⟩⟩
 ·rw[h1] at hk1 hk2;exact absurd ((aaO hk1).1.symm.trans (aaO hk2).1) hne
end
end Go.Proofs.YtcmplpkmfbhpdaaGreat
