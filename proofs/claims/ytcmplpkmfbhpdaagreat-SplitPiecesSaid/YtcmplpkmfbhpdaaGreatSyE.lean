import Derived.Test.YtcmplpkmfbhpdaaGreatSyD
namespace Go.Proofs.YtcmplpkmfbhpdaaGreat
open Go Go.RowKit
def sg (σ : List (Nat × Nat)) (j:Nat):Nat:=match lk σ j with
 |some x=>x
 |none=>j
def aqc (ρ : Nat->Nat):aaa->aaa
 | .own j o=> .own (ρ j) o
 | .hd j=> .hd (ρ j)
 | .oel j sz i o=> .oel (ρ j) sz i o
 | .pt j sz a n=> .pt (ρ j) sz a n
 |c=>c
def apY (ρ : Nat->Nat):aaa->aaa
 | .clo f caps=> .clo f (caps.map (aqc ρ))
 |c=>aqc ρ c
def av1 (ρ : Nat->Nat):AV->AV
 | .s a l=> .s a (l.map (apY ρ))
 | .tup l=> .tup (l.map λp=>(p.1,p.2.map (apY ρ)))
def ayD (ρ : Nat->Nat):aae->aae
 | .st T l=> .st T (l.map (apY ρ))
 |b=>b
def okB:aae->Bool
 | .rowN .. | .fam .. | .mp .. =>false
 |_=>true
section
variable {G G':Nat->GV} {F F':Nat->Prop} {w:World} {ρ : Nat->Nat}
theorem arl {c:aaa} {v:Value} (h:abw G F w (aqc ρ c) v):abw (λj=>G (ρ j)) F w c v:=by
 cases c<;>exact h
theorem aoh {c:aaa} {v:Value} (h:GOk G F w (apY ρ c) v):GOk (λj=>G (ρ j)) F w c v:=by
 cases c with
 |clo f caps=>
  obtain⟨vs,e,h1,h2⟩:=h;refine⟨vs,e,by simpa using h1,λi c u h3 h4=>arl (h2 i _ u ?_ h4)⟩;rw[List.getElem?_map,h3];rfl
 |_=>exact h
theorem alz {l:List aaa} {vs:List Value} (h:abu (GOk G F w) (l.map (apY ρ)) vs):abu (GOk (λj=>G (ρ j)) F w) l vs:=
 ⟨by simpa using h.1,λi c u h3 h4=>aoh (h.2 i _ u (by rw[List.getElem?_map,h3];rfl) h4)⟩
theorem aly {a:Bool} {l:List aaa} {v:Value} (h:SOk (GOk G F w) a (l.map (apY ρ)) v):SOk (GOk (λj=>G (ρ j)) F w) a l v:=by
 cases a with
 |true=>
  obtain⟨cs,e,h1⟩:=h;exact⟨cs,e,alz h1⟩
 |false=>
  obtain⟨c,e,h1⟩:=h;match l,e with
  |[c'],e=>
   simp only[List.map_cons,List.map_nil,List.cons.injEq,and_true] at e;subst e;exact⟨c',rfl,aoh h1⟩
theorem ark {av:AV} {v:Value} (h:(av1 ρ av).ok (GOk G F w) v):av.ok (GOk (λj=>G (ρ j)) F w) v:=by
 cases av with
 |s a l=>exact aly h
 |tup l=>
  obtain⟨vs,e,h1,h2⟩:=h;exact⟨vs,e,by simpa using h1,λi p u h3 h4=>aly (h2 i _ u (by rw[List.getElem?_map,h3];rfl) h4)⟩
theorem arj {B:Nat} {b:aae} {u:GV} (hb:okB b=true) (h:(ayD ρ b).ok B G F w u):b.ok B (λj=>G (ρ j)) F w u:=by
 cases b with
 |st T l=>
  obtain⟨g,cs,e,h1,h2,h3,h4⟩:=h;exact⟨g,cs,e,h1,h2,h3,alz h4⟩
 |rowN | fam | mp=>cases hb
 |_=>exact h
theorem asw {c:aaa} {v:Value} (h:abw G F w c v) (hv:∀ k∈c.nm0,(G' (ρ k)).v=(G k).v):abw G' F w (aqc ρ c) v:=by
 cases c with
 |own k off=>obtain⟨g,h1,h2⟩:=h;exact⟨g,by rw[hv k (by simp[aaa.nm0])];exact h1,h2⟩
 |hd k=>exact⟨by rw[hv k (by simp[aaa.nm0])];exact h.1,h.2⟩
 |oel k sz i off=>obtain⟨g,n,c,h1,h2⟩:=h;exact⟨g,n,c,by rw[hv k (by simp[aaa.nm0])];exact h1,h2⟩
 |pt k sz a n=>
  rcases h with h | ⟨h0,g,m,c,h1,h2⟩
  ·exact .inl h
  ·exact .inr ⟨h0,g,m,c,by rw[hv k (by simp[aaa.nm0])];exact h1,h2⟩
 |_=>exact h
theorem awy {c:aaa} {v:Value} (h:GOk G F w c v) (hv:∀ k∈c.nm,(G' (ρ k)).v=(G k).v):GOk G' F w (apY ρ c) v:=by
 cases c with
 |clo f caps=>
  obtain⟨vs,e,h1,h2⟩:=h;refine⟨vs,e,by simpa using h1,λi c u h3 h4=> ?_⟩;rw[List.getElem?_map] at h3;cases hc:caps[i]? with
  |none=>rw[hc] at h3;cases h3
  |some c0=>
   rw[hc] at h3;cases h3;exact asw (h2 i c0 u hc h4) λk hk=>hv k (by simp only[aaa.nm,List.mem_flatMap];exact⟨c0,List.mem_of_getElem? hc,hk⟩)
 |own | hd | oel | pt=>simp only[GOk] at h;exact asw (G':=G') h hv
 |_=>exact h
theorem asv {l:List aaa} {vs:List Value} (h:abu (GOk G F w) l vs) (hv:∀ k∈l.flatMap aaa.nm,(G' (ρ k)).v=(G k).v):abu (GOk G' F w) (l.map (apY ρ)) vs:=
 ⟨by simpa using h.1,λi c u h3 h4=>by
  rw[List.getElem?_map] at h3;cases hc:l[i]? with
  |none=>rw[hc] at h3;cases h3
  |some c0=>
   rw[hc] at h3;cases h3;exact awy (h.2 i c0 u hc h4) λk hk=>hv k (List.mem_flatMap.2 ⟨c0,List.mem_of_getElem? hc,hk⟩)⟩
theorem awx {a:Bool} {l:List aaa} {v:Value} (h:SOk (GOk G F w) a l v) (hv:∀ k∈l.flatMap aaa.nm,(G' (ρ k)).v=(G k).v):SOk (GOk G' F w) a (l.map (apY ρ)) v:=by
 cases a with
 |true=>obtain⟨cs,e,h1⟩:=h;exact⟨cs,e,asv h1 hv⟩
 |false=>
  obtain⟨c,rfl,h1⟩:=h;exact⟨_,rfl,awy h1 λk hk=>hv k (by simpa using hk)⟩
theorem azO {av:AV} {v:Value} (h:av.ok (GOk G F w) v) (hv:∀ k∈av.nm,(G' (ρ k)).v=(G k).v):(av1 ρ av).ok (GOk G' F w) v:=by
 cases av with
 |s a l=>exact awx h hv
 |tup l=>
  obtain⟨vs,e,h1,h2⟩:=h;refine⟨vs,e,by simpa using h1,λi p u h3 h4=> ?_⟩;rw[List.getElem?_map] at h3;cases hc:l[i]? with
  |none=>rw[hc] at h3;cases h3
  |some p0=>
   rw[hc] at h3;cases h3;exact awx (h2 i p0 u hc h4) λk hk=>hv k (List.mem_flatMap.2 ⟨p0,List.mem_of_getElem? hc,hk⟩)
theorem azN {B:Nat} {b:aae} {u:GV} (hb:okB b=true) (h:b.ok B G F w u) (hv:∀ k∈b.nm,(G' (ρ k)).v=(G k).v):(ayD ρ b).ok B G' F w u:=by
 cases b with
 |st T l=>
  obtain⟨g,cs,e,h1,h2,h3,h4⟩:=h;exact⟨g,cs,e,h1,h2,h3,asv h4 hv⟩
 |rowN | fam | mp=>cases hb
 |_=>exact h
end
def conv (s:aah) (keys:List Nat) (c:aaa):aaa:=
 match c.nm.all (has keys) with
 |true=>c
 |false=>apU s c
def avW (P:Program) (s:aah) (keys:List Nat) (l:List ResultVar):Option AV:=
 match avV P s l with
 |some [(ag,l)]=>some (.s ag (l.map (conv s keys)))
 |some l=>some (.tup (l.map λp=>(p.1,p.2.map (conv s keys))))
 |none=>none
def asX (P:Program) (l:List ResultVar) (keys:List Nat) (val:AV) (kb:List (Nat × aae)) (e:Xt) (s:aah):Prop:=
 match e with
 | .n | .r=>match avW P s keys l with
  |some av=>aac av val/\apV s kb
  |none=>False
 |_=>False
section
variable {P:Program} {D:Prop} {B m:Nat} {F0:akF} {w0:World} {s:aah} {G:Nat->GV} {F F':Nat->Prop} {a:Act} {w:World}
theorem aov (h:Rep D B m F0 w0 s.fs G F a w) {keys:List Nat} (hF:∀ g,F g->F' g) (hF':∀ k g,k ∉ keys->s.fs.b k≠none->(G k).o g->F' g) {c:aaa} {v:Value} (hv:GOk G F w c v):GOk G F' w (conv s keys c) v:=by
 have hst:ae9 G F w G F' w (λ_=>False):=⟨λ_ _=>rfl,hF,aaR.refl _,λ_ _=>rfl⟩
 unfold conv
 split
 ·exact hv.stay hst (λ_ _ h=>h)
 ·rename_i hall;have jk:GOk G F' w .j v:=hv.one;cases c with
  |hd k=>
   have hk:v=(G k).v:=(hv:abw G F w (.hd k) v).1;have hkn:k ∉ keys:=λhm=>by simp[aaa.nm,aaa.nm0,abH.2 hm] at hall
   simp only[apU];split
   ·rename_i T sz n e hb;obtain⟨v0,ev,hok⟩:=h.bk k _ hb;rw[ev] at hk;subst hk;exact GOk.of (acZ hok hF (λg hg=>hF' k g hkn (by rw[show s.fs.b k=_ from hb];simp) (by rw[ev];exact hg)))
   ·exact jk
  |pt k sz a n=>
   have hkn:k ∉ keys:=λhm=>by simp[aaa.nm,aaa.nm0,abH.2 hm] at hall
   simp only[apU];split
   ·rename_i T sz' m e hb;split
    ·rename_i e2;have:=aaq e2;subst this;obtain⟨v0,ev,hok⟩:=h.bk k _ hb;have hr:COk F' w (.row sz m e) v0:=acZ hok hF (λg hg=>hF' k g hkn (by rw[show s.fs.b k=_ from hb];simp) (by rw[ev];exact hg));have h3:=ae2 (k:=k) (x:= .row sz m e) (F':=F') hF (λ_=>by rw[ev];exact hr) (show abw G F w (.pt k sz a n) v from hv);simp only[abv,Nat.beq_refl] at h3;exact GOk.of (show COk F' w (.row sz n λi=>e (i+a)) v from h3)
    ·exact jk
   ·exact jk
  |own | oel | clo | j=>exact jk
  |v | t | f | q | z | row | el | fh | m=>exact hv.stay hst (λ_ _ h=>h)
theorem ak6 (h:Rep D B m F0 w0 s.fs G F a w) {keys:List Nat} (hF:∀ g,F g->F' g) (hF':∀ k g,k ∉ keys->s.fs.b k≠none->(G k).o g->F' g) {ag:Bool} {l:List aaa} {v:Value} (hv:SOk (GOk G F w) ag l v):SOk (GOk G F' w) ag (l.map (conv s keys)) v:=by
 cases ag with
 |true=>
  obtain⟨cs,h1,h2⟩:=hv;refine⟨cs,h1,by simpa using h2.1,λi c u h3 h4=> ?_⟩;rw[List.getElem?_map] at h3;cases hc:l[i]? with
  |none=>rw[hc] at h3;cases h3
  |some c'=>
   rw[hc] at h3;cases h3;exact aov h hF hF' (h2.2 i c' u hc h4)
 |false=>
  obtain⟨c,rfl,h2⟩:=hv;exact⟨_,rfl,aov h hF hF' h2⟩
theorem aup (h:Rep D B m F0 w0 s.fs G F a w) {keys:List Nat} (hF:∀ g,F g->F' g) (hF':∀ k g,k ∉ keys->s.fs.b k≠none->(G k).o g->F' g) {fn:Func} {av:AV} (hr:avW P s keys fn.results.toList=some av):∃ v,(results fn a.tmps).run P w= .ok v w/\av.ok (GOk G F' w) v:=by
 unfold avW at hr;split at hr
 ·rename_i ag l hl;cases hr;obtain⟨vs,h1,h2,h3⟩:=afJ h hl;match vs,h2 with
  |[u],_=>
   refine⟨u,?_,ak6 h hF hF' (h3 0 _ u rfl rfl)⟩;rw[adF,Array.mapM_eq_mapM_toList];simp[h1]
 ·rename_i l hne hl;cases hr;obtain⟨vs,h1,h2,h3⟩:=afJ h hl;have hn1:¬ vs.length=1:=λe=>by
   rw[<- h2] at e;match l,e,hne with
   |[(ag,l')],_,hne=>exact hne ag l' rfl
  refine⟨.tuple vs.toArray,?_,vs,rfl,by simpa using h2,λi p u h4 h5=> ?_⟩
  ·rw[adF,Array.mapM_eq_mapM_toList];simp[h1,hn1]
  ·rw[List.getElem?_map] at h4;cases hc:l[i]? with
   |none=>rw[hc] at h4;cases h4
   |some p'=>
    rw[hc] at h4;cases h4;exact ak6 h hF hF' (h3 i p' u hc h5)
 ·cases hr
end
structure awL (P:Program) (Γ : FuncId->Option Run) (fn:Func) (c:Code) (b:Nat->Option aae) (avs:List AV) (e:Eff) where
 σ : List (Nat × Nat)
 ρ : List (Nat × Nat)
 avs':List AV
 blks:List (Nat × aae)
 inv:List (Nat × abW)
 val:AV
 kb:List (Nat × aae)
 hval:e.val=some (av1 (sg ρ) val)
 hset:∀ x b',lk e.set x=some b'->∃ j b0,lk ρ j=some x/\lk kb j=some b0/\b'=ayD (sg ρ) b0
 hkb:∀ j x,lk ρ j=some x->∃ b0,lk kb j=some b0/\okB b0=true/\(∀ k∈b0.nm,∃ y,lk ρ k=some y)/\∃ b',lk e.set x=some b'
 hvn:∀ k∈val.nm,∃ y,lk ρ k=some y
 hρ : ∀ j j' x,lk ρ j=some x->lk ρ j'=some x->j=j'
 hσ : ∀ j j' x,lk σ j=some x->lk σ j'=some x->j=j'
 hhi:∀ j x,lk σ j=some x->1000000<=j
 hnw:∀ j x,lk ρ j=some x->x∈e.nws\/lk σ j=some x
 hold:∀ j x,lk σ j=some x->(∃ j',lk ρ j'=some x)\/x∈e.del
 hle:aaj avs (avs'.map (av1 (sg σ)))
 hlen:avs'.length<=fn.ntmps
 hblk:∀ j b0,lk blks j=some b0->okB b0=true/\∃ x,lk σ j=some x/\∃ b1,b x=some b1/\aaf b1 (ayD (sg σ) b0)
 hvc:vc P Γ fn.ntmps inv c ⟨aao avs' 0,blks⟩ (asX P fn.results.toList (ρ.map (·.1)) val kb)
theorem awf {σ : List (Nat × Nat)} {j x:Nat} (h:lk σ j=some x):sg σ j=x:=by
 unfold sg;rw[h]
theorem anC {P:Program} {D:Prop} {Γ : FuncId->Option Run} {f:FuncId} {fn:Func} {c:Code} {run:Run} (hΓ : ∀ B f run,Γ f=some run->aai P D B f run) (hx:P.follows .mixedOrders=true) (hf:P.funcs[f]? =some fn) (hb:fn.body=some c) (hc:abQ P f=true)
  (H:∀ b avs t e,run b avs t=some e->aca e.ps->Nonempty (awL P Γ fn c b avs e)) (B:Nat):aai P D B f run:=by
 refine⟨hc,λb avs0 t e hr hp G F w vs V hvs0=> ?_⟩;obtain⟨O⟩:=H b avs0 t e hr hp;obtain⟨σ,ρ,avs,blks,inv,val,kb,hval,hset,hkb,hvn,hρ,hσ,hhi,hnw,hold,hle,hlen,hblk,hvc⟩:=O;obtain⟨Gi,hGi⟩:∃ Gi:Nat->GV,Gi=λj=>G (sg σ j):=⟨_,rfl⟩
 have hGs:∀ j x,lk σ j=some x->Gi j=G x:=λj x h=>by rw[hGi];show G (sg σ j)=_;rw[awf h]
 have hvs:aed (GOk Gi F w) avs vs:=by
  refine⟨by have:=hle.1;rw[List.length_map] at this;rw[this];exact hvs0.1,λi av v h1 h2=> ?_⟩;have hi:i<avs0.length:=by rw[hvs0.1];exact (List.getElem?_eq_some_iff.1 h2).1
  rw[hGi];exact ark ((hle.2 i _ (av1 (sg σ) av) (List.getElem?_eq_getElem hi) (by rw[List.getElem?_map,h1];rfl)).h _ _ _ _ (hvs0.2 i _ v (List.getElem?_eq_getElem hi) h2))
 refine calls_of_wp hf hb ?_;have hsz:vs.length=avs.length:=hvs.1.symm;have hbs:∀ j,lk blks j≠none->∃ x,lk σ j=some x/\b x≠none/\Gi j=G x:=λj hj=>by
  obtain⟨b0,h0⟩:=Option.ne_none_iff_exists'.1 hj;obtain⟨_,x,h1,b1,h2,_⟩:=hblk j b0 h0;exact⟨x,h1,by rw[h2];simp,hGs j x h1⟩
 have hrep:Rep D B fn.ntmps ⟨F,λk=>(Gi k).v,λg=>g<w.heap.size/\∀ j,lk blks j≠none->¬ (Gi j).o g,[]⟩ w (aah.mk (aao avs 0) blks).fs Gi F { tmps:=vs.toArray++Array.replicate (fn.ntmps-vs.toArray.size) undef,defers:=[] } w:=by
  refine⟨⟨Below.refl _ _,λ_=>Nat.le_refl _⟩,V.bs,λ_ h=>h,λ_ h=> .inl h,V.fl,λj b0 hj=> ?_,λj j' h1 h2 hne g hg hg'=> ?_,λj g h1 hg=> ?_,λt av ht=> ?_,(by simp;omega),rfl,λ_ _=>rfl,aaR.refl _,λg hg=>⟨hg.1,rfl,λh=>h,λj hj=>hg.2 j hj⟩⟩
  ·obtain⟨q1,x,q2,b1,q3,q4⟩:=hblk j b0 hj;rw[hGs j x q2,hGi];exact arj q1 (q4.h _ _ _ _ _ (V.bk x b1 q3))
  ·obtain⟨x,q1,q2,q3⟩:=hbs j h1;obtain⟨x',q1',q2',q3'⟩:=hbs j' h2;rw[q3] at hg;rw[q3'] at hg';exact V.ne x x' q2 q2' (λe=>hne (hσ j j' x q1 (by rw[e];exact q1'))) g hg hg'
  ·obtain⟨x,q1,q2,q3⟩:=hbs j h1;rw[q3] at hg;exact V.nf x g q2 hg
  ·obtain⟨j,e1,e2⟩:=agf (show lk (aao avs 0) t=some av from ht);rw[Nat.zero_add] at e1;subst e1;have hj:t<vs.length:=by rw[hsz];exact (List.getElem?_eq_some_iff.1 e2).1
   have:=hvs.2 t av vs[t] e2 (List.getElem?_eq_getElem hj);have e3:(vs.toArray++Array.replicate (fn.ntmps-vs.toArray.size) undef).getD t undef=vs[t]:=by
    rw[Array.getD_eq_getD_getElem?,Array.getElem?_append_left (by simpa using hj)];simp[hj]
   rw[e3];exact this
 refine wp_mono (awc (hΓ B) hx c hvc hrep) λex a w' hq=> ?_;have fin:∀ (s:aah) (G1:Nat->GV) (F1:Nat->Prop),(∃ av,avW P s (ρ.map (·.1)) fn.results.toList=some av/\aac av val/\apV s kb)->Rep D B fn.ntmps ⟨F,λk=>(Gi k).v,λg=>g<w.heap.size/\∀ j,lk blks j≠none->¬ (Gi j).o g,[]⟩ w s.fs G1 F1 a w'->a.defers=[]/\∃ v,(results fn a.tmps).run P w'= .ok v w'/\
   ∃ v',Ending.returned v=Ending.returned v'/\∃ G' F',acJ D B ⟨λ_=>none,b⟩ (e.rc none [] []) G F w G' F' v' w':=by
  rintro s G1 F1 ⟨av,h1,h2,h3⟩ hr';have hkey:∀ j,j ∈ ρ.map (·.1)↔∃ x,lk ρ j=some x:=λj=>⟨λh=>aew h,λ⟨x,h⟩=>asG h⟩
  obtain⟨F',hF'⟩:∃ F':Nat->Prop,F'=λg=>F1 g\/∃ k,k ∉ ρ.map (·.1)/\s.fs.b k≠none/\(G1 k).o g:=⟨_,rfl⟩
  have hF1:∀ g,F1 g->F' g:=λg hg=>by rw[hF'];exact .inl hg
  obtain⟨v,h4,h5⟩:=aup (F':=F') hr' hF1 (λk g q1 q2 q3=>by rw[hF'];exact .inr ⟨k,q1,q2,q3⟩) h1;obtain⟨G',hG',hGn⟩:∃ G':Nat->GV,(∀ j x,lk ρ j=some x->G' x=G1 j)/\∀ x,(∀ j,lk ρ j≠some x)->G' x=G x:=by
   classical
   refine⟨λx=>if hx:∃ j,lk ρ j=some x then G1 hx.choose else G x,λj x hj=> ?_,λx hx=> ?_⟩
   ·have hx:∃ j,lk ρ j=some x:=⟨j,hj⟩
    simp only[dif_pos hx];rw[hρ _ _ _ hx.choose_spec hj]
   ·have hx':¬ ∃ j,lk ρ j=some x:=λ⟨j,hj⟩=>hx j hj;simp only[dif_neg hx']
  have hset':∀ x,lk e.set x=none->∀ j,lk ρ j≠some x:=λx hn j hj=>by
   obtain⟨_,_,_,_,b',hb'⟩:=hkb j x hj;rw[hn] at hb';cases hb'
  have hsg:∀ k y,lk ρ k=some y->(G' (sg ρ k)).v=(G1 k).v:=λk y h=>by rw[awf h,hG' k y h]
  have hle1:∀ k y,lk ρ k=some y->∃ b1,lk s.blks k=some b1:=λk y h=>by
   obtain⟨b0,q1,_⟩:=hkb k y h;obtain⟨b1,q2,_⟩:=afV h3 k b0 q1;exact⟨b1,q2⟩
  have wbo:∀ j,lk blks j≠none->∃ x,x∈(e.rc none [] []).wb/\b x≠none/\Gi j=G x:=λj hj=>by
   obtain⟨x,q1,q2,q3⟩:=hbs j hj;refine⟨x,?_,q2,q3⟩;rcases hold j x q1 with ⟨j',h⟩ | h
   ·obtain⟨_,_,_,_,b',hb'⟩:=hkb j' x h;exact adk.2 (.inl ⟨b',hb'⟩)
   ·exact adk.2 (.inr h)
  -- what was not this call's business
  have old:∀ g,g<w.heap.size->(F1 g->F g\/∃ k,k∈(e.rc none [] []).wb/\b k≠none/\(G k).o g)/\∀ k,s.fs.b k≠none->(G1 k).o g->∃ k,k∈(e.rc none [] []).wb/\b k≠none/\(G k).o g:=λg hg=>by
   by_cases hfg:∀ j,lk blks j≠none->¬ (Gi j).o g
   ·obtain⟨_,_,q3,q4⟩:=hr'.fr.2 g ⟨hg,hfg⟩;exact⟨λh=> .inl (q3 h),λk hk e=>absurd e (q4 k hk)⟩
   ·obtain⟨j,hj⟩:=Classical.not_forall.1 hfg;have hj1:lk blks j≠none:=λh=>hj λh'=>absurd h h';have hj2:(Gi j).o g:=Classical.not_not.1 λh=>hj λ_=>h;obtain⟨x,q1,q2,q3⟩:=wbo j hj1;have:∃ k,k∈(e.rc none [] []).wb/\b k≠none/\(G k).o g:=⟨x,q1,q2,by rw[<- q3];exact hj2⟩
    exact⟨λ_=> .inr this,λ_ _ _=>this⟩
  refine⟨hr'.df,v,h4,v,rfl,G',F',λx hx=>hGn x (hset' x hx),λx hx=> ?_,λg hg=>hF1 g (hr'.f0 g hg),λg hg=> ?_,λg hg=> ?_,hr'.own.b.os,hr'.own.b.tape,hr'.own.b.output,hr'.own.b.size,hr'.own.d,hr'.fr.1,λg hg hne=> ?_,λav' hav=> ?_,λx b' hs=> ?_,λx x' b' b2 hs hs' hne g g1 g2=> ?_⟩
  ·by_cases hj:∃ j,lk ρ j=some x
   ·obtain⟨j,hj⟩:=hj;rcases hnw j x hj with h | h
    ·exact absurd h hx
    ·rw[hG' j x hj,<- hGs j x h];exact hr'.pin j (hhi j x h)
   ·rw[hGn x λj h=>hj ⟨j,h⟩]
  ·rw[hF'] at hg;rcases Nat.lt_or_ge g w.heap.size with hlt | hge
   ·rcases hg with hg | ⟨k,_,q2,q3⟩
    ·exact ((old g hlt).1 hg).imp id .inr
    ·exact .inr (.inr ((old g hlt).2 k q2 q3))
   ·exact .inr (.inl hge)
  ·rw[hF'] at hg;rcases hg with hg | ⟨k,_,q2,q3⟩
   ·exact hr'.fl g hg
   ·obtain⟨b',hb'⟩:=Option.ne_none_iff_exists'.1 q2;exact ((hr'.bk k b' hb').lt g q3).2
  ·refine (hr'.fr.2 g ⟨hg,λj hj e=> ?_⟩).2.1;obtain⟨x,q1,q2,q3⟩:=wbo j hj;exact hne x q1 q2 (by rw[<- q3];exact e)
  ·rw[show (e.rc none [] []).val=e.val from rfl,hval] at hav;cases hav;exact azO (h2.h _ _ _ _ h5) λk hk=>by
    obtain⟨y,hy⟩:=hvn k hk;exact hsg k y hy
  ·obtain⟨j,b0,q1,q2,rfl⟩:=hset x b' hs;obtain⟨b0',r1,r2,r3,_⟩:=hkb j x q1;rw[q2] at r1;cases r1;obtain⟨b1,q3,q4⟩:=afV h3 j b0 q2;have hjs:s.fs.b j≠none:=by rw[show s.fs.b j=_ from q3];simp
   rw[hG' j x q1];have hok:=q4.h _ _ _ _ _ (hr'.bk j b1 q3);refine⟨azN (G:=G1) r2 (hok.stay ⟨λ_ _=>rfl,hF1,aaR.refl _,λ_ _=>rfl⟩ (nw:=λ_=>False) (λ_ _ h=>h) (λ_ _=>rfl)) λk hk=> ?_,λg hg=>⟨λhgF=> ?_,?_⟩⟩
   ·obtain⟨y,hy⟩:=r3 k hk;exact hsg k y hy
   ·rw[hF'] at hgF;rcases hgF with hgF | ⟨k,k1,k2,k3⟩
    ·exact hr'.nf j g hjs hg hgF
    ·exact hr'.ne j k hjs k2 (λe=>k1 (by rw[<- e];exact (hkey j).2 ⟨x,q1⟩)) g hg k3
   ·rcases Nat.lt_or_ge g w.heap.size with hlt | hge
    ·exact .inr ((old g hlt).2 j hjs hg)
    ·exact .inl hge
  ·obtain⟨j,b0,q1,q2,rfl⟩:=hset x b' hs;obtain⟨j',b0',q1',q2',rfl⟩:=hset x' b2 hs';obtain⟨b1,q3⟩:=hle1 j x q1;obtain⟨b1',q3'⟩:=hle1 j' x' q1';rw[hG' j x q1] at g1;rw[hG' j' x' q1'] at g2;refine hr'.ne j j' (by rw[show s.fs.b j=_ from q3];simp) (by rw[show s.fs.b j'=_ from q3'];simp) (λe=>hne ?_) g g1 g2;rw[e,q1'] at q1;exact (Option.some.inj q1).symm
 have ret:∀ (x:Xt) (s:aah),asX P fn.results.toList (ρ.map (·.1)) val kb x s->∃ av,avW P s (ρ.map (·.1)) fn.results.toList=some av/\aac av val/\apV s kb:=by
  intro x s h;unfold asX at h;split at h
  ·split at h
   ·rename_i av hav;exact⟨av,hav,h⟩
   ·exact h.elim
  ·split at h
   ·rename_i av hav;exact⟨av,hav,h⟩
   ·exact h.elim
  ·exact h.elim
 cases ex with
 |normal=>obtain⟨s,G1,F1,h1,h2⟩:=hq;exact fin s G1 F1 (ret _ _ h1) h2
 |ret=>obtain⟨s,G1,F1,h1,h2⟩:=hq;exact fin s G1 F1 (ret _ _ h1) h2
 |exit i=>
  obtain⟨s,G1,F1,h1,h2⟩:=hq;exact h1.elim
 |goto l=>
  obtain⟨s,G1,F1,h1,h2⟩:=hq;exact h1.elim
 |panic ch=>exact hq.elim
 |outgrown=>exact hq.elim
end Go.Proofs.YtcmplpkmfbhpdaaGreat
namespace Go.Proofs.YtcmplpkmfbhpdaaGreat
open Go Go.RowKit
def aqg (t:Nat) (c:aaa):Bool:=c.flat || match c with
 | .hd k=>Nat.beq k t
 |_=>false
def awG (t:Nat):AV->Bool
 | .s _ l=>l.all (aqg t)
 | .tup l=>l.all λp=>p.2.all (aqg t)
def ap4 (run:Run):Run:=λb avs t=>match run (λ_=>none) (avs.map (aip b)) t with
 |some e=>match e.set,e.nws,e.del,e.val with
  |[(k,.row T sz n el)],[k'],[],some av=>match awG k av && (Nat.beq k k') with
   |true=>some { val:=some av,set:=[(k,.row T sz n el)],nws:=[k],ps:=(∀ i,i<n->(el i).all aaa.flat=true)::e.ps }
   |false=>none
  |_,_,_,_=>none
 |none=>none
section
variable {G:Nat->GV} {F F':Nat->Prop} {w:World}
theorem alT {t:Nat} {c:aaa} {v:Value} (h:GOk G F w c v) (hc:aqg t c=true):GOk G F' w c v:=by
 unfold aqg at hc;rw[Bool.or_eq_true] at hc;rcases hc with hc | hc
 ·exact ahD h hc
 ·cases c with
  |hd k=>exact h
  |_=>cases hc
theorem arx {t:Nat} {av:AV} {v:Value} (h:av.ok (GOk G F w) v) (hc:awG t av=true):av.ok (GOk G F' w) v:=by
 cases av with
 |s a l=>exact SOk.mono h λc hm v hv=>alT hv (List.all_eq_true.1 hc c hm)
 |tup l=>
  obtain⟨vs,h1,h2,h3⟩:=h;exact⟨vs,h1,h2,λi p u hp hu=>(h3 i p u hp hu).mono λc hm v hv=>alT hv (List.all_eq_true.1 (List.all_eq_true.1 hc p (List.mem_of_getElem? hp)) c hm)⟩
end
theorem alg {P:Program} {D:Prop} {f:FuncId} {run:Run} (h:∀ B,aai P D B f run) (B:Nat):aai P D B f (ap4 run):=by
 refine⟨(h B).1,λb avs t e hr hp G F w vs V hvs=> ?_⟩;unfold ap4 at hr;split at hr
 ·rename_i e0 he0;split at hr
  ·rename_i k T sz n el k' av hset hnws hdel hval;split at hr
   ·rename_i hfl;cases hr;rw[Bool.and_eq_true] at hfl;have hkk:=aaq hfl.2;subst hkk;obtain⟨hflat,hp⟩:=hp;have hF':∀ g,(λg=>F g\/∃ k,b k≠none/\(G k).o g) g->g<w.heap.size:=by
     rintro g (hg | ⟨k,h1,h2⟩)
     ·exact V.fl g hg
     ·obtain⟨b',hb'⟩:=Option.ne_none_iff_exists'.1 h1;exact ((V.bk k b' hb').lt g h2).2
    have V':ad6 B ⟨λ_=>none,λ_=>none⟩ G (λg=>F g\/∃ k,b k≠none/\(G k).o g) ⟨#[],[]⟩ w:=
     ⟨V.bs,hF',λk b h=>(by cases h),λk k' h=>absurd rfl h,λk g h=>absurd rfl h,λt av h=>(by cases h)⟩
    have hvs':aed (GOk G (λg=>F g\/∃ k,b k≠none/\(G k).o g) w) (avs.map (aip b)) vs:=by
     refine⟨by simpa using hvs.1,λi a v h1 h2=> ?_⟩;rw[List.getElem?_map] at h1;cases hc:avs[i]? with
     |none=>rw[hc] at h1;cases h1
     |some a'=>
      rw[hc] at h1;cases h1;exact ah0 V (λg hg=> .inl hg) (λk g h3 h4=> .inr ⟨k,h3,h4⟩) (hvs.2 i a' v hc h2)
    refine ((h B).2 _ _ t e0 he0 hp _ _ w vs V' hvs').mono ?_;rintro en w' ⟨v,rfl,G',F'',p⟩;have hs0:(e0.rc none [] []).set=[(k,.row T sz n el)]:=hset;have hn0:(e0.rc none [] []).nws=[k]:=hnws;have hs1:∀ (k1:Nat) (b1:aae),lk [(k,aae.row T sz n el)] k1=some b1->lk (e0.rc none [] []).set k1=some b1:=λk1 b1 h1=>by rw[hs0];exact h1
    refine⟨v,rfl,G',F,λk1 h1=>p.g k1 (by rw[hs0];exact h1),λk1 h1=>p.gv k1 (by rw[hn0];exact h1),λ_ h=>h,λ_ h=> .inl h,λg hg=>Nat.lt_of_lt_of_le (V.fl g hg) p.sz,p.os,p.tape,p.out,p.sz,p.dr,p.k,λg hg _=>p.h g hg (λk _ hk=>absurd rfl hk),λav' hav'=> ?_,λk1 b1 h1=> ?_,λk1 k2 b1 b2 h1 h2=>p.d k1 k2 b1 b2 (hs1 _ _ h1) (hs1 _ _ h2)⟩
    ·cases hav';exact arx (p.v av hval) hfl.1
    ·obtain⟨q1,q2⟩:=p.s k1 b1 (hs1 _ _ h1);obtain⟨rfl,rfl⟩:=aaO h1;refine⟨?_,λg hg=> ?_⟩
     ·obtain⟨u,eu,xs,r1,r2,r3,r4,r5⟩:=q1;refine⟨u,eu,xs,r1,r2,r3,r4,λi j c x hi hc hx=> ?_⟩;have hcf:=List.all_eq_true.1 (hflat i hi) c (List.mem_of_getElem? hc);have:=ahD (G:=G') (G':=G') (F':=F) (GOk.of (r5 i j c x hi hc hx)) hcf;refine COk.of this ?_;cases c<;>first | rfl | cases hcf
     ·have:=q2 g hg;rcases this.2 with z | ⟨k0,_,z,_⟩
      ·exact⟨λhF=>by have:=V.fl g hF;omega,.inl z⟩
      ·exact absurd rfl z
   ·cases hr
  ·cases hr
 ·cases hr
theorem avn {P:Program} {D:Prop} {f:FuncId} {fn:Func} {c:Code} {run:Run} (hx:P.follows .mixedOrders=true) (hf:P.funcs[f]? =some fn) (hb:fn.body=some c) (hc:abQ P f=true)
  (H:∀ b avs t e,run b avs t=some e->aca e.ps->∃ Γ : FuncId->Option Run,(∀ B f run,Γ f=some run->aai P D B f run)/\Nonempty (awL P Γ fn c b avs e)) (B:Nat):aai P D B f run:=by
 refine⟨hc,λb avs t e hr hp=> ?_⟩;obtain⟨Γ,hΓ,O⟩:=H b avs t e hr hp;have:=anC (run:=λb' avs' t'=>@ite _ (b'=b/\avs'=avs/\t'=t) (Classical.propDecidable _) (some e) none) hΓ hx hf hb hc (λb' avs' t' e' h h'=>by
  split at h
  ·rename_i hq;obtain⟨rfl,rfl,rfl⟩:=hq;cases h;exact O
  ·cases h) B
 exact this.2 b avs t e (if_pos ⟨rfl,rfl,rfl⟩) hp
end Go.Proofs.YtcmplpkmfbhpdaaGreat
