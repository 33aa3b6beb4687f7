/-
  Walks by reckoning: functions that turn rows of their caller's.
-/
import Derived.Test.YtmagoiniahpofaaGreatSyD
namespace Go.Proofs.YtmagoiniahpofaaGreat
open Go Go.RowKit
def sg (σ : List (Nat × Nat)) (j:Nat):Nat:=match lk σ j with
 |some x=>x
 |none=>j
def mapC0 (ρ : Nat→Nat):Cell→Cell
 | .own j o=> .own (ρ j) o
 | .hd j=> .hd (ρ j)
 | .oel j sz i o=> .oel (ρ j) sz i o
 | .pt j sz a n=> .pt (ρ j) sz a n
 |c=>c
def mapC (ρ : Nat→Nat):Cell→Cell
 | .clo f caps=> .clo f (caps.map (mapC0 ρ))
 |c=>mapC0 ρ c
def mapA (ρ : Nat→Nat):AV→AV
 | .s a l=> .s a (l.map (mapC ρ))
 | .tup l=> .tup (l.map fun p=>(p.1,p.2.map (mapC ρ)))
def mapB (ρ : Nat→Nat):ABlk→ABlk
 | .st T l=> .st T (l.map (mapC ρ))
 |b=>b
def okB:ABlk→Bool
 | .rowN .. | .fam .. =>false
 |_=>true
section
variable {G G':Nat→GV} {F F':Nat→Prop} {w:World} {ρ : Nat→Nat}
theorem map_inv0 {c:Cell} {v:Value} (h:GOk0 G F w (mapC0 ρ c) v):GOk0 (fun j=>G (ρ j)) F w c v:=by
 cases c<;>exact h
theorem map_inv {c:Cell} {v:Value} (h:GOk G F w (mapC ρ c) v):GOk (fun j=>G (ρ j)) F w c v:=by
 cases c with
 |clo f caps=>
  obtain⟨vs,e,h1,h2⟩:=h
  refine⟨vs,e,by simpa using h1,fun i c u h3 h4=>map_inv0 (h2 i _ u ?_ h4)⟩
  rw[List.getElem?_map,h3]
  rfl
 |_=>exact h
theorem map_invC {l:List Cell} {vs:List Value} (h:CsOk (GOk G F w) (l.map (mapC ρ)) vs):CsOk (GOk (fun j=>G (ρ j)) F w) l vs:=
 ⟨by simpa using h.1,fun i c u h3 h4=>map_inv (h.2 i _ u (by rw[List.getElem?_map,h3];rfl) h4)⟩
theorem map_invS {a:Bool} {l:List Cell} {v:Value} (h:SOk (GOk G F w) a (l.map (mapC ρ)) v):SOk (GOk (fun j=>G (ρ j)) F w) a l v:=by
 cases a with
 |true=>
  obtain⟨cs,e,h1⟩:=h
  exact⟨cs,e,map_invC h1⟩
 |false=>
  obtain⟨c,e,h1⟩:=h
  match l,e with
  |[c'],e=>
   simp only[List.map_cons,List.map_nil,List.cons.injEq,and_true] at e
   subst e
   exact⟨c',rfl,map_inv h1⟩
theorem map_invA {av:AV} {v:Value} (h:(mapA ρ av).ok (GOk G F w) v):av.ok (GOk (fun j=>G (ρ j)) F w) v:=by
 cases av with
 |s a l=>exact map_invS h
 |tup l=>
  obtain⟨vs,e,h1,h2⟩:=h
  exact⟨vs,e,by simpa using h1,fun i p u h3 h4=>map_invS (h2 i _ u (by rw[List.getElem?_map,h3];rfl) h4)⟩
theorem map_invB {B:Nat} {b:ABlk} {u:GV} (hb:okB b=true) (h:(mapB ρ b).ok B G F w u):b.ok B (fun j=>G (ρ j)) F w u:=by
 cases b with
 |st T l=>
  obtain⟨g,cs,e,h1,h2,h3,h4⟩:=h
  exact⟨g,cs,e,h1,h2,h3,map_invC h4⟩
 |rowN | fam=>cases hb
 |_=>exact h
theorem map_c0 {c:Cell} {v:Value} (h:GOk0 G F w c v) (hv:∀ k∈c.nm0,(G' (ρ k)).v=(G k).v):GOk0 G' F w (mapC0 ρ c) v:=by
 cases c with
 |own k off=>obtain⟨g,h1,h2⟩:=h;exact⟨g,by rw[hv k (by simp[Cell.nm0])];exact h1,h2⟩
 |hd k=>exact⟨by rw[hv k (by simp[Cell.nm0])];exact h.1,h.2⟩
 |oel k sz i off=>obtain⟨g,n,c,h1,h2⟩:=h;exact⟨g,n,c,by rw[hv k (by simp[Cell.nm0])];exact h1,h2⟩
 |pt k sz a n=>
  rcases h with h | ⟨h0,g,m,c,h1,h2⟩
  ·exact .inl h
  ·exact .inr ⟨h0,g,m,c,by rw[hv k (by simp[Cell.nm0])];exact h1,h2⟩
 |_=>exact h
theorem map_c {c:Cell} {v:Value} (h:GOk G F w c v) (hv:∀ k∈c.nm,(G' (ρ k)).v=(G k).v):GOk G' F w (mapC ρ c) v:=by
 cases c with
 |clo f caps=>
  obtain⟨vs,e,h1,h2⟩:=h
  refine⟨vs,e,by simpa using h1,fun i c u h3 h4=> ?_⟩
  rw[List.getElem?_map] at h3
  cases hc:caps[i]? with
  |none=>rw[hc] at h3;cases h3
  |some c0=>
   rw[hc] at h3
   cases h3
   exact map_c0 (h2 i c0 u hc h4) fun k hk=>hv k (by simp only[Cell.nm,List.mem_flatMap];exact⟨c0,List.mem_of_getElem? hc,hk⟩)
 |own | hd | oel | pt=>simp only[GOk] at h;exact map_c0 (G':=G') h hv
 |_=>exact h
theorem map_cs {l:List Cell} {vs:List Value} (h:CsOk (GOk G F w) l vs) (hv:∀ k∈l.flatMap Cell.nm,(G' (ρ k)).v=(G k).v):CsOk (GOk G' F w) (l.map (mapC ρ)) vs:=
 ⟨by simpa using h.1,fun i c u h3 h4=>by
  rw[List.getElem?_map] at h3
  cases hc:l[i]? with
  |none=>rw[hc] at h3;cases h3
  |some c0=>
   rw[hc] at h3
   cases h3
   exact map_c (h.2 i c0 u hc h4) fun k hk=>hv k (List.mem_flatMap.2 ⟨c0,List.mem_of_getElem? hc,hk⟩)⟩
theorem map_s {a:Bool} {l:List Cell} {v:Value} (h:SOk (GOk G F w) a l v) (hv:∀ k∈l.flatMap Cell.nm,(G' (ρ k)).v=(G k).v):SOk (GOk G' F w) a (l.map (mapC ρ)) v:=by
 cases a with
 |true=>obtain⟨cs,e,h1⟩:=h;exact⟨cs,e,map_cs h1 hv⟩
 |false=>
  obtain⟨c,rfl,h1⟩:=h
  exact⟨_,rfl,map_c h1 fun k hk=>hv k (by simpa using hk)⟩
theorem map_a {av:AV} {v:Value} (h:av.ok (GOk G F w) v) (hv:∀ k∈av.nm,(G' (ρ k)).v=(G k).v):(mapA ρ av).ok (GOk G' F w) v:=by
 cases av with
 |s a l=>exact map_s h hv
 |tup l=>
  obtain⟨vs,e,h1,h2⟩:=h
  refine⟨vs,e,by simpa using h1,fun i p u h3 h4=> ?_⟩
  rw[List.getElem?_map] at h3
  cases hc:l[i]? with
  |none=>rw[hc] at h3;cases h3
  |some p0=>
   rw[hc] at h3
   cases h3
   exact map_s (h2 i p0 u hc h4) fun k hk=>hv k (List.mem_flatMap.2 ⟨p0,List.mem_of_getElem? hc,hk⟩)
theorem map_b {B:Nat} {b:ABlk} {u:GV} (hb:okB b=true) (h:b.ok B G F w u) (hv:∀ k∈b.nm,(G' (ρ k)).v=(G k).v):(mapB ρ b).ok B G' F w u:=by
 cases b with
 |st T l=>
  obtain⟨g,cs,e,h1,h2,h3,h4⟩:=h
  exact⟨g,cs,e,h1,h2,h3,map_cs h4 hv⟩
 |rowN | fam=>cases hb
 |_=>exact h
end
def conv (s:AState) (keys:List Nat) (c:Cell):Cell:=
 match c.nm.all (has keys) with
 |true=>c
 |false=>froz s c
def resK (P:Program) (s:AState) (keys:List Nat) (l:List ResultVar):Option AV:=
 match resL P s l with
 |some [(ag,l)]=>some (.s ag (l.map (conv s keys)))
 |some l=>some (.tup (l.map fun p=>(p.1,p.2.map (conv s keys))))
 |none=>none
def retO (P:Program) (l:List ResultVar) (keys:List Nat) (val:AV) (kb:List (Nat × ABlk)) (e:Xt) (s:AState):Prop:=
 match e with
 | .n | .r=>match resK P s keys l with
  |some av=>AVle av val∧blLe s kb
  |none=>False
 |_=>False
section
variable {P:Program} {D:Prop} {B m:Nat} {F0:Base} {w0:World} {s:AState} {G:Nat→GV} {F F':Nat→Prop} {a:Act} {w:World}
theorem conv_ok (h:Rep D B m F0 w0 s.fs G F a w) {keys:List Nat} (hF:∀ g,F g→F' g) (hF':∀ k g,k ∉ keys→s.fs.b k≠none→(G k).o g→F' g) {c:Cell} {v:Value} (hv:GOk G F w c v):GOk G F' w (conv s keys c) v:=by
 have hst:Stay G F w G F' w (fun _=>False):=⟨fun _ _=>rfl,hF,Keep.refl _,fun _ _=>rfl⟩
 unfold conv
 split
 ·exact hv.stay hst (fun _ _ h=>h)
 ·rename_i hall
  have jk:GOk G F' w .j v:=hv.one
  cases c with
  |hd k=>
   have hk:v=(G k).v:=(hv:GOk0 G F w (.hd k) v).1
   have hkn:k ∉ keys:=fun hm=>by simp[Cell.nm,Cell.nm0,has_iff.2 hm] at hall
   simp only[froz]
   split
   ·rename_i T sz n e hb
    obtain⟨v0,ev,hok⟩:=h.bk k _ hb
    rw[ev] at hk
    subst hk
    exact GOk.of (row_froz hok hF (fun g hg=>hF' k g hkn (by rw[show s.fs.b k=_ from hb];simp) (by rw[ev];exact hg)))
   ·exact jk
  |pt k sz a n=>
   have hkn:k ∉ keys:=fun hm=>by simp[Cell.nm,Cell.nm0,has_iff.2 hm] at hall
   simp only[froz]
   split
   ·rename_i T sz' m e hb
    split
    ·rename_i e2
     have:=beq_eq e2
     subst this
     obtain⟨v0,ev,hok⟩:=h.bk k _ hb
     have hr:COk F' w (.row sz m e) v0:=row_froz hok hF (fun g hg=>hF' k g hkn (by rw[show s.fs.b k=_ from hb];simp) (by rw[ev];exact hg))
     have h3:=frz_c0 (k:=k) (x:= .row sz m e) (F':=F') hF (fun _=>by rw[ev];exact hr) (show GOk0 G F w (.pt k sz a n) v from hv)
     simp only[frzC0,Nat.beq_refl] at h3
     exact GOk.of (show COk F' w (.row sz n fun i=>e (i+a)) v from h3)
    ·exact jk
   ·exact jk
  |own | oel | clo | j=>exact jk
  |v | t | f | q | z | row | el | fh | m=>exact hv.stay hst (fun _ _ h=>h)
theorem sok_conv (h:Rep D B m F0 w0 s.fs G F a w) {keys:List Nat} (hF:∀ g,F g→F' g) (hF':∀ k g,k ∉ keys→s.fs.b k≠none→(G k).o g→F' g) {ag:Bool} {l:List Cell} {v:Value} (hv:SOk (GOk G F w) ag l v):SOk (GOk G F' w) ag (l.map (conv s keys)) v:=by
 cases ag with
 |true=>
  obtain⟨cs,h1,h2⟩:=hv
  refine⟨cs,h1,by simpa using h2.1,fun i c u h3 h4=> ?_⟩
  rw[List.getElem?_map] at h3
  cases hc:l[i]? with
  |none=>rw[hc] at h3;cases h3
  |some c'=>
   rw[hc] at h3
   cases h3
   exact conv_ok h hF hF' (h2.2 i c' u hc h4)
 |false=>
  obtain⟨c,rfl,h2⟩:=hv
  exact⟨_,rfl,conv_ok h hF hF' h2⟩
theorem resK_ok (h:Rep D B m F0 w0 s.fs G F a w) {keys:List Nat} (hF:∀ g,F g→F' g) (hF':∀ k g,k ∉ keys→s.fs.b k≠none→(G k).o g→F' g) {fn:Func} {av:AV} (hr:resK P s keys fn.results.toList=some av):∃ v,(results fn a.tmps).run P w= .ok v w∧av.ok (GOk G F' w) v:=by
 unfold resK at hr
 split at hr
 ·rename_i ag l hl
  cases hr
  obtain⟨vs,h1,h2,h3⟩:=resL_ok h hl
  match vs,h2 with
  |[u],_=>
   refine⟨u,?_,sok_conv h hF hF' (h3 0 _ u rfl rfl)⟩
   rw[results_eq,Array.mapM_eq_mapM_toList]
   simp[h1]
 ·rename_i l hne hl
  cases hr
  obtain⟨vs,h1,h2,h3⟩:=resL_ok h hl
  have hn1:¬ vs.length=1:=fun e=>by
   rw[← h2] at e
   match l,e,hne with
   |[(ag,l')],_,hne=>exact hne ag l' rfl
  refine⟨.tuple vs.toArray,?_,vs,rfl,by simpa using h2,fun i p u h4 h5=> ?_⟩
  ·rw[results_eq,Array.mapM_eq_mapM_toList]
   simp[h1,hn1]
  ·rw[List.getElem?_map] at h4
   cases hc:l[i]? with
   |none=>rw[hc] at h4;cases h4
   |some p'=>
    rw[hc] at h4
    cases h4
    exact sok_conv h hF hF' (h3 i p' u hc h5)
 ·cases hr
end
structure OwnFn (P:Program) (Γ : FuncId→Option Run) (fn:Func) (c:Code) (b:Nat→Option ABlk) (avs:List AV) (e:Eff) where
 σ : List (Nat × Nat)
 ρ : List (Nat × Nat)
 avs':List AV
 blks:List (Nat × ABlk)
 inv:List (Nat × LInv)
 val:AV
 kb:List (Nat × ABlk)
 hval:e.val=some (mapA (sg ρ) val)
 hset:∀ x b',lk e.set x=some b'→∃ j b0,lk ρ j=some x∧lk kb j=some b0∧b'=mapB (sg ρ) b0
 hkb:∀ j x,lk ρ j=some x→∃ b0,lk kb j=some b0∧okB b0=true∧(∀ k∈b0.nm,∃ y,lk ρ k=some y)∧∃ b',lk e.set x=some b'
 hvn:∀ k∈val.nm,∃ y,lk ρ k=some y
 hρ : ∀ j j' x,lk ρ j=some x→lk ρ j'=some x→j=j'
 hσ : ∀ j j' x,lk σ j=some x→lk σ j'=some x→j=j'
 hhi:∀ j x,lk σ j=some x→1000000≤j
 hnw:∀ j x,lk ρ j=some x→x∈e.nws∨lk σ j=some x
 hold:∀ j x,lk σ j=some x→(∃ j',lk ρ j'=some x)∨x∈e.del
 hle:AvsLe avs (avs'.map (mapA (sg σ)))
 hlen:avs'.length≤fn.ntmps
 hblk:∀ j b0,lk blks j=some b0→okB b0=true∧∃ x,lk σ j=some x∧∃ b1,b x=some b1∧ABle b1 (mapB (sg σ) b0)
 hvc:vc P Γ fn.ntmps inv c ⟨entryS avs' 0,blks⟩ (retO P fn.results.toList (ρ.map (·.1)) val kb)
theorem sg_of {σ : List (Nat × Nat)} {j x:Nat} (h:lk σ j=some x):sg σ j=x:=by
 unfold sg
 rw[h]
theorem fn_own {P:Program} {D:Prop} {Γ : FuncId→Option Run} {f:FuncId} {fn:Func} {c:Code} {run:Run} (hΓ : ∀ B f run,Γ f=some run→RunOK P D B f run) (hx:P.follows .mixedOrders=true) (hf:P.funcs[f]? =some fn) (hb:fn.body=some c) (hc:callable P f=true)
  (H:∀ b avs t e,run b avs t=some e→allP e.ps→Nonempty (OwnFn P Γ fn c b avs e)) (B:Nat):RunOK P D B f run:=by
 refine⟨hc,fun b avs0 t e hr hp G F w vs V hvs0=> ?_⟩
 obtain⟨O⟩:=H b avs0 t e hr hp
 obtain⟨σ,ρ,avs,blks,inv,val,kb,hval,hset,hkb,hvn,hρ,hσ,hhi,hnw,hold,hle,hlen,hblk,hvc⟩:=O
 obtain⟨Gi,hGi⟩:∃ Gi:Nat→GV,Gi=fun j=>G (sg σ j):=⟨_,rfl⟩
 have hGs:∀ j x,lk σ j=some x→Gi j=G x:=fun j x h=>by rw[hGi];show G (sg σ j)=_;rw[sg_of h]
 have hvs:AvsOk (GOk Gi F w) avs vs:=by
  refine⟨by have:=hle.1;rw[List.length_map] at this;rw[this];exact hvs0.1,fun i av v h1 h2=> ?_⟩
  have hi:i<avs0.length:=by rw[hvs0.1];exact (List.getElem?_eq_some_iff.1 h2).1
  rw[hGi]
  exact map_invA ((hle.2 i _ (mapA (sg σ) av) (List.getElem?_eq_getElem hi) (by rw[List.getElem?_map,h1];rfl)).h _ _ _ _ (hvs0.2 i _ v (List.getElem?_eq_getElem hi) h2))
 refine calls_of_wp hf hb ?_
 have hsz:vs.length=avs.length:=hvs.1.symm
 have hbs:∀ j,lk blks j≠none→∃ x,lk σ j=some x∧b x≠none∧Gi j=G x:=fun j hj=>by
  obtain⟨b0,h0⟩:=Option.ne_none_iff_exists'.1 hj
  obtain⟨_,x,h1,b1,h2,_⟩:=hblk j b0 h0
  exact⟨x,h1,by rw[h2];simp,hGs j x h1⟩
 have hrep:Rep D B fn.ntmps ⟨F,fun k=>(Gi k).v,fun g=>g<w.heap.size∧∀ j,lk blks j≠none→¬ (Gi j).o g⟩ w (AState.mk (entryS avs 0) blks).fs Gi F { tmps:=vs.toArray++Array.replicate (fn.ntmps-vs.toArray.size) undef,defers:=[] } w:=by
  refine⟨⟨Below.refl _ _,fun _=>Nat.le_refl _⟩,V.bs,fun _ h=>h,fun _ h=> .inl h,V.fl,fun j b0 hj=> ?_,fun j j' h1 h2 hne g hg hg'=> ?_,fun j g h1 hg=> ?_,fun t av ht=> ?_,(by simp;omega),rfl,fun _ _=>rfl,Keep.refl _,fun g hg=>⟨hg.1,rfl,fun h=>h,fun j hj=>hg.2 j hj⟩⟩
  ·obtain⟨q1,x,q2,b1,q3,q4⟩:=hblk j b0 hj
   rw[hGs j x q2,hGi]
   exact map_invB q1 (q4.h _ _ _ _ _ (V.bk x b1 q3))
  ·obtain⟨x,q1,q2,q3⟩:=hbs j h1
   obtain⟨x',q1',q2',q3'⟩:=hbs j' h2
   rw[q3] at hg
   rw[q3'] at hg'
   exact V.ne x x' q2 q2' (fun e=>hne (hσ j j' x q1 (by rw[e];exact q1'))) g hg hg'
  ·obtain⟨x,q1,q2,q3⟩:=hbs j h1
   rw[q3] at hg
   exact V.nf x g q2 hg
  ·obtain⟨j,e1,e2⟩:=entryS_at (show lk (entryS avs 0) t=some av from ht)
   rw[Nat.zero_add] at e1
   subst e1
   have hj:t<vs.length:=by rw[hsz];exact (List.getElem?_eq_some_iff.1 e2).1
   have:=hvs.2 t av vs[t] e2 (List.getElem?_eq_getElem hj)
   have e3:(vs.toArray++Array.replicate (fn.ntmps-vs.toArray.size) undef).getD t undef=vs[t]:=by
    rw[Array.getD_eq_getD_getElem?,Array.getElem?_append_left (by simpa using hj)]
    simp[hj]
   rw[e3]
   exact this
 refine wp_mono (vc_ok (hΓ B) hx c hvc hrep) fun ex a w' hq=> ?_
 have fin:∀ (s:AState) (G1:Nat→GV) (F1:Nat→Prop),(∃ av,resK P s (ρ.map (·.1)) fn.results.toList=some av∧AVle av val∧blLe s kb)→Rep D B fn.ntmps ⟨F,fun k=>(Gi k).v,fun g=>g<w.heap.size∧∀ j,lk blks j≠none→¬ (Gi j).o g⟩ w s.fs G1 F1 a w'→a.defers=[]∧∃ v,(results fn a.tmps).run P w'= .ok v w'∧
   ∃ v',Ending.returned v=Ending.returned v'∧∃ G' F',Post D B ⟨fun _=>none,b⟩ (e.rc none [] []) G F w G' F' v' w':=by
  rintro s G1 F1 ⟨av,h1,h2,h3⟩ hr'
  have hkey:∀ j,j ∈ ρ.map (·.1)↔∃ x,lk ρ j=some x:=fun j=>⟨fun h=>lk_of_key h,fun ⟨x,h⟩=>lk_key h⟩
  obtain⟨F',hF'⟩:∃ F':Nat→Prop,F'=fun g=>F1 g∨∃ k,k ∉ ρ.map (·.1)∧s.fs.b k≠none∧(G1 k).o g:=⟨_,rfl⟩
  have hF1:∀ g,F1 g→F' g:=fun g hg=>by rw[hF'];exact .inl hg
  obtain⟨v,h4,h5⟩:=resK_ok (F':=F') hr' hF1 (fun k g q1 q2 q3=>by rw[hF'];exact .inr ⟨k,q1,q2,q3⟩) h1
  obtain⟨G',hG',hGn⟩:∃ G':Nat→GV,(∀ j x,lk ρ j=some x→G' x=G1 j)∧∀ x,(∀ j,lk ρ j≠some x)→G' x=G x:=by
   classical
   refine⟨fun x=>if hx:∃ j,lk ρ j=some x then G1 hx.choose else G x,fun j x hj=> ?_,fun x hx=> ?_⟩
   ·have hx:∃ j,lk ρ j=some x:=⟨j,hj⟩
    simp only[dif_pos hx]
    rw[hρ _ _ _ hx.choose_spec hj]
   ·have hx':¬ ∃ j,lk ρ j=some x:=fun ⟨j,hj⟩=>hx j hj
    simp only[dif_neg hx']
  have hset':∀ x,lk e.set x=none→∀ j,lk ρ j≠some x:=fun x hn j hj=>by
   obtain⟨_,_,_,_,b',hb'⟩:=hkb j x hj
   rw[hn] at hb'
   cases hb'
  have hsg:∀ k y,lk ρ k=some y→(G' (sg ρ k)).v=(G1 k).v:=fun k y h=>by rw[sg_of h,hG' k y h]
  have hle1:∀ k y,lk ρ k=some y→∃ b1,lk s.blks k=some b1:=fun k y h=>by
   obtain⟨b0,q1,_⟩:=hkb k y h
   obtain⟨b1,q2,_⟩:=blLe_ok h3 k b0 q1
   exact⟨b1,q2⟩
  have wbo:∀ j,lk blks j≠none→∃ x,x∈(e.rc none [] []).wb∧b x≠none∧Gi j=G x:=fun j hj=>by
   obtain⟨x,q1,q2,q3⟩:=hbs j hj
   refine⟨x,?_,q2,q3⟩
   rcases hold j x q1 with ⟨j',h⟩ | h
   ·obtain⟨_,_,_,_,b',hb'⟩:=hkb j' x h
    exact mem_wb.2 (.inl ⟨b',hb'⟩)
   ·exact mem_wb.2 (.inr h)
  -- what was not this call's business
  have old:∀ g,g<w.heap.size→(F1 g→F g∨∃ k,k∈(e.rc none [] []).wb∧b k≠none∧(G k).o g)∧∀ k,s.fs.b k≠none→(G1 k).o g→∃ k,k∈(e.rc none [] []).wb∧b k≠none∧(G k).o g:=fun g hg=>by
   by_cases hfg:∀ j,lk blks j≠none→¬ (Gi j).o g
   ·obtain⟨_,_,q3,q4⟩:=hr'.fr.2 g ⟨hg,hfg⟩
    exact⟨fun h=> .inl (q3 h),fun k hk e=>absurd e (q4 k hk)⟩
   ·obtain⟨j,hj⟩:=Classical.not_forall.1 hfg
    have hj1:lk blks j≠none:=fun h=>hj fun h'=>absurd h h'
    have hj2:(Gi j).o g:=Classical.not_not.1 fun h=>hj fun _=>h
    obtain⟨x,q1,q2,q3⟩:=wbo j hj1
    have:∃ k,k∈(e.rc none [] []).wb∧b k≠none∧(G k).o g:=⟨x,q1,q2,by rw[← q3];exact hj2⟩
    exact⟨fun _=> .inr this,fun _ _ _=>this⟩
  refine⟨hr'.df,v,h4,v,rfl,G',F',fun x hx=>hGn x (hset' x hx),fun x hx=> ?_,fun g hg=>hF1 g (hr'.f0 g hg),fun g hg=> ?_,fun g hg=> ?_,hr'.own.b.os,hr'.own.b.tape,hr'.own.b.output,hr'.own.b.size,hr'.own.d,hr'.fr.1,fun g hg hne=> ?_,fun av' hav=> ?_,fun x b' hs=> ?_,fun x x' b' b2 hs hs' hne g g1 g2=> ?_⟩
  ·by_cases hj:∃ j,lk ρ j=some x
   ·obtain⟨j,hj⟩:=hj
    rcases hnw j x hj with h | h
    ·exact absurd h hx
    ·rw[hG' j x hj,← hGs j x h]
     exact hr'.pin j (hhi j x h)
   ·rw[hGn x fun j h=>hj ⟨j,h⟩]
  ·rw[hF'] at hg
   rcases Nat.lt_or_ge g w.heap.size with hlt | hge
   ·rcases hg with hg | ⟨k,_,q2,q3⟩
    ·exact ((old g hlt).1 hg).imp id .inr
    ·exact .inr (.inr ((old g hlt).2 k q2 q3))
   ·exact .inr (.inl hge)
  ·rw[hF'] at hg
   rcases hg with hg | ⟨k,_,q2,q3⟩
   ·exact hr'.fl g hg
   ·obtain⟨b',hb'⟩:=Option.ne_none_iff_exists'.1 q2
    exact ((hr'.bk k b' hb').lt g q3).2
  ·refine (hr'.fr.2 g ⟨hg,fun j hj e=> ?_⟩).2.1
   obtain⟨x,q1,q2,q3⟩:=wbo j hj
   exact hne x q1 q2 (by rw[← q3];exact e)
  ·rw[show (e.rc none [] []).val=e.val from rfl,hval] at hav
   cases hav
   exact map_a (h2.h _ _ _ _ h5) fun k hk=>by
    obtain⟨y,hy⟩:=hvn k hk
    exact hsg k y hy
  ·obtain⟨j,b0,q1,q2,rfl⟩:=hset x b' hs
   obtain⟨b0',r1,r2,r3,_⟩:=hkb j x q1
   rw[q2] at r1
   cases r1
   obtain⟨b1,q3,q4⟩:=blLe_ok h3 j b0 q2
   have hjs:s.fs.b j≠none:=by rw[show s.fs.b j=_ from q3];simp
   rw[hG' j x q1]
   have hok:=q4.h _ _ _ _ _ (hr'.bk j b1 q3)
   refine⟨map_b (G:=G1) r2 (hok.stay ⟨fun _ _=>rfl,hF1,Keep.refl _,fun _ _=>rfl⟩ (nw:=fun _=>False) (fun _ _ h=>h) (fun _ _=>rfl)) fun k hk=> ?_,fun g hg=>⟨fun hgF=> ?_,?_⟩⟩
   ·obtain⟨y,hy⟩:=r3 k hk
    exact hsg k y hy
   ·rw[hF'] at hgF
    rcases hgF with hgF | ⟨k,k1,k2,k3⟩
    ·exact hr'.nf j g hjs hg hgF
    ·exact hr'.ne j k hjs k2 (fun e=>k1 (by rw[← e];exact (hkey j).2 ⟨x,q1⟩)) g hg k3
   ·rcases Nat.lt_or_ge g w.heap.size with hlt | hge
    ·exact .inr ((old g hlt).2 j hjs hg)
    ·exact .inl hge
  ·obtain⟨j,b0,q1,q2,rfl⟩:=hset x b' hs
   obtain⟨j',b0',q1',q2',rfl⟩:=hset x' b2 hs'
   obtain⟨b1,q3⟩:=hle1 j x q1
   obtain⟨b1',q3'⟩:=hle1 j' x' q1'
   rw[hG' j x q1] at g1
   rw[hG' j' x' q1'] at g2
   refine hr'.ne j j' (by rw[show s.fs.b j=_ from q3];simp) (by rw[show s.fs.b j'=_ from q3'];simp) (fun e=>hne ?_) g g1 g2
   rw[e,q1'] at q1
   exact (Option.some.inj q1).symm
 have ret:∀ (x:Xt) (s:AState),retO P fn.results.toList (ρ.map (·.1)) val kb x s→∃ av,resK P s (ρ.map (·.1)) fn.results.toList=some av∧AVle av val∧blLe s kb:=by
  intro x s h
  unfold retO at h
  split at h
  ·split at h
   ·rename_i av hav;exact⟨av,hav,h⟩
   ·exact h.elim
  ·split at h
   ·rename_i av hav;exact⟨av,hav,h⟩
   ·exact h.elim
  ·exact h.elim
 cases ex with
 |normal=>obtain⟨s,G1,F1,h1,h2⟩:=hq;exact fin s G1 F1 (ret _ _ h1) h2
 |ret=>obtain⟨s,G1,F1,h1,h2⟩:=hq;exact fin s G1 F1 (ret _ _ h1) h2
 |exit i=>
  obtain⟨s,G1,F1,h1,h2⟩:=hq
  exact h1.elim
 |goto l=>
  obtain⟨s,G1,F1,h1,h2⟩:=hq
  exact h1.elim
 |panic ch=>exact hq.elim
 |outgrown=>exact hq.elim
end Go.Proofs.YtmagoiniahpofaaGreat
namespace Go.Proofs.YtmagoiniahpofaaGreat
open Go Go.RowKit
def flatH (t:Nat) (c:Cell):Bool:=c.flat || match c with
 | .hd k=>Nat.beq k t
 |_=>false
def flatO (t:Nat):AV→Bool
 | .s _ l=>l.all (flatH t)
 | .tup l=>l.all fun p=>p.2.all (flatH t)
def readO (run:Run):Run:=fun b avs t=>match run (fun _=>none) (avs.map (frozV b)) t with
 |some e=>match e.set,e.nws,e.del,e.val with
  |[(k,.row T sz n el)],[k'],[],some av=>match flatO k av && (Nat.beq k k') with
   |true=>some { val:=some av,set:=[(k,.row T sz n el)],nws:=[k],ps:=(∀ i,i<n→(el i).all Cell.flat=true)::e.ps }
   |false=>none
  |_,_,_,_=>none
 |none=>none
section
variable {G:Nat→GV} {F F':Nat→Prop} {w:World}
theorem flatH_ok {t:Nat} {c:Cell} {v:Value} (h:GOk G F w c v) (hc:flatH t c=true):GOk G F' w c v:=by
 unfold flatH at hc
 rw[Bool.or_eq_true] at hc
 rcases hc with hc | hc
 ·exact flat_ok h hc
 ·cases c with
  |hd k=>exact h
  |_=>cases hc
theorem flatO_ok {t:Nat} {av:AV} {v:Value} (h:av.ok (GOk G F w) v) (hc:flatO t av=true):av.ok (GOk G F' w) v:=by
 cases av with
 |s a l=>exact SOk.mono h fun c hm v hv=>flatH_ok hv (List.all_eq_true.1 hc c hm)
 |tup l=>
  obtain⟨vs,h1,h2,h3⟩:=h
  exact⟨vs,h1,h2,fun i p u hp hu=>(h3 i p u hp hu).mono fun c hm v hv=>flatH_ok hv (List.all_eq_true.1 (List.all_eq_true.1 hc p (List.mem_of_getElem? hp)) c hm)⟩
end
theorem readO_ok {P:Program} {D:Prop} {f:FuncId} {run:Run} (h:∀ B,RunOK P D B f run) (B:Nat):RunOK P D B f (readO run):=by
 refine⟨(h B).1,fun b avs t e hr hp G F w vs V hvs=> ?_⟩
 unfold readO at hr
 split at hr
 ·rename_i e0 he0
  split at hr
  ·rename_i k T sz n el k' av hset hnws hdel hval
   split at hr
   ·rename_i hfl
    cases hr
    rw[Bool.and_eq_true] at hfl
    have hkk:=beq_eq hfl.2
    subst hkk
    obtain⟨hflat,hp⟩:=hp
    have hF':∀ g,(fun g=>F g∨∃ k,b k≠none∧(G k).o g) g→g<w.heap.size:=by
     rintro g (hg | ⟨k,h1,h2⟩)
     ·exact V.fl g hg
     ·obtain⟨b',hb'⟩:=Option.ne_none_iff_exists'.1 h1
      exact ((V.bk k b' hb').lt g h2).2
    have V':View B ⟨fun _=>none,fun _=>none⟩ G (fun g=>F g∨∃ k,b k≠none∧(G k).o g) ⟨#[],[]⟩ w:=
     ⟨V.bs,hF',fun k b h=>(by cases h),fun k k' h=>absurd rfl h,fun k g h=>absurd rfl h,fun t av h=>(by cases h)⟩
    have hvs':AvsOk (GOk G (fun g=>F g∨∃ k,b k≠none∧(G k).o g) w) (avs.map (frozV b)) vs:=by
     refine⟨by simpa using hvs.1,fun i a v h1 h2=> ?_⟩
     rw[List.getElem?_map] at h1
     cases hc:avs[i]? with
     |none=>rw[hc] at h1;cases h1
     |some a'=>
      rw[hc] at h1
      cases h1
      exact frozV_ok V (fun g hg=> .inl hg) (fun k g h3 h4=> .inr ⟨k,h3,h4⟩) (hvs.2 i a' v hc h2)
    refine ((h B).2 _ _ t e0 he0 hp _ _ w vs V' hvs').mono ?_
    rintro en w' ⟨v,rfl,G',F'',p⟩
    have hs0:(e0.rc none [] []).set=[(k,.row T sz n el)]:=hset
    have hn0:(e0.rc none [] []).nws=[k]:=hnws
    have hs1:∀ (k1:Nat) (b1:ABlk),lk [(k,ABlk.row T sz n el)] k1=some b1→lk (e0.rc none [] []).set k1=some b1:=fun k1 b1 h1=>by rw[hs0];exact h1
    refine⟨v,rfl,G',F,fun k1 h1=>p.g k1 (by rw[hs0];exact h1),fun k1 h1=>p.gv k1 (by rw[hn0];exact h1),fun _ h=>h,fun _ h=> .inl h,fun g hg=>Nat.lt_of_lt_of_le (V.fl g hg) p.sz,p.os,p.tape,p.out,p.sz,p.dr,p.k,fun g hg _=>p.h g hg (fun k _ hk=>absurd rfl hk),fun av' hav'=> ?_,fun k1 b1 h1=> ?_,fun k1 k2 b1 b2 h1 h2=>p.d k1 k2 b1 b2 (hs1 _ _ h1) (hs1 _ _ h2)⟩
    ·cases hav'
     exact flatO_ok (p.v av hval) hfl.1
    ·obtain⟨q1,q2⟩:=p.s k1 b1 (hs1 _ _ h1)
     obtain⟨rfl,rfl⟩:=lk_one h1
     refine⟨?_,fun g hg=> ?_⟩
     ·obtain⟨u,eu,xs,r1,r2,r3,r4,r5⟩:=q1
      refine⟨u,eu,xs,r1,r2,r3,r4,fun i j c x hi hc hx=> ?_⟩
      have hcf:=List.all_eq_true.1 (hflat i hi) c (List.mem_of_getElem? hc)
      have:=flat_ok (G:=G') (G':=G') (F':=F) (GOk.of (r5 i j c x hi hc hx)) hcf
      refine COk.of this ?_
      cases c<;>first | rfl | cases hcf
     ·have:=q2 g hg
      rcases this.2 with z | ⟨k0,_,z,_⟩
      ·exact⟨fun hF=>by have:=V.fl g hF;omega,.inl z⟩
      ·exact absurd rfl z
   ·cases hr
  ·cases hr
 ·cases hr
theorem fn_ownC {P:Program} {D:Prop} {f:FuncId} {fn:Func} {c:Code} {run:Run} (hx:P.follows .mixedOrders=true) (hf:P.funcs[f]? =some fn) (hb:fn.body=some c) (hc:callable P f=true)
  (H:∀ b avs t e,run b avs t=some e→allP e.ps→∃ Γ : FuncId→Option Run,(∀ B f run,Γ f=some run→RunOK P D B f run)∧Nonempty (OwnFn P Γ fn c b avs e)) (B:Nat):RunOK P D B f run:=by
 refine⟨hc,fun b avs t e hr hp=> ?_⟩
 obtain⟨Γ,hΓ,O⟩:=H b avs t e hr hp
 have:=fn_own (run:=fun b' avs' t'=>@ite _ (b'=b∧avs'=avs∧t'=t) (Classical.propDecidable _) (some e) none) hΓ hx hf hb hc (fun b' avs' t' e' h h'=>by
  split at h
  ·rename_i hq
   obtain⟨rfl,rfl,rfl⟩:=hq
   cases h
   exact O
  ·cases h) B
 exact this.2 b avs t e (if_pos ⟨rfl,rfl,rfl⟩) hp
end Go.Proofs.YtmagoiniahpofaaGreat
