import Derived.Test.YtcmplpkmfbhpdaaGreatSyE
import Derived.Test.YtcmplpkmfbhpdaaGreatSortLay
import Derived.Test.YtcmplpkmfbhpdaaGreatShelf
import Derived.Test.YtcmplpkmfbhpdaaGreatGMem
import Derived.Shelf.SlSortCmp.WholeK
import Derived.Shelf.SlSortCmp.Kit1
import Derived.Sort.LotA
import Derived.Shelf.SlSortCmp.KitK
import Derived.Sort.WalkB2
import Derived.Sort.WalkB12
namespace Go.Proofs.YtcmplpkmfbhpdaaGreat
open Go Go.RowKit Go.Lib Go.Sort Go.Shelf
theorem an3 {w w':World} (h:Own w.heap.size w w'):∃ q os,w'=grow (w.drewN q) os:=by
 obtain⟨hb,hd⟩:=h;refine⟨w'.drawn-w.drawn,w'.heap.extract w.heap.size w'.heap.size,?_⟩;have e:w'.heap=w.heap++w'.heap.extract w.heap.size w'.heap.size:=by
  apply Array.ext_getElem?;intro i;rcases Nat.lt_or_ge i w.heap.size with hi | hi
  ·rw[Array.getElem?_append_left hi,hb.block i hi]
  ·rw[Array.getElem?_append_right hi];rcases Nat.lt_or_ge i w'.heap.size with hj | hj
   ·rw[Array.getElem?_extract_of_lt (by omega),Array.getElem?_eq_getElem hj];simp only[show w.heap.size+(i-w.heap.size)=i by omega]
   ·rw[Array.getElem?_eq_none (by omega),Array.getElem?_eq_none (by rw[Array.size_extract];omega)]
 have e2:w.drawn+(w'.drawn-w.drawn)=w'.drawn:=by omega
 calc w'=⟨w'.heap,w'.tape,w'.drawn,w'.os,w'.output⟩:=rfl
  _=⟨w.heap++w'.heap.extract w.heap.size w'.heap.size,w.tape,w.drawn+(w'.drawn-w.drawn),w.os,w.output⟩:=by rw[<- e,e2,hb.tape,hb.os,hb.output]
  _=_:=rfl
section
variable {α:Type} [Inhabited α] {enc:α->List Value} {k:Nat}
omit [Inhabited α] in
theorem ahC (hk:∀ x,(enc x).length=k):∀ (l:List α),(l.flatMap enc).length=l.length*k
 |[]=>by simp
 |x::r=>by rw[List.flatMap_cons,List.length_append,hk,ahC hk r,List.length_cons,Nat.add_mul,Nat.one_mul,Nat.add_comm]
omit [Inhabited α] in
theorem aka (hk:∀ x,(enc x).length=k):∀ (l:List α) (i c:Nat),c<k->(l.flatMap enc)[i*k+c]? =(l[i]?).bind λx=>(enc x)[c]?
 |[],i,c,_=>by simp
 |x::r,0,c,hc=>by
  rw[List.flatMap_cons,Nat.zero_mul,Nat.zero_add,List.getElem?_append_left (by rw[hk];exact hc)];rfl
 |x::r,i+1,c,hc=>by
  rw[List.flatMap_cons,List.getElem?_append_right (by rw[hk,Nat.add_mul,Nat.one_mul];omega),hk];have e:(i+1)*k+c-k=i*k+c:=by rw[Nat.add_mul,Nat.one_mul];omega
  rw[e,aka hk r i c hc];rfl
theorem apy (hk:∀ x,(enc x).length=k) (l:List α):(flatK enc k l.toArray).toList=l.flatMap enc:=by
 apply List.ext_getElem?;intro t;rcases Nat.lt_or_ge t (l.length*k) with ht | ht
 ·have k0:0<k:=by
   rcases Nat.eq_zero_or_pos k with h | h
   ·subst h;simp at ht
   ·exact h
  have hq:t/k<l.length:=(Nat.div_lt_iff_lt_mul k0).2 ht;have hm:t%k<k:=Nat.mod_lt _ k0;have e:t=(t/k)*k+t%k:=by rw[Nat.mul_comm];exact (Nat.div_add_mod t k).symm
  have h1:=get_flatK enc k l.toArray t (by simpa using ht);rw[Array.getElem?_toList,Array.getElem?_eq_getElem (by simpa using ht)];rw[getElem!_pos _ t (by simpa using ht)] at h1;rw[h1];conv=>rhs;rw[e]
  rw[aka hk l _ _ hm,List.getElem?_eq_getElem hq,Option.bind_some];have e2:l.toArray[t/k]! =l[t/k]:=by rw[getElem!_pos _ _ (by simpa using hq)];simp
  rw[e2,getElem!_pos _ _ (by rw[hk];exact hm),List.getElem?_eq_getElem]
 ·rw[List.getElem?_eq_none (by simpa using ht),List.getElem?_eq_none (by rw[ahC hk];exact ht)]
theorem ag7 (hk:∀ x,(enc x).length=k) {w:World} {g n:Nat} {cs:Array Value} {T:TypeId} {l:List α} (hg:w.heap[g]? =some (.cells cs T (0,0))) (hcs:cs.size=n*k) (hl:l.length<=n):HoldsK enc k w g 0 l.toArray↔cs.toList.take (l.length*k)=l.flatMap enc:=by
 have hb:l.length*k<=cs.size:=by rw[hcs];exact Nat.mul_le_mul_right k hl
 have hB:aak T w g cs.toList:=hg;rw[<- apy hk l];constructor
 ·intro h;apply List.ext_getElem?;intro t;rw[List.getElem?_take];by_cases ht:t<l.length*k
  ·rw[if_pos ht];have h1:=(h t (by simpa using ht)).1;rw[Nat.zero_add,hB.cell t] at h1;rw[h1,Array.getElem?_toList,Array.getElem?_eq_getElem (by simpa using ht),getElem!_pos _ t (by simpa using ht)];rfl
  ·rw[if_neg ht,List.getElem?_eq_none (by simpa using ht)]
 ·intro h t ht;have ht':t<l.length*k:=by simpa using ht
  refine⟨?_,?_⟩
  ·rw[Nat.zero_add,hB.cell t];have h1:=congrArg (λq=>q[t]?) h;simp only[List.getElem?_take,if_pos ht'] at h1;rw[h1,Array.getElem?_toList,Array.getElem?_eq_getElem ht,getElem!_pos _ t ht];rfl
  ·rw[Nat.zero_add];exact hB.free t
end
def amS (ag:Bool) (l:List Value):Value:=if ag then .agg l.toArray else l.getD 0 undef
def aiz (P:Program) (sf:FuncId) (T:TypeId) (k:Nat) (ag:Bool) (N:Nat):Prop:=∀ {α:Type} [Inhabited α] (enc:α->List Value),(∀ x,(enc x).length=k)->(∀ x,∀ v∈enc x,v.oneCell'=true)->∀ (cf:α->α->Int),SWO (ltOf cf)->∀ (g:Nat) (cb:Array Value) (B:Nat) (v:Value) (l:List α) (w:World),(∀ args w,(callFunc g args).run P w= .ok (.enter g args) w)->
 T≠213 ->w.ownsRow B T k v l.length (l.flatMap enc)->0<l.length->l.length<N->
 (∀ W:World,w.grownBy W v.ownBlock->aaR w W->w.drawn<=W.drawn->∀ x y,Calls P g (#[amS ag (enc x),amS ag (enc y)]++cb) W λe w'=>e= .returned (.int .i64 (cf x y))/\Own W.heap.size W w')->
 Calls P sf #[v,.func (.func g) #[] cb] w λe w'=>e= .returned (.tuple #[])/\w.grownBy w' v.ownBlock/\aaR w w'/\w.drawn<=w'.drawn/\∃ l':List α,l'.Perm l/\l'.Pairwise (λx y=>¬ cf y x<0)/\w'.ownsRow B T k v l'.length (l'.flatMap enc)
def aft (P:Program) (sf:FuncId):Prop:=∀ (o:Option Addr) (c:Nat) (fv:Value) (w:World),Calls P sf #[.slice o 0 c,fv] w λe w'=>e= .returned (.tuple #[])/\Own w.heap.size w w'
section
variable {α:Type} [Inhabited α]
theorem aeE (enc:α->Value) (off:Nat) (d:Array α) (c:Array Value):(putCells enc off d c).size=c.size:=by unfold putCells;rw[Array.size_mapIdx]
theorem adE {enc:α->List Value} {k blk off m:Nat} {w:World} {dk:Array α} {os:Array Obj} : w.grownBy (sortWorldK enc k w blk off m dk os) (some blk):=by
 refine⟨rfl,rfl,rfl,?_,λg hg hn=> ?_⟩
 ·show w.heap.size<=((w.heap.modify blk _)++os).size;rw[Array.size_append,Array.size_modify];omega
 ·show ((w.heap.modify blk _)++os)[g]? =_;rw[Array.getElem?_append_left (by simpa using hg),Array.getElem?_modify,if_neg (λe=>hn (by rw[e]))]
theorem amk {enc:α->List Value} {k blk off m:Nat} {w:World} {dk:Array α} {os:Array Obj} {T:TypeId} {cur:Array Value} (h:w.heap[blk]? =some (.cells cur T (0,0))):∃ cs,(sortWorldK enc k w blk off m dk os).heap[blk]? =some (.cells cs T (0,0))/\cs.size=cur.size:=by
 have hlt:=(Array.getElem?_eq_some_iff.1 h).1;refine⟨putCells id off (flatK enc k dk) cur,?_,aeE _ _ _ _⟩;show ((w.heap.modify blk _)++os)[blk]? =_;rw[Array.getElem?_append_left (by simpa using hlt),Array.getElem?_modify,if_pos rfl,h];rfl
theorem adJ {w w':World} {g:Nat} {T:TypeId} {cur:Array Value} (h:w.grownBy w' (some g)) (hg:w.heap[g]? =some (.cells cur T (0,0))) (hT:T≠213):aaR w w':=λb cs hb=>by
 refine (h.block b (Array.getElem?_eq_some_iff.1 hb).1 λe=> ?_).trans hb;cases e;rw[hg] at hb;injection hb with hb
 injection hb with _ hb
 exact hT hb
theorem ago {l:List α} {d':Array α} (h:PermIn 0 l.toArray.size l.toArray d'):d'.toList.Perm l/\d'.size=l.length:=by
 have hd:d'.size=l.length:=by rw[h.1];simp
 refine⟨?_,hd⟩;have h3:=h.2.2;have e1:d'.extract 0 l.toArray.size=d':=by rw[<- h.1];exact Array.extract_size
 rw[e1,Array.extract_size] at h3;exact h3
theorem agm {cf:α->α->Int} {d':Array α} {n:Nat} (h:SortedIn (ltOf cf) 0 n d') (hn:d'.size=n):d'.toList.Pairwise λx y=>¬ cf y x<0:=by
 rw[List.pairwise_iff_getElem];intro i j hi hj hij;have hj':j<d'.size:=by simpa using hj
 have h3:=h i j (Nat.zero_le _) hij (by omega);unfold ltOf at h3;rw[decide_eq_false_iff_not] at h3;rw[getElem!_pos d' i (by omega),getElem!_pos d' j hj'] at h3;simpa using h3
end
theorem ar5 {P:Program} {ρ : Ren} (L:SlLaysF0.n6 P ρ) {T:TypeId} (hT:T= ρ.t 24) (k:Nat) (aE:∀ w,(isAgg T).run P w= .ok true w) (zE:∀ w,(Go.sizeOf T).run P w= .ok k w):aiz P (ρ.f 6) T k true 1152921504606846976:=by
 intro α _ enc hk h1 cf hO g cb B v l w eg hTu hr hl0 hn hcmp;obtain⟨hx,⟨_,h0⟩ | ⟨blk,cap,cur,rfl,hB,hg,hc,hm,hs,ht⟩⟩:=hr
 ·omega
 have hgt:blk<w.heap.size:=(Array.getElem?_eq_some_iff.1 hg).1;have hH:HoldsK enc k w blk 0 l.toArray:=(ag7 hk hg hs hc).2 ht;have hC:CmpLays P g cb enc k cf blk 0 l.toArray.size w:=λm os dk hdk x y=>by
  refine (hcmp _ adE (adJ adE hg hTu) (Nat.le_add_right _ _) x y).mono ?_;rintro e w' ⟨rfl,ho⟩;exact⟨rfl,an3 ho⟩
 have h:=AnyQ.slices_SortFunc L k (by rw[<- hT];exact aE) (by rw[<- hT];exact zE) enc hk h1 cf hO g cb blk 0 cap l.toArray w eg hC hH hgt (by simp;omega);rw[show l.toArray.size=l.length by simp] at h;refine h.mono ?_;rintro e w' ⟨rfl,d',m,os,hp,hsd,rfl⟩;have hp':PermIn 0 l.toArray.size l.toArray d':=by simpa using hp
 obtain⟨p1,p2⟩:=ago hp';have hHd:HoldsK enc k (sortWorldK enc k w blk 0 m d' os) blk 0 d':=(SWK.holds ⟨m,os,rfl⟩ hgt hH (by rw[p2];simp))
 obtain⟨cs',q1,q2⟩:=amk (enc:=enc) (k:=k) (off:=0) (m:=m) (dk:=d') (os:=os) hg;have hlen2:d'.toList.length=l.length:=by rw[Array.length_toList];exact p2
 refine⟨rfl,adE,adJ adE hg hTu,Nat.le_add_right _ _,d'.toList,p1,agm hsd p2,?_,.inr ⟨blk,cap,cs',by rw[hlen2],hB,q1,by rw[hlen2];exact hc,hm,by rw[q2];exact hs,?_⟩⟩
 ·rw[ahC hk]
 ·exact (ag7 hk (l:=d'.toList) q1 (by rw[q2];exact hs) (by rw[hlen2];exact hc)).1 (by simpa using hHd)
structure El (F:Nat->Prop) (w:World) {A:Type} (cof:A->List aaa) (V:A->Prop) where
 a:A
 vs:List Value
 h:abu (COk F w) (cof a) vs
 hv:V a
theorem agx {P:Program} {g:FuncId} (h:abQ P g=true):∀ args w,(callFunc g args).run P w= .ok (.enter g args) w:=by
 intro args w;unfold abQ at h;split at h
 ·rename_i fn hfn;simp only[Bool.and_eq_true,Bool.not_eq_true'] at h;have hb:¬ fn.body=none:=λhbb=>by rw[hbb] at h;cases h.1
  have hn : ¬ fn.name = "runtime.NumGoroutine" := by simpa using h.2
  simp[callFunc,hfn,hn,hb]
 ·cases h
theorem amN {sz n:Nat} {xs:List Value} (hx:xs.length=n*sz):(List.range n).flatMap (λi=>(xs.drop (i*sz)).take sz)=xs:=by
 induction n generalizing xs with
 |zero=>rw[Nat.zero_mul] at hx;simp[List.eq_nil_of_length_eq_zero hx]
 |succ n ih=>
  rw[List.range_succ,List.flatMap_append,List.flatMap_cons,List.flatMap_nil,List.append_nil];have e:(List.range n).flatMap (λi=>(xs.drop (i*sz)).take sz)=xs.take (n*sz):=by
   have h1:=ih (xs:=xs.take (n*sz)) (by rw[List.length_take,hx,Nat.add_mul,Nat.one_mul];omega);rw[<- h1];rw[List.flatMap_def,List.flatMap_def];congr 1
   refine List.map_congr_left λi hi=> ?_;have hi:=List.mem_range.1 hi;have:=Nat.mul_le_mul_right sz (show i+1<=n by omega);rw[Nat.add_mul,Nat.one_mul] at this;rw[List.drop_take,List.take_take,Nat.min_eq_left (by omega)]
  rw[e,List.take_of_length_le (l:=xs.drop (n*sz)) (by rw[List.length_drop,hx,Nat.add_mul,Nat.one_mul];omega),List.take_append_drop]
theorem apJ {sz n i:Nat} {xs:List Value} (hx:xs.length=n*sz) (hi:i<n):((xs.drop (i*sz)).take sz).length=sz:=by
 have:=Nat.mul_le_mul_right sz (show i+1<=n by omega);rw[Nat.add_mul,Nat.one_mul] at this;rw[List.length_take,List.length_drop];omega
theorem apK {sz i j:Nat} {xs:List Value} (hj:j<sz):((xs.drop (i*sz)).take sz)[j]? =xs[i*sz+j]? :=by
 rw[List.getElem?_take,if_pos hj,List.getElem?_drop]
theorem af2 {P:Program} {sf:FuncId} {T:TypeId} {sz:Nat} {ag:Bool} {A:Type} [Inhabited A] {cof:A->List aaa} (hcl:∀ a,(cof a).all aaa.cl=true) (hlen:∀ a,(cof a).length=sz) (hag:ag=false->sz=1) {N:Nat} (hS:aiz P sf T sz ag N) (hN:aft P sf) {D:Prop} {B:Nat} {g:FuncId} {crun:Run} (hC:aai P True B g crun)
  {cf:A->A->Int} (hO:SWO (ltOf cf)) {b:Nat->Option aae} {k n:Nat} {e:Nat->List aaa} (hk:b k=some (.row T sz n e)) {caps:List aaa} {l:List A} (hl:l.length=n) (he:∀ i,i<n->aan (e i) (cof (l.getD i default))) (hn:n<N) {V:A->Prop} (hV:∀ x∈l,V x)
  (hcmp:∀ x y,V x->V y->∃ e0,crun (λj=>if j=k then none else b j) (.s ag (cof x) :: .s ag (cof y)::caps.map λc=> .s false [c]) 0=some e0/\aca e0.ps/\e0.set=[]/\e0.del=[]/\e0.val=some (.s false [.v (.int .i64 (cf x y))]))
  {G:Nat->GV} {F:Nat->Prop} {w:World} {vs:List Value} (hVw:ad6 B ⟨λ_=>none,b⟩ G F ⟨#[],[]⟩ w) (hvs:aed (GOk G F w) [.s false [.hd k],.s false [.clo g caps]] vs) {p:(Nat->List aaa)->Prop}
  (hp:∀ e',(∃ l':List A,l'.Perm l/\l'.Pairwise (λx y=>¬ cf y x<0)/\e'=λi=>cof (l'.getD i default))->p e') {r:Rec} (hr1:r.set=[(k,.rowP T sz n p)]) (hr4:r.val=some (.tup [])) :
  Calls P sf vs.toArray w λen w'=>∃ v,en= .returned v/\∃ G' F',acJ D B ⟨λ_=>none,b⟩ r G F w G' F' v w':=by
 match vs,hvs with
 |[v,fv],hvs=>
 have h1:GOk G F w (.hd k) v:=aal (hvs.2 0 _ v rfl rfl);obtain⟨cb,rfl,h2⟩:=(aal (hvs.2 1 _ fv rfl rfl):GOk G F w (.clo g caps) fv)
 obtain⟨u,eu,xs,hown,hT,h0,h6,h7⟩:=hVw.bk k _ hk;have hvu:v=u:=by rw[(h1:abw G F w (.hd k) v).1,eu];rfl
 subst hvu;have hkn:(⟨λ_=>none,b⟩:FS).b k≠none:=by show b k≠none;rw[hk];simp
 have hob:=abr hown
 -- what is left of the world
 have fin:∀ w',w.grownBy w' v.ownBlock->aaR w w'->w.drawn<=w'.drawn->(∃ e',p e'/\aec B F w' T sz n e' v)->acJ D B ⟨λ_=>none,b⟩ r G F w G F (.tuple #[]) w':=by
  intro w' hg hkp hd he';have hw:k∈r.wb:=adk.2 (.inl ⟨_,by rw[hr1];simp[lk,Nat.beq_refl];rfl⟩);have hoo:∀ g,v.ownBlock=some g->(G k).o g:=λg hg=>by rw[eu];show aa7 v=some g;rw[hob];exact hg
  refine⟨λ_ _=>rfl,λ_ _=>rfl,λ_ h=>h,λ_ h=> .inl h,λg hg'=>Nat.lt_of_lt_of_le (hVw.fl g hg') hg.size,hg.os,hg.tape,hg.output,hg.size,λ_=>hd,hkp,λg hgl hne=>hg.block g hgl λe2=>hne k hw hkn (hoo g e2.symm),λav hav=> ?_,λk' b' hkb=> ?_,λk' k2 b' b2 hk1 hk2 hne=> ?_⟩
  ·rw[hr4] at hav;cases hav;exact⟨[],rfl,rfl,λi q u' h=>by simp at h⟩
  ·rw[hr1] at hkb;obtain⟨rfl,rfl⟩:=aaO hkb;obtain⟨e',q1,q2⟩:=he';exact⟨⟨v,eu,e',q1,q2⟩,λg hg'=>⟨hVw.nf k g hkn hg',.inr ⟨k,hw,hkn,hg'⟩⟩⟩
  ·rw[hr1] at hk1 hk2;exact absurd ((aaO hk1).1.symm.trans (aaO hk2).1) hne
 have hFne:∀ g,F g->some g≠v.ownBlock:=λg hF e2=>hVw.nf k g hkn (by rw[eu];show aa7 v=some g;rw[hob];exact e2.symm) hF;have stay:∀ W,w.grownBy W v.ownBlock->aaR w W->ae9 G F w G F W (λ_=>False):=λW hg hkp=>⟨λ_ _=>rfl,λ_ h=>h,hkp,λg hF=>hg.block g (hVw.fl g hF) (hFne g hF)⟩
 rcases Nat.eq_zero_or_pos n with hn0 | hn0
 ·subst hn0;have hv0:∃ o c,v= .slice o 0 c:=by
   obtain⟨_,⟨e1,_⟩ | ⟨g,cap,cur,e1,_⟩⟩:=hown
   ·exact⟨none,0,e1⟩
   ·exact⟨_,_,e1⟩
  obtain⟨o,c,hv0⟩:=hv0;have hcalls:=hN o c (.func (.func g) #[] cb.toArray) w;rw[<- hv0] at hcalls;refine hcalls.mono ?_;rintro en w' ⟨rfl,ho⟩;have hg:w.grownBy w' v.ownBlock:=aar ho.b _;refine⟨_,rfl,G,F,fin w' hg (aaC (aar ho.b none)) ho.d ⟨λi=>cof (([]:List A).getD i default),hp _ ⟨[],by rw[List.eq_nil_of_length_eq_zero hl],List.Pairwise.nil,rfl⟩,?_⟩⟩;refine⟨xs,amw hown ho.b,hT,h0,λi hi=>by omega,λi j c v hi=>by omega⟩
 ·have hxl:=hown.1;have hel:∀ i,i<n->abu (COk F w) (cof (l.getD i default)) ((xs.drop (i*sz)).take sz):=λi hi=>by
   have:abu (GOk G F w) (e i) ((xs.drop (i*sz)).take sz):=⟨by rw[h6 i hi,apJ hxl hi],λj c u hj hu=>by
    have hjl:j<sz:=by rw[<- h6 i hi];exact (List.getElem?_eq_some_iff.1 hj).1
    rw[apK hjl] at hu;exact GOk.of (h7 i j c u hi hj hu)⟩
   exact abu.cl (this.le (he i hi)) (hcl _)
  have hVd:∀ i,i<n->V (l.getD i default):=λi hi=>hV _ (by
   have hi':i<l.length:=by omega
   simp only[List.getD,List.getElem?_eq_getElem hi',Option.getD_some];exact List.getElem_mem hi')
  haveI:Inhabited (El F w cof V):=⟨⟨_,_,hel 0 hn0,hVd 0 hn0⟩⟩
  let L:List (El F w cof V):=(List.range n).attach.map λi=>⟨_,_,hel i.1 (List.mem_range.1 i.2),hVd i.1 (List.mem_range.1 i.2)⟩
  have hLa:L.map (·.a)=l:=by
   show ((List.range n).attach.map _).map _=l;rw[List.map_map];apply List.ext_getElem?;intro i;rw[List.getElem?_map,List.getElem?_attach];rcases Nat.lt_or_ge i n with hi | hi
   ·have hi':i<l.length:=by omega
    simp[hi,List.getD,List.getElem?_eq_getElem hi']
   ·have hi':l.length<=i:=by omega
    simp[hi,hi']
  have hLv:L.flatMap (·.vs)=xs:=by
   have:L.flatMap (·.vs)=(List.range n).flatMap (λi=>(xs.drop (i*sz)).take sz):=by
    show ((List.range n).attach.map _).flatMap _=_;rw[List.flatMap_map];show (List.range n).attach.flatMap (λi=>(xs.drop (i.1*sz)).take sz)=_;conv=>rhs;rw[<- List.attach_map_subtype_val (List.range n),List.flatMap_map]
   rw[this,amN hxl]
  have hLl:L.length=n:=by
   have:=congrArg List.length hLa;rw[List.length_map] at this;rw[this,hl]
  have hcalls:=hS (α:=El F w cof V) (λx=>x.vs) (λx=>by rw[<- x.h.1];exact hlen _) (λx v hv=>abu.one (G:=G) (F:=F) (w:=w) (x.h.mono λc _ v h=>GOk.of h) v hv) (λx y=>cf x.a y.a) ⟨λx=>hO.irrefl x.a,λx y z=>hO.trans x.a y.a z.a,λx y z=>hO.ntrans x.a y.a z.a⟩ g cb.toArray B v L w (agx hC.1) hT
   (by rw[hLv,hLl];exact hown) (by rw[hLl];exact hn0) (by rw[hLl];exact hn) (λW hg hkp hd x y=> ?_)
  ·refine hcalls.mono ?_;rintro en w' ⟨rfl,hg,hkp,hd,l',q1,q2,q3⟩;refine⟨_,rfl,G,F,fin w' hg hkp hd ⟨λi=>cof ((l'.map (·.a)).getD i default),hp _ ⟨l'.map (·.a),by rw[<- hLa];exact q1.map _,by rw[List.pairwise_map];exact q2,rfl⟩,?_⟩⟩;have hl'n:l'.length=n:=by rw[q1.length_eq,hLl]
   rw[hl'n] at q3;refine⟨_,q3,hT,h0,λi _=>hlen _,λi j c u hi hj hu=> ?_⟩;have hjl:j<sz:=by rw[<- hlen];exact (List.getElem?_eq_some_iff.1 hj).1
   have hi':i<l'.length:=by omega
   rw[aka (λx=>by rw[<- x.h.1];exact hlen _) l' i j hjl,List.getElem?_eq_getElem hi',Option.bind_some] at hu;simp only[List.getD,List.getElem?_map,List.getElem?_eq_getElem hi',Option.map_some,Option.getD_some] at hj;exact (l'[i].h.2 j c u hj hu).stay (stay w' hg hkp)
  ·-- the comparison, in a world of the sort's
   obtain⟨e0,c1,c2,c3,c4,c5⟩:=hcmp x.a y.a x.hv y.hv;have hst:=stay W hg hkp;have hVW:ad6 B ⟨λ_=>none,λj=>if j=k then none else b j⟩ G F ⟨#[],[]⟩ W:=by
    have hb':∀ j,(if j=k then none else b j)≠none->j≠k/\b j≠none:=λj hj=>by
     by_cases hjk:j=k
     ·rw[if_pos hjk] at hj;exact absurd rfl hj
     ·rw[if_neg hjk] at hj;exact⟨hjk,hj⟩
    refine⟨Nat.le_trans hVw.bs hg.size,λg hF=>Nat.lt_of_lt_of_le (hVw.fl g hF) hg.size,λj b' hj=> ?_,λj j' q1 q2=>hVw.ne j j' (hb' j q1).2 (hb' j' q2).2,λj g q1=>hVw.nf j g (hb' j q1).2,λt av h=>by cases h⟩;obtain⟨q1,q2⟩:=hb' j (by show (if j=k then none else b j)≠none;rw[show (if j=k then none else b j)=some b' from hj];simp);have hj:b j=some b':=by
     have h9:(if j=k then none else b j)=some b':=hj;rwa [if_neg q1] at h9
    refine (hVw.bk j b' hj).stay hst (λ_ _ h=>h) λg hgo=>hg.block g ((hVw.bk j b' hj).lt g hgo).2 λe2=> ?_;exact hVw.ne j k q2 hkn q1 g hgo (by rw[eu];show aa7 v=some g;rw[hob];exact e2.symm)
   have cv:∀ z:El F w cof V,AV.ok (GOk G F W) (.s ag (cof z.a)) (amS ag z.vs):=λz=>by
    have h3:abu (GOk G F W) (cof z.a) z.vs:=z.h.mono λc _ u h=>GOk.of (h.stay hst);unfold amS;cases ag with
    |true=>exact⟨z.vs,rfl,h3⟩
    |false=>
     have h1:=hag rfl;have e1:=hlen z.a;have e2:=z.h.1;rw[if_neg (by simp)];match hq:cof z.a,hq2:z.vs with
     |[c],[u]=>rw[hq,hq2] at h3;exact⟨c,rfl,h3.2 0 c u rfl rfl⟩
     |[],_=>rw[hq] at e1;simp at e1;omega
     |_::_::_,_=>rw[hq] at e1;simp at e1;omega
     |[_],[]=>rw[hq,hq2] at e2;simp at e2
     |[_],_::_::_=>rw[hq,hq2] at e2;simp at e2
   have hav:aed (GOk G F W) (.s ag (cof x.a) :: .s ag (cof y.a)::caps.map λc=> .s false [c]) (amS ag x.vs::amS ag y.vs::cb):=by
    refine⟨by simp[h2.1],λi av u h3 h4=> ?_⟩;match i,h3,h4 with
    |0,h3,h4=>cases h3;cases h4;exact cv x
    |1,h3,h4=>cases h3;cases h4;exact cv y
    |i+2,h3,h4=>
     simp only[List.getElem?_cons_succ] at h3 h4;rw[List.getElem?_map] at h3;cases hc:caps[i]? with
     |none=>rw[hc] at h3;cases h3
     |some c=>
      rw[hc] at h3;cases h3;exact aaG (GOk.of0 ((h2.2 i c u hc h4).stay hst (λ_ _ h=>h)))
   have hcc:=hC.2 _ _ 0 e0 c1 c2 G F W (amS ag x.vs::amS ag y.vs::cb) hVW hav;have e5:(#[amS ag x.vs,amS ag y.vs]++cb.toArray:Array Value)=(amS ag x.vs::amS ag y.vs::cb).toArray:=by simp
   rw[e5];refine hcc.mono ?_;rintro en w' ⟨v',rfl,G',F',q⟩;have hv':=q.v _ c5;refine⟨by rw[(abm (aal hv')).1],⟨⟨q.os,q.tape,q.out,q.sz,λg hg=>q.h g hg λj hj=> ?_⟩,q.dr trivial⟩⟩;rcases adk.1 hj with ⟨b',hb'⟩ | hj
   ·rw[show (e0.rc none [] []).set=e0.set from rfl,c3] at hb';cases hb'
   ·rw[show (e0.rc none [] []).del=e0.del from rfl,c4] at hj;cases hj
end Go.Proofs.YtcmplpkmfbhpdaaGreat
namespace Go.Proofs.YtcmplpkmfbhpdaaGreat
open Go.Sort
variable {α:Type} [Inhabited α]
/-! ### What the searches find -/
variable {lt:α->α->Bool}
/-! ### The blocks -/
def ayI (lt:α->α->Bool) (bs n:Nat) (d:Array α):Prop:=∀ a,bs ∣ a->SortedIn lt a (min (a+bs) n) d
theorem afo {s x a:Nat} (h1:s ∣ x) (h2:s ∣ a) (h:x<a):x+s<=a:=by
 obtain⟨p,rfl⟩:=h1;obtain⟨q,rfl⟩:=h2;have hpq:p<q:=Nat.lt_of_mul_lt_mul_left h;have:=Nat.mul_le_mul_left s (show p+1<=q from hpq);rwa [Nat.mul_add,Nat.mul_one] at this
theorem agT {a b x y:Nat} {d d':Array α} (h:SortedIn lt x y d) (p:PermIn a b d d') (hd:y<=a\/b<=x):SortedIn lt x y d':=by
 intro i j hi hij hj;rw[p.2.1 i (by omega),p.2.1 j (by omega)];exact h i j hi hij hj
def ak1 (lt:α->α->Bool) (bs a:Nat) (d:Array α):Prop:=∀ x,bs ∣ x->x<a->SortedIn lt x (x+bs) d
theorem akt {bs a:Nat} {d d':Array α} (hd:bs ∣ a) (h:ak1 lt bs a d) (p:PermIn a (a+bs) d d') (hs:SortedIn lt a (a+bs) d'):ak1 lt bs (a+bs) d':=by
 intro x hx hxa;by_cases e:x=a
 ·subst e;exact hs
 ·have hlt:x<a:=by
   apply Nat.lt_of_not_le;intro hc;have:=afo hd hx (by omega);omega
  exact agT (h x hx hlt) p (.inl (afo hx hd hlt))
theorem amK {bs a n:Nat} {d d':Array α} (hd:bs ∣ a) (h:ak1 lt bs a d) (ha:a<=n) (hn:n<a+bs) (p:PermIn a n d d') (hs:SortedIn lt a n d'):ayI lt bs n d':=by
 intro x hx;by_cases e:x=a
 ·subst e;rw[Nat.min_eq_right (by omega)];exact hs
 ·rcases Nat.lt_or_ge x a with hlt | hge
  ·have:=afo hx hd hlt;rw[Nat.min_eq_left (by omega)];exact agT (h x hx hlt) p (.inl this)
  ·have:=afo hd hx (by omega);intro i j hi hij hj;omega
theorem arR {bs n:Nat} {d:Array α} (h:ayI lt bs n d) (hn:n<=bs):SortedIn lt 0 n d:=by
 have:=h 0 (Nat.dvd_zero _);rwa [Nat.zero_add,Nat.min_eq_right hn] at this
/-! ### The two searches in the middle -/
end Go.Proofs.YtcmplpkmfbhpdaaGreat
namespace Go.Proofs.YtcmplpkmfbhpdaaGreat
open Go.Sort
variable {α:Type} [Inhabited α] {lt:α->α->Bool}
end Go.Proofs.YtcmplpkmfbhpdaaGreat
