/-
  Sorts of rows of the caller's own, by a comparison that is walked by reckoning.
-/
import Derived.Test.YtmagoiniahpofaaGreatSyE
import Derived.Test.YtmagoiniahpofaaGreatSortLay
import Derived.Test.YtmagoiniahpofaaGreatShelf
import Derived.Test.YtmagoiniahpofaaGreatGMem
import Derived.Shelf.SlSortCmp.WholeK
import Derived.Shelf.SlSortCmp.Kit1
import Derived.Sort.LotA
import Derived.Shelf.SlSortCmp.KitK
import Derived.Sort.WalkB2
import Derived.Sort.WalkB12
namespace Go.Proofs.YtmagoiniahpofaaGreat
open Go Go.RowKit Go.Lib Go.Sort Go.Shelf
theorem own_grw {w w':World} (h:Own w.heap.size w w'):∃ q os,w'=grow (w.drewN q) os:=by
 obtain⟨hb,hd⟩:=h
 refine⟨w'.drawn-w.drawn,w'.heap.extract w.heap.size w'.heap.size,?_⟩
 have e:w'.heap=w.heap++w'.heap.extract w.heap.size w'.heap.size:=by
  apply Array.ext_getElem?
  intro i
  rcases Nat.lt_or_ge i w.heap.size with hi | hi
  ·rw[Array.getElem?_append_left hi,hb.block i hi]
  ·rw[Array.getElem?_append_right hi]
   rcases Nat.lt_or_ge i w'.heap.size with hj | hj
   ·rw[Array.getElem?_extract_of_lt (by omega),Array.getElem?_eq_getElem hj]
    simp only[show w.heap.size+(i-w.heap.size)=i by omega]
   ·rw[Array.getElem?_eq_none (by omega),Array.getElem?_eq_none (by rw[Array.size_extract];omega)]
 have e2:w.drawn+(w'.drawn-w.drawn)=w'.drawn:=by omega
 calc w'=⟨w'.heap,w'.tape,w'.drawn,w'.os,w'.output⟩:=rfl
  _=⟨w.heap++w'.heap.extract w.heap.size w'.heap.size,w.tape,w.drawn+(w'.drawn-w.drawn),w.os,w.output⟩:=by rw[← e,e2,hb.tape,hb.os,hb.output]
  _=_:=rfl
section
variable {α:Type} [Inhabited α] {enc:α→List Value} {k:Nat}
omit [Inhabited α] in
theorem flt_len (hk:∀ x,(enc x).length=k):∀ (l:List α),(l.flatMap enc).length=l.length*k
 |[]=>by simp
 |x::r=>by rw[List.flatMap_cons,List.length_append,hk,flt_len hk r,List.length_cons,Nat.add_mul,Nat.one_mul,Nat.add_comm]
omit [Inhabited α] in
theorem flt_get (hk:∀ x,(enc x).length=k):∀ (l:List α) (i c:Nat),c<k→(l.flatMap enc)[i*k+c]? =(l[i]?).bind fun x=>(enc x)[c]?
 |[],i,c,_=>by simp
 |x::r,0,c,hc=>by
  rw[List.flatMap_cons,Nat.zero_mul,Nat.zero_add,List.getElem?_append_left (by rw[hk];exact hc)]
  rfl
 |x::r,i+1,c,hc=>by
  rw[List.flatMap_cons,List.getElem?_append_right (by rw[hk,Nat.add_mul,Nat.one_mul];omega),hk]
  have e:(i+1)*k+c-k=i*k+c:=by rw[Nat.add_mul,Nat.one_mul];omega
  rw[e,flt_get hk r i c hc]
  rfl
theorem fltK_list (hk:∀ x,(enc x).length=k) (l:List α):(flatK enc k l.toArray).toList=l.flatMap enc:=by
 apply List.ext_getElem?
 intro t
 rcases Nat.lt_or_ge t (l.length*k) with ht | ht
 ·have k0:0<k:=by
   rcases Nat.eq_zero_or_pos k with h | h
   ·subst h;simp at ht
   ·exact h
  have hq:t/k<l.length:=(Nat.div_lt_iff_lt_mul k0).2 ht
  have hm:t%k<k:=Nat.mod_lt _ k0
  have e:t=(t/k)*k+t%k:=by rw[Nat.mul_comm];exact (Nat.div_add_mod t k).symm
  have h1:=get_flatK enc k l.toArray t (by simpa using ht)
  rw[Array.getElem?_toList,Array.getElem?_eq_getElem (by simpa using ht)]
  rw[getElem!_pos _ t (by simpa using ht)] at h1
  rw[h1]
  conv=>rhs;rw[e]
  rw[flt_get hk l _ _ hm,List.getElem?_eq_getElem hq,Option.bind_some]
  have e2:l.toArray[t/k]! =l[t/k]:=by rw[getElem!_pos _ _ (by simpa using hq)];simp
  rw[e2,getElem!_pos _ _ (by rw[hk];exact hm),List.getElem?_eq_getElem]
 ·rw[List.getElem?_eq_none (by simpa using ht),List.getElem?_eq_none (by rw[flt_len hk];exact ht)]
theorem hldK_cells (hk:∀ x,(enc x).length=k) {w:World} {g n:Nat} {cs:Array Value} {T:TypeId} {l:List α} (hg:w.heap[g]? =some (.cells cs T (0,0))) (hcs:cs.size=n*k) (hl:l.length≤n):HoldsK enc k w g 0 l.toArray↔cs.toList.take (l.length*k)=l.flatMap enc:=by
 have hb:l.length*k≤cs.size:=by rw[hcs];exact Nat.mul_le_mul_right k hl
 have hB:BlkC T w g cs.toList:=hg
 rw[← fltK_list hk l]
 constructor
 ·intro h
  apply List.ext_getElem?
  intro t
  rw[List.getElem?_take]
  by_cases ht:t<l.length*k
  ·rw[if_pos ht]
   have h1:=(h t (by simpa using ht)).1
   rw[Nat.zero_add,hB.cell t] at h1
   rw[h1,Array.getElem?_toList,Array.getElem?_eq_getElem (by simpa using ht),getElem!_pos _ t (by simpa using ht)]
   rfl
  ·rw[if_neg ht,List.getElem?_eq_none (by simpa using ht)]
 ·intro h t ht
  have ht':t<l.length*k:=by simpa using ht
  refine⟨?_,?_⟩
  ·rw[Nat.zero_add,hB.cell t]
   have h1:=congrArg (fun q=>q[t]?) h
   simp only[List.getElem?_take,if_pos ht'] at h1
   rw[h1,Array.getElem?_toList,Array.getElem?_eq_getElem ht,getElem!_pos _ t ht]
   rfl
  ·rw[Nat.zero_add];exact hB.free t
end
def valA (ag:Bool) (l:List Value):Value:=if ag then .agg l.toArray else l.getD 0 undef
def SortsV (P:Program) (sf:FuncId) (T:TypeId) (k:Nat) (ag:Bool):Prop:=∀ {α:Type} [Inhabited α] (enc:α→List Value),(∀ x,(enc x).length=k)→(∀ x,∀ v∈enc x,v.oneCell'=true)→∀ (cf:α→α→Int),SWO (ltOf cf)→∀ (g:Nat) (cb:Array Value) (B:Nat) (v:Value) (l:List α) (w:World),(∀ args w,(callFunc g args).run P w= .ok (.enter g args) w)→
 T≠127 →w.ownsRow B T k v l.length (l.flatMap enc)→0<l.length→l.length<1152921504606846976→
 (∀ W:World,w.grownBy W v.ownBlock→Keep w W→w.drawn≤W.drawn→∀ x y,Calls P g (#[valA ag (enc x),valA ag (enc y)]++cb) W fun e w'=>e= .returned (.int .i64 (cf x y))∧Own W.heap.size W w')→
 Calls P sf #[v,.func (.func g) #[] cb] w fun e w'=>e= .returned (.tuple #[])∧w.grownBy w' v.ownBlock∧Keep w w'∧w.drawn≤w'.drawn∧∃ l':List α,l'.Perm l∧l'.Pairwise (fun x y=>¬ cf y x<0)∧w'.ownsRow B T k v l'.length (l'.flatMap enc)
def SortsNil (P:Program) (sf:FuncId):Prop:=∀ (o:Option Addr) (c:Nat) (fv:Value) (w:World),Calls P sf #[.slice o 0 c,fv] w fun e w'=>e= .returned (.tuple #[])∧Own w.heap.size w w'
section
variable {α:Type} [Inhabited α]
theorem putCells_size (enc:α→Value) (off:Nat) (d:Array α) (c:Array Value):(putCells enc off d c).size=c.size:=by unfold putCells;rw[Array.size_mapIdx]
theorem srtK_grown {enc:α→List Value} {k blk off m:Nat} {w:World} {dk:Array α} {os:Array Obj} : w.grownBy (sortWorldK enc k w blk off m dk os) (some blk):=by
 refine⟨rfl,rfl,rfl,?_,fun g hg hn=> ?_⟩
 ·show w.heap.size≤((w.heap.modify blk _)++os).size
  rw[Array.size_append,Array.size_modify]
  omega
 ·show ((w.heap.modify blk _)++os)[g]? =_
  rw[Array.getElem?_append_left (by simpa using hg),Array.getElem?_modify,if_neg (fun e=>hn (by rw[e]))]
theorem srtK_shape {enc:α→List Value} {k blk off m:Nat} {w:World} {dk:Array α} {os:Array Obj} {T:TypeId} {cur:Array Value} (h:w.heap[blk]? =some (.cells cur T (0,0))):∃ cs,(sortWorldK enc k w blk off m dk os).heap[blk]? =some (.cells cs T (0,0))∧cs.size=cur.size:=by
 have hlt:=(Array.getElem?_eq_some_iff.1 h).1
 refine⟨putCells id off (flatK enc k dk) cur,?_,putCells_size _ _ _ _⟩
 show ((w.heap.modify blk _)++os)[blk]? =_
 rw[Array.getElem?_append_left (by simpa using hlt),Array.getElem?_modify,if_pos rfl,h]
 rfl
theorem keep_other {w w':World} {g:Nat} {T:TypeId} {cur:Array Value} (h:w.grownBy w' (some g)) (hg:w.heap[g]? =some (.cells cur T (0,0))) (hT:T≠127):Keep w w':=fun b cs hb=>by
 refine (h.block b (Array.getElem?_eq_some_iff.1 hb).1 fun e=> ?_).trans hb
 cases e
 rw[hg] at hb
 injection hb with hb
 injection hb with _ hb
 exact hT hb
theorem permIn_list {l:List α} {d':Array α} (h:PermIn 0 l.toArray.size l.toArray d'):d'.toList.Perm l∧d'.size=l.length:=by
 have hd:d'.size=l.length:=by rw[h.1];simp
 refine⟨?_,hd⟩
 have h3:=h.2.2
 have e1:d'.extract 0 l.toArray.size=d':=by rw[← h.1];exact Array.extract_size
 rw[e1,Array.extract_size] at h3
 exact h3
theorem sorted_list {cf:α→α→Int} {d':Array α} {n:Nat} (h:SortedIn (ltOf cf) 0 n d') (hn:d'.size=n):d'.toList.Pairwise fun x y=>¬ cf y x<0:=by
 rw[List.pairwise_iff_getElem]
 intro i j hi hj hij
 have hj':j<d'.size:=by simpa using hj
 have h3:=h i j (Nat.zero_le _) hij (by omega)
 unfold ltOf at h3
 rw[decide_eq_false_iff_not] at h3
 rw[getElem!_pos d' i (by omega),getElem!_pos d' j hj'] at h3
 simpa using h3
end
theorem sortsK {P:Program} {ρ : Ren} (L:SlLaysF0.n6 P ρ) {T:TypeId} (hT:T= ρ.t 24) (k:Nat) (aE:∀ w,(isAgg T).run P w= .ok true w) (zE:∀ w,(Go.sizeOf T).run P w= .ok k w):SortsV P (ρ.f 6) T k true:=by
 intro α _ enc hk h1 cf hO g cb B v l w eg hTu hr hl0 hn hcmp
 obtain⟨hx,⟨_,h0⟩ | ⟨blk,cap,cur,rfl,hB,hg,hc,hm,hs,ht⟩⟩:=hr
 ·omega
 have hgt:blk<w.heap.size:=(Array.getElem?_eq_some_iff.1 hg).1
 have hH:HoldsK enc k w blk 0 l.toArray:=(hldK_cells hk hg hs hc).2 ht
 have hC:CmpLays P g cb enc k cf blk 0 l.toArray.size w:=fun m os dk hdk x y=>by
  refine (hcmp _ srtK_grown (keep_other srtK_grown hg hTu) (Nat.le_add_right _ _) x y).mono ?_
  rintro e w' ⟨rfl,ho⟩
  exact⟨rfl,own_grw ho⟩
 have h:=AnyQ.slices_SortFunc L k (by rw[← hT];exact aE) (by rw[← hT];exact zE) enc hk h1 cf hO g cb blk 0 cap l.toArray w eg hC hH hgt (by simp;omega)
 rw[show l.toArray.size=l.length by simp] at h
 refine h.mono ?_
 rintro e w' ⟨rfl,d',m,os,hp,hsd,rfl⟩
 have hp':PermIn 0 l.toArray.size l.toArray d':=by simpa using hp
 obtain⟨p1,p2⟩:=permIn_list hp'
 have hHd:HoldsK enc k (sortWorldK enc k w blk 0 m d' os) blk 0 d':=(SWK.holds ⟨m,os,rfl⟩ hgt hH (by rw[p2];simp))
 obtain⟨cs',q1,q2⟩:=srtK_shape (enc:=enc) (k:=k) (off:=0) (m:=m) (dk:=d') (os:=os) hg
 have hlen2:d'.toList.length=l.length:=by rw[Array.length_toList];exact p2
 refine⟨rfl,srtK_grown,keep_other srtK_grown hg hTu,Nat.le_add_right _ _,d'.toList,p1,sorted_list hsd p2,?_,.inr ⟨blk,cap,cs',by rw[hlen2],hB,q1,by rw[hlen2];exact hc,hm,by rw[q2];exact hs,?_⟩⟩
 ·rw[flt_len hk]
 ·exact (hldK_cells hk (l:=d'.toList) q1 (by rw[q2];exact hs) (by rw[hlen2];exact hc)).1 (by simpa using hHd)
structure El (F:Nat→Prop) (w:World) {A:Type} (cof:A→List Cell) (V:A→Prop) where
 a:A
 vs:List Value
 h:CsOk (COk F w) (cof a) vs
 hv:V a
theorem callable_enters {P:Program} {g:FuncId} (h:callable P g=true):∀ args w,(callFunc g args).run P w= .ok (.enter g args) w:=by
 intro args w
 unfold callable at h
 split at h
 ·rename_i fn hfn
  simp only[Bool.and_eq_true,Bool.not_eq_true'] at h
  have hb:¬ fn.body=none:=fun hbb=>by rw[hbb] at h;cases h.1
  have hn : ¬ fn.name = "runtime.NumGoroutine" := by simpa using h.2
  simp[callFunc,hfn,hn,hb]
 ·cases h
theorem chunk_flat {sz n:Nat} {xs:List Value} (hx:xs.length=n*sz):(List.range n).flatMap (fun i=>(xs.drop (i*sz)).take sz)=xs:=by
 induction n generalizing xs with
 |zero=>rw[Nat.zero_mul] at hx;simp[List.eq_nil_of_length_eq_zero hx]
 |succ n ih=>
  rw[List.range_succ,List.flatMap_append,List.flatMap_cons,List.flatMap_nil,List.append_nil]
  have e:(List.range n).flatMap (fun i=>(xs.drop (i*sz)).take sz)=xs.take (n*sz):=by
   have h1:=ih (xs:=xs.take (n*sz)) (by rw[List.length_take,hx,Nat.add_mul,Nat.one_mul];omega)
   rw[← h1]
   rw[List.flatMap_def,List.flatMap_def]
   congr 1
   refine List.map_congr_left fun i hi=> ?_
   have hi:=List.mem_range.1 hi
   have:=Nat.mul_le_mul_right sz (show i+1≤n by omega)
   rw[Nat.add_mul,Nat.one_mul] at this
   rw[List.drop_take,List.take_take,Nat.min_eq_left (by omega)]
  rw[e,List.take_of_length_le (l:=xs.drop (n*sz)) (by rw[List.length_drop,hx,Nat.add_mul,Nat.one_mul];omega),List.take_append_drop]
theorem chunk_len {sz n i:Nat} {xs:List Value} (hx:xs.length=n*sz) (hi:i<n):((xs.drop (i*sz)).take sz).length=sz:=by
 have:=Nat.mul_le_mul_right sz (show i+1≤n by omega)
 rw[Nat.add_mul,Nat.one_mul] at this
 rw[List.length_take,List.length_drop]
 omega
theorem chunk_get {sz i j:Nat} {xs:List Value} (hj:j<sz):((xs.drop (i*sz)).take sz)[j]? =xs[i*sz+j]? :=by
 rw[List.getElem?_take,if_pos hj,List.getElem?_drop]
theorem sort_core {P:Program} {sf:FuncId} {T:TypeId} {sz:Nat} {ag:Bool} {A:Type} [Inhabited A] {cof:A→List Cell} (hcl:∀ a,(cof a).all Cell.cl=true) (hlen:∀ a,(cof a).length=sz) (hag:ag=false→sz=1) (hS:SortsV P sf T sz ag) (hN:SortsNil P sf) {D:Prop} {B:Nat} {g:FuncId} {crun:Run} (hC:RunOK P True B g crun)
  {cf:A→A→Int} (hO:SWO (ltOf cf)) {b:Nat→Option ABlk} {k n:Nat} {e:Nat→List Cell} (hk:b k=some (.row T sz n e)) {caps:List Cell} {l:List A} (hl:l.length=n) (he:∀ i,i<n→CsLe (e i) (cof (l.getD i default))) (hn:n<1152921504606846976) {V:A→Prop} (hV:∀ x∈l,V x)
  (hcmp:∀ x y,V x→V y→∃ e0,crun (fun j=>if j=k then none else b j) (.s ag (cof x) :: .s ag (cof y)::caps.map fun c=> .s false [c]) 0=some e0∧allP e0.ps∧e0.set=[]∧e0.del=[]∧e0.val=some (.s false [.v (.int .i64 (cf x y))]))
  {G:Nat→GV} {F:Nat→Prop} {w:World} {vs:List Value} (hVw:View B ⟨fun _=>none,b⟩ G F ⟨#[],[]⟩ w) (hvs:AvsOk (GOk G F w) [.s false [.hd k],.s false [.clo g caps]] vs) {p:(Nat→List Cell)→Prop}
  (hp:∀ e',(∃ l':List A,l'.Perm l∧l'.Pairwise (fun x y=>¬ cf y x<0)∧e'=fun i=>cof (l'.getD i default))→p e') {r:Rec} (hr1:r.set=[(k,.rowP T sz n p)]) (hr4:r.val=some (.tup [])) :
  Calls P sf vs.toArray w fun en w'=>∃ v,en= .returned v∧∃ G' F',Post D B ⟨fun _=>none,b⟩ r G F w G' F' v w':=by
 match vs,hvs with
 |[v,fv],hvs=>
 have h1:GOk G F w (.hd k) v:=one_inv (hvs.2 0 _ v rfl rfl)
 obtain⟨cb,rfl,h2⟩:=(one_inv (hvs.2 1 _ fv rfl rfl):GOk G F w (.clo g caps) fv)
 obtain⟨u,eu,xs,hown,hT,h0,h6,h7⟩:=hVw.bk k _ hk
 have hvu:v=u:=by rw[(h1:GOk0 G F w (.hd k) v).1,eu];rfl
 subst hvu
 have hkn:(⟨fun _=>none,b⟩:FS).b k≠none:=by show b k≠none;rw[hk];simp
 have hob:=ownBlk_row hown
 -- what is left of the world
 have fin:∀ w',w.grownBy w' v.ownBlock→Keep w w'→w.drawn≤w'.drawn→(∃ e',p e'∧RowOk B F w' T sz n e' v)→Post D B ⟨fun _=>none,b⟩ r G F w G F (.tuple #[]) w':=by
  intro w' hg hkp hd he'
  have hw:k∈r.wb:=mem_wb.2 (.inl ⟨_,by rw[hr1];simp[lk,Nat.beq_refl];rfl⟩)
  have hoo:∀ g,v.ownBlock=some g→(G k).o g:=fun g hg=>by rw[eu];show ownBlk v=some g;rw[hob];exact hg
  refine⟨fun _ _=>rfl,fun _ _=>rfl,fun _ h=>h,fun _ h=> .inl h,fun g hg'=>Nat.lt_of_lt_of_le (hVw.fl g hg') hg.size,hg.os,hg.tape,hg.output,hg.size,fun _=>hd,hkp,fun g hgl hne=>hg.block g hgl fun e2=>hne k hw hkn (hoo g e2.symm),fun av hav=> ?_,fun k' b' hkb=> ?_,fun k' k2 b' b2 hk1 hk2 hne=> ?_⟩
  ·rw[hr4] at hav
   cases hav
   exact⟨[],rfl,rfl,fun i q u' h=>by simp at h⟩
  ·rw[hr1] at hkb
   obtain⟨rfl,rfl⟩:=lk_one hkb
   obtain⟨e',q1,q2⟩:=he'
   exact⟨⟨v,eu,e',q1,q2⟩,fun g hg'=>⟨hVw.nf k g hkn hg',.inr ⟨k,hw,hkn,hg'⟩⟩⟩
  ·rw[hr1] at hk1 hk2
   exact absurd ((lk_one hk1).1.symm.trans (lk_one hk2).1) hne
 have hFne:∀ g,F g→some g≠v.ownBlock:=fun g hF e2=>hVw.nf k g hkn (by rw[eu];show ownBlk v=some g;rw[hob];exact e2.symm) hF
 have stay:∀ W,w.grownBy W v.ownBlock→Keep w W→Stay G F w G F W (fun _=>False):=fun W hg hkp=>⟨fun _ _=>rfl,fun _ h=>h,hkp,fun g hF=>hg.block g (hVw.fl g hF) (hFne g hF)⟩
 rcases Nat.eq_zero_or_pos n with hn0 | hn0
 ·subst hn0
  have hv0:∃ o c,v= .slice o 0 c:=by
   obtain⟨_,⟨e1,_⟩ | ⟨g,cap,cur,e1,_⟩⟩:=hown
   ·exact⟨none,0,e1⟩
   ·exact⟨_,_,e1⟩
  obtain⟨o,c,hv0⟩:=hv0
  have hcalls:=hN o c (.func (.func g) #[] cb.toArray) w
  rw[← hv0] at hcalls
  refine hcalls.mono ?_
  rintro en w' ⟨rfl,ho⟩
  have hg:w.grownBy w' v.ownBlock:=grown_of_below ho.b _
  refine⟨_,rfl,G,F,fin w' hg (keep_grown (grown_of_below ho.b none)) ho.d ⟨fun i=>cof (([]:List A).getD i default),hp _ ⟨[],by rw[List.eq_nil_of_length_eq_zero hl],List.Pairwise.nil,rfl⟩,?_⟩⟩
  refine⟨xs,owns_below hown ho.b,hT,h0,fun i hi=>by omega,fun i j c v hi=>by omega⟩
 ·have hxl:=hown.1
  have hel:∀ i,i<n→CsOk (COk F w) (cof (l.getD i default)) ((xs.drop (i*sz)).take sz):=fun i hi=>by
   have:CsOk (GOk G F w) (e i) ((xs.drop (i*sz)).take sz):=⟨by rw[h6 i hi,chunk_len hxl hi],fun j c u hj hu=>by
    have hjl:j<sz:=by rw[← h6 i hi];exact (List.getElem?_eq_some_iff.1 hj).1
    rw[chunk_get hjl] at hu
    exact GOk.of (h7 i j c u hi hj hu)⟩
   exact CsOk.cl (this.le (he i hi)) (hcl _)
  have hVd:∀ i,i<n→V (l.getD i default):=fun i hi=>hV _ (by
   have hi':i<l.length:=by omega
   simp only[List.getD,List.getElem?_eq_getElem hi',Option.getD_some]
   exact List.getElem_mem hi')
  haveI:Inhabited (El F w cof V):=⟨⟨_,_,hel 0 hn0,hVd 0 hn0⟩⟩
  let L:List (El F w cof V):=(List.range n).attach.map fun i=>⟨_,_,hel i.1 (List.mem_range.1 i.2),hVd i.1 (List.mem_range.1 i.2)⟩
  have hLa:L.map (·.a)=l:=by
   show ((List.range n).attach.map _).map _=l
   rw[List.map_map]
   apply List.ext_getElem?
   intro i
   rw[List.getElem?_map,List.getElem?_attach]
   rcases Nat.lt_or_ge i n with hi | hi
   ·have hi':i<l.length:=by omega
    simp[hi,List.getD,List.getElem?_eq_getElem hi']
   ·have hi':l.length≤i:=by omega
    simp[hi,hi']
  have hLv:L.flatMap (·.vs)=xs:=by
   have:L.flatMap (·.vs)=(List.range n).flatMap (fun i=>(xs.drop (i*sz)).take sz):=by
    show ((List.range n).attach.map _).flatMap _=_
    rw[List.flatMap_map]
    show (List.range n).attach.flatMap (fun i=>(xs.drop (i.1*sz)).take sz)=_
    conv=>rhs;rw[← List.attach_map_subtype_val (List.range n),List.flatMap_map]
   rw[this,chunk_flat hxl]
  have hLl:L.length=n:=by
   have:=congrArg List.length hLa
   rw[List.length_map] at this
   rw[this,hl]
  have hcalls:=hS (α:=El F w cof V) (fun x=>x.vs) (fun x=>by rw[← x.h.1];exact hlen _) (fun x v hv=>CsOk.one (G:=G) (F:=F) (w:=w) (x.h.mono fun c _ v h=>GOk.of h) v hv) (fun x y=>cf x.a y.a) ⟨fun x=>hO.irrefl x.a,fun x y z=>hO.trans x.a y.a z.a,fun x y z=>hO.ntrans x.a y.a z.a⟩ g cb.toArray B v L w (callable_enters hC.1) hT
   (by rw[hLv,hLl];exact hown) (by rw[hLl];exact hn0) (by rw[hLl];exact hn) (fun W hg hkp hd x y=> ?_)
  ·refine hcalls.mono ?_
   rintro en w' ⟨rfl,hg,hkp,hd,l',q1,q2,q3⟩
   refine⟨_,rfl,G,F,fin w' hg hkp hd ⟨fun i=>cof ((l'.map (·.a)).getD i default),hp _ ⟨l'.map (·.a),by rw[← hLa];exact q1.map _,by rw[List.pairwise_map];exact q2,rfl⟩,?_⟩⟩
   have hl'n:l'.length=n:=by rw[q1.length_eq,hLl]
   rw[hl'n] at q3
   refine⟨_,q3,hT,h0,fun i _=>hlen _,fun i j c u hi hj hu=> ?_⟩
   have hjl:j<sz:=by rw[← hlen];exact (List.getElem?_eq_some_iff.1 hj).1
   have hi':i<l'.length:=by omega
   rw[flt_get (fun x=>by rw[← x.h.1];exact hlen _) l' i j hjl,List.getElem?_eq_getElem hi',Option.bind_some] at hu
   simp only[List.getD,List.getElem?_map,List.getElem?_eq_getElem hi',Option.map_some,Option.getD_some] at hj
   exact (l'[i].h.2 j c u hj hu).stay (stay w' hg hkp)
  ·-- the comparison, in a world of the sort's
   obtain⟨e0,c1,c2,c3,c4,c5⟩:=hcmp x.a y.a x.hv y.hv
   have hst:=stay W hg hkp
   have hVW:View B ⟨fun _=>none,fun j=>if j=k then none else b j⟩ G F ⟨#[],[]⟩ W:=by
    have hb':∀ j,(if j=k then none else b j)≠none→j≠k∧b j≠none:=fun j hj=>by
     by_cases hjk:j=k
     ·rw[if_pos hjk] at hj;exact absurd rfl hj
     ·rw[if_neg hjk] at hj;exact⟨hjk,hj⟩
    refine⟨Nat.le_trans hVw.bs hg.size,fun g hF=>Nat.lt_of_lt_of_le (hVw.fl g hF) hg.size,fun j b' hj=> ?_,fun j j' q1 q2=>hVw.ne j j' (hb' j q1).2 (hb' j' q2).2,fun j g q1=>hVw.nf j g (hb' j q1).2,fun t av h=>by cases h⟩
    obtain⟨q1,q2⟩:=hb' j (by show (if j=k then none else b j)≠none;rw[show (if j=k then none else b j)=some b' from hj];simp)
    have hj:b j=some b':=by
     have h9:(if j=k then none else b j)=some b':=hj
     rwa [if_neg q1] at h9
    refine (hVw.bk j b' hj).stay hst (fun _ _ h=>h) fun g hgo=>hg.block g ((hVw.bk j b' hj).lt g hgo).2 fun e2=> ?_
    exact hVw.ne j k q2 hkn q1 g hgo (by rw[eu];show ownBlk v=some g;rw[hob];exact e2.symm)
   have cv:∀ z:El F w cof V,AV.ok (GOk G F W) (.s ag (cof z.a)) (valA ag z.vs):=fun z=>by
    have h3:CsOk (GOk G F W) (cof z.a) z.vs:=z.h.mono fun c _ u h=>GOk.of (h.stay hst)
    unfold valA
    cases ag with
    |true=>exact⟨z.vs,rfl,h3⟩
    |false=>
     have h1:=hag rfl
     have e1:=hlen z.a
     have e2:=z.h.1
     rw[if_neg (by simp)]
     match hq:cof z.a,hq2:z.vs with
     |[c],[u]=>rw[hq,hq2] at h3;exact⟨c,rfl,h3.2 0 c u rfl rfl⟩
     |[],_=>rw[hq] at e1;simp at e1;omega
     |_::_::_,_=>rw[hq] at e1;simp at e1;omega
     |[_],[]=>rw[hq,hq2] at e2;simp at e2
     |[_],_::_::_=>rw[hq,hq2] at e2;simp at e2
   have hav:AvsOk (GOk G F W) (.s ag (cof x.a) :: .s ag (cof y.a)::caps.map fun c=> .s false [c]) (valA ag x.vs::valA ag y.vs::cb):=by
    refine⟨by simp[h2.1],fun i av u h3 h4=> ?_⟩
    match i,h3,h4 with
    |0,h3,h4=>cases h3;cases h4;exact cv x
    |1,h3,h4=>cases h3;cases h4;exact cv y
    |i+2,h3,h4=>
     simp only[List.getElem?_cons_succ] at h3 h4
     rw[List.getElem?_map] at h3
     cases hc:caps[i]? with
     |none=>rw[hc] at h3;cases h3
     |some c=>
      rw[hc] at h3
      cases h3
      exact one_ok (GOk.of0 ((h2.2 i c u hc h4).stay hst (fun _ _ h=>h)))
   have hcc:=hC.2 _ _ 0 e0 c1 c2 G F W (valA ag x.vs::valA ag y.vs::cb) hVW hav
   have e5:(#[valA ag x.vs,valA ag y.vs]++cb.toArray:Array Value)=(valA ag x.vs::valA ag y.vs::cb).toArray:=by simp
   rw[e5]
   refine hcc.mono ?_
   rintro en w' ⟨v',rfl,G',F',q⟩
   have hv':=q.v _ c5
   refine⟨by rw[(v_inv (one_inv hv')).1],⟨⟨q.os,q.tape,q.out,q.sz,fun g hg=>q.h g hg fun j hj=> ?_⟩,q.dr trivial⟩⟩
   rcases mem_wb.1 hj with ⟨b',hb'⟩ | hj
   ·rw[show (e0.rc none [] []).set=e0.set from rfl,c3] at hb';cases hb'
   ·rw[show (e0.rc none [] []).del=e0.del from rfl,c4] at hj;cases hj
end Go.Proofs.YtmagoiniahpofaaGreat
namespace Go.Proofs.YtmagoiniahpofaaGreat
open Go.Sort
variable {α:Type} [Inhabited α]
def SwR (x y n:Nat) (d d':Array α):Prop:=
 PermIn x (y+n) d d'∧∀ k,d'[k]! =if x≤k∧k<x+n then d[k+(y-x)]! else if y≤k∧k<y+n then d[k-(y-x)]! else d[k]!
def Rot (a m b:Nat) (d d':Array α):Prop:=
 PermIn a b d d'∧(∀ k,a≤k→k<a+(b-m)→d'[k]! =d[k+(m-a)]!)∧(∀ k,a+(b-m)≤k→k<b→d'[k]! =d[k-(b-m)]!)
theorem swR_start (x y:Nat) (d:Array α):SwR x y 0 d d:=by
 refine⟨permIn_refl _ _ _,fun k=> ?_⟩
 rw[if_neg (by omega),if_neg (by omega)]
theorem swR_step {x y n:Nat} {d d':Array α} (hxy:x+n<y) (hy:y+n<d.size) (h:SwR x y n d d'):SwR x y (n+1) d (swp d' (x+n) (y+n)):=by
 obtain⟨h1,h2⟩:=h
 have hs:=h1.1
 refine⟨permIn_trans _ _ _ _ _ (permIn_mono d d' x (y+n) x (y+(n+1)) (by omega) (by omega) (by omega) h1) (swp_permIn d' x (y+(n+1)) (x+n) (y+n) (by omega) (by omega) (by omega) (by omega) (by omega)),fun k=> ?_⟩
 rw[swp_get d' (by omega) (by omega) k]
 by_cases e1:k=y+n
 ·subst e1
  rw[if_pos rfl,h2,if_neg (by omega),if_neg (by omega),if_neg (by omega),if_pos (by omega)]
  congr 1;omega
 ·rw[if_neg e1]
  by_cases e2:k=x+n
  ·subst e2
   rw[if_pos rfl,h2,if_neg (by omega),if_neg (by omega),if_pos (by omega)]
   congr 1;omega
  ·rw[if_neg e2,h2]
   by_cases c1:x≤k∧k<x+n
   ·rw[if_pos c1,if_pos (by omega)]
   ·rw[if_neg c1,if_neg (show ¬ (x≤k∧k<x+(n+1)) by omega)]
    by_cases c2:y≤k∧k<y+n
    ·rw[if_pos c2,if_pos (by omega)]
    ·rw[if_neg c2,if_neg (by omega)]
theorem rot_eq {m i:Nat} {d d':Array α} (hi:i≤m) (h:SwR (m-i) m i d d'):Rot (m-i) m (m+i) d d':=by
 obtain⟨h1,h2⟩:=h
 refine⟨h1,fun k k1 k2=> ?_,fun k k1 k2=> ?_⟩
 ·rw[h2,if_pos (by omega)]
 ·rw[h2,if_neg (by omega),if_pos (by omega)]
  congr 1;omega
theorem rot_big {m i j:Nat} {d d1 d':Array α} (hij:j<i) (hi:i≤m) (hs:m+j≤d.size) (h:SwR (m-i) m j d d1) (h2:Rot (m-(i-j)) m (m+j) d1 d'):Rot (m-i) m (m+j) d d':=by
 obtain⟨h1,hg⟩:=h
 obtain⟨p,r1,r2⟩:=h2
 have hs1:=h1.1
 refine⟨permIn_trans _ _ _ _ _ h1 (permIn_mono d1 d' (m-(i-j)) (m+j) (m-i) (m+j) (by omega) (Nat.le_refl _) (by omega) p),fun k k1 k2=> ?_,fun k k1 k2=> ?_⟩
 ·rw[p.2.1 k (by omega),hg,if_pos (by omega)]
 ·by_cases c:k<m-(i-j)+(m+j-m)
  ·rw[r1 k (by omega) c,hg,if_neg (by omega),if_pos (by omega)]
   congr 1;omega
  ·rw[r2 k (by omega) k2,hg,if_neg (by omega),if_neg (by omega)]
theorem rot_small {m i j:Nat} {d d1 d':Array α} (hij:i<j) (hi:i≤m) (hs:m+j≤d.size) (h:SwR (m-i) (m+j-i) i d d1) (h2:Rot (m-i) m (m+(j-i)) d1 d'):Rot (m-i) m (m+j) d d':=by
 obtain⟨h1,hg⟩:=h
 obtain⟨p,r1,r2⟩:=h2
 have e:m+j-i+i=m+j:=by omega
 rw[e] at h1
 have hs1:=h1.1
 refine⟨permIn_trans _ _ _ _ _ h1 (permIn_mono d1 d' (m-i) (m+(j-i)) (m-i) (m+j) (Nat.le_refl _) (by omega) (by omega) p),fun k k1 k2=> ?_,fun k k1 k2=> ?_⟩
 ·by_cases c:k<m-i+(m+(j-i)-m)
  ·rw[r1 k k1 c,hg,if_neg (by omega),if_neg (by omega)]
  ·rw[r2 k (by omega) (by omega),hg,if_pos (by omega)]
   congr 1;omega
 ·rw[p.2.1 k (by omega),hg,if_neg (by omega),if_pos (by omega)]
  congr 1;omega
theorem rot_up {a i:Nat} {d d':Array α} (hi:i<d.size) (ha:a<i) (h:Rot a (a+1) i d d'):Rot a (a+1) (i+1) d (swp d' (i-1) i):=by
 obtain⟨p,r1,r2⟩:=h
 have hs:=p.1
 refine⟨permIn_trans _ _ _ _ _ (permIn_mono d d' a i a (i+1) (Nat.le_refl _) (by omega) (by omega) p) (swp_permIn d' a (i+1) (i-1) i (by omega) (by omega) (by omega) (by omega) (by omega)),fun k k1 k2=> ?_,fun k k1 k2=> ?_⟩
 ·rw[swp_get d' (by omega) (by omega) k,if_neg (by omega)]
  by_cases e:k=i-1
  ·rw[if_pos e,p.2.1 i (by omega)]
   congr 1;omega
  ·rw[if_neg e,r1 k k1 (by omega)]
 ·have e:k=i:=by omega
  subst e
  rw[swp_get d' (by omega) (by omega) k,if_pos rfl,r2 (k-1) (by omega) (by omega)]
  congr 1;omega
theorem rot_none {a m:Nat} (d:Array α):Rot a m m d d:=
 ⟨permIn_refl _ _ _,fun k _ _=>by omega,fun k _ _=>by congr 1;omega⟩
theorem rot_down {k m:Nat} {d d':Array α} (hk:0<k) (hkm:k≤m) (hm:m<d.size) (h:Rot k m (m+1) d d'):Rot (k-1) m (m+1) d (swp d' k (k-1)):=by
 obtain⟨p,r1,r2⟩:=h
 have hs:=p.1
 refine⟨permIn_trans _ _ _ _ _ (permIn_mono d d' k (m+1) (k-1) (m+1) (by omega) (Nat.le_refl _) (by omega) p) (swp_permIn d' (k-1) (m+1) k (k-1) (by omega) (by omega) (by omega) (by omega) (by omega)),fun q q1 q2=> ?_,fun q q1 q2=> ?_⟩
 ·have e:q=k-1:=by omega
  subst e
  rw[swp_get d' (by omega) (by omega),if_pos rfl,r1 k (by omega) (by omega)]
  congr 1;omega
 ·rw[swp_get d' (by omega) (by omega) q,if_neg (by omega)]
  by_cases e:q=k
  ·rw[if_pos e,p.2.1 (k-1) (by omega)]
   congr 1;omega
  ·rw[if_neg e,r2 q (by omega) (by omega)]
theorem rot_id (m:Nat) (d:Array α):Rot m m (m+1) d d:=
 ⟨permIn_refl _ _ _,fun k k1 k2=>by congr 1;omega,fun k k1 k2=>by omega⟩
/-! ### What the searches find -/
variable {lt:α→α→Bool}
omit [Inhabited α] in
theorem less_down (hO:SWO lt) {x y z:α} (h1:lt y x=false) (h2:lt y z=true):lt x z=true:=by
 cases h:lt x z with
 |true=>rfl
 |false=>rw[hO.ntrans y x z h1 h] at h2;cases h2
theorem sorted_le (hO:SWO lt) {a b:Nat} {d:Array α} (h:SortedIn lt a b d) {i j:Nat} (hi:a≤i) (hij:i≤j) (hj:j<b):lt d[j]! d[i]! =false:=by
 by_cases e:i=j
 ·subst e;exact hO.irrefl _
 ·exact h i j hi (by omega) hj
theorem one_left (hO:SWO lt) {a b i:Nat} {d d':Array α} (ha:a+1≤i) (hb:i≤b) (hsz:b≤d.size) (hs:SortedIn lt (a+1) b d)
  (h1:∀ h,a+1≤h→h<i→lt d[h]! d[a]! =true) (h2:∀ h,i≤h→h<b→lt d[h]! d[a]! =false) (h:Rot a (a+1) i d d'):PermIn a b d d'∧SortedIn lt a b d':=by
 obtain⟨p,r1,r2⟩:=h
 refine⟨permIn_mono d d' a i a b (Nat.le_refl _) hb hsz p,fun x y hx hxy hy=> ?_⟩
 have g:∀ k,a≤k→k<b→d'[k]! =if k<i-1 then d[k+1]! else if k=i-1 then d[a]! else d[k]! :=fun k k1 k2=>by
  by_cases c:k<i-1
  ·rw[if_pos c,r1 k k1 (by omega)];congr 1;omega
  ·rw[if_neg c]
   by_cases c2:k=i-1
   ·rw[if_pos c2,r2 k (by omega) (by omega)];congr 1;omega
   ·rw[if_neg c2,p.2.1 k (by omega)]
 rw[g x hx (by omega),g y (by omega) hy]
 by_cases c1:y<i-1
 ·rw[if_pos c1,if_pos (by omega)];exact hs _ _ (by omega) (by omega) (by omega)
 ·rw[if_neg c1]
  by_cases c2:y=i-1
  ·rw[if_pos c2,if_pos (by omega)];exact hO.asymmA (h1 _ (by omega) (by omega))
  ·rw[if_neg c2]
   by_cases c3:x<i-1
   ·rw[if_pos c3];exact hs _ _ (by omega) (by omega) (by omega)
   ·rw[if_neg c3]
    by_cases c4:x=i-1
    ·rw[if_pos c4];exact h2 _ (by omega) (by omega)
    ·rw[if_neg c4];exact hs _ _ (by omega) (by omega) (by omega)
theorem one_right (hO:SWO lt) {a m i:Nat} {d d':Array α} (ha:a≤i) (him:i≤m) (hsz:m+1≤d.size) (hs:SortedIn lt a m d)
  (h1:∀ h,a≤h→h<i→lt d[m]! d[h]! =false) (h2:∀ h,i≤h→h<m→lt d[m]! d[h]! =true) (h:Rot i m (m+1) d d'):PermIn a (m+1) d d'∧SortedIn lt a (m+1) d':=by
 obtain⟨p,r1,r2⟩:=h
 refine⟨permIn_mono d d' i (m+1) a (m+1) ha (Nat.le_refl _) hsz p,fun x y hx hxy hy=> ?_⟩
 have g:∀ k,a≤k→k<m+1→d'[k]! =if k<i then d[k]! else if k=i then d[m]! else d[k-1]! :=fun k k1 k2=>by
  by_cases c:k<i
  ·rw[if_pos c,p.2.1 k (by omega)]
  ·rw[if_neg c]
   by_cases c2:k=i
   ·rw[if_pos c2,r1 k (by omega) (by omega)];congr 1;omega
   ·rw[if_neg c2,r2 k (by omega) (by omega)];congr 1;omega
 rw[g x hx (by omega),g y (by omega) hy]
 by_cases c1:y<i
 ·rw[if_pos c1,if_pos (by omega)];exact hs _ _ hx hxy (by omega)
 ·rw[if_neg c1]
  by_cases c2:y=i
  ·rw[if_pos c2,if_pos (by omega)];exact h1 _ hx (by omega)
  ·rw[if_neg c2]
   by_cases c3:x<i
   ·rw[if_pos c3];exact hs _ _ hx (by omega) (by omega)
   ·rw[if_neg c3]
    by_cases c4:x=i
    ·rw[if_pos c4];exact hO.asymmA (h2 _ (by omega) (by omega))
    ·rw[if_neg c4];exact hs _ _ (by omega) (by omega) (by omega)
theorem sorted_join {a mid b:Nat} {d:Array α} (h1:SortedIn lt a mid d) (h2:SortedIn lt mid b d) (h:∀ x y,a≤x→x<mid→mid≤y→y<b→lt d[y]! d[x]! =false):SortedIn lt a b d:=by
 intro x y hx hxy hy
 by_cases c1:y<mid
 ·exact h1 x y hx hxy c1
 ·by_cases c2:x<mid
  ·exact h x y hx c2 (by omega) hy
  ·exact h2 x y (by omega) hxy hy
structure Mid (lt:α→α→Bool) (a m b mid start:Nat) (d:Array α):Prop where
 low:∀ c,a≤c→c<start→c<m→mid+m-start<b→lt d[mid+m-start]! d[c]! =false
 high:∀ c,start≤c→c<m→m<mid+m-start→lt d[mid+m-1-start]! d[c]! =true
theorem rot_parts (hO:SWO lt) {a m b mid start:Nat} {d d':Array α} (ham:a<m) (hmb:m<b) (hmid:mid=(a+b)/2) (hsz:b≤d.size) (s1:SortedIn lt a m d) (s2:SortedIn lt m b d)
  (h0:a≤start) (h1:start≤m) (h2:mid+m≤b+start) (h3:start≤mid) (hm:Mid lt a m b mid start d) (h:Rot start m (mid+m-start) d d') :
  PermIn a b d d'∧SortedIn lt a start d'∧SortedIn lt start mid d'∧SortedIn lt mid (mid+m-start) d'∧SortedIn lt (mid+m-start) b d'∧∀ x y,a≤x→x<mid→mid≤y→y<b→lt d'[y]! d'[x]! =false:=by
 obtain⟨p,r1,r2⟩:=h
 have g:∀ k,a≤k→k<b→d'[k]! =if k<start then d[k]! else if k<mid then d[k+(m-start)]! else if k<mid+m-start then d[k-(mid-start)]! else d[k]! :=fun k k1 k2=>by
  by_cases c:k<start
  ·rw[if_pos c,p.2.1 k (by omega)]
  ·rw[if_neg c]
   by_cases c2:k<mid
   ·rw[if_pos c2,r1 k (by omega) (by omega)]
   ·rw[if_neg c2]
    by_cases c3:k<mid+m-start
    ·rw[if_pos c3,r2 k (by omega) (by omega)];congr 1;omega
    ·rw[if_neg c3,p.2.1 k (by omega)]
 refine⟨permIn_mono d d' start (mid+m-start) a b h0 (by omega) hsz p,?_,?_,?_,?_,?_⟩
 ·intro x y hx hxy hy
  rw[g x hx (by omega),g y (by omega) (by omega),if_pos (by omega),if_pos (by omega)]
  exact s1 _ _ hx hxy (by omega)
 ·intro x y hx hxy hy
  rw[g x (by omega) (by omega),g y (by omega) (by omega),if_neg (by omega),if_pos (by omega),if_neg (by omega),if_pos (by omega)]
  exact s2 _ _ (by omega) (by omega) (by omega)
 ·intro x y hx hxy hy
  rw[g x (by omega) (by omega),g y (by omega) (by omega),if_neg (by omega),if_neg (by omega),if_pos (by omega),if_neg (by omega),if_neg (by omega),if_pos (by omega)]
  exact s1 _ _ (by omega) (by omega) (by omega)
 ·intro x y hx hxy hy
  rw[g x (by omega) (by omega),g y (by omega) (by omega),if_neg (by omega),if_neg (by omega),if_neg (by omega),if_neg (by omega),if_neg (by omega),if_neg (by omega)]
  exact s2 _ _ (by omega) (by omega) (by omega)
 ·intro x y hx hxm hmy hy
  rw[g x hx (by omega),g y (by omega) hy,if_neg (show ¬ y<start by omega),if_neg (show ¬ y<mid by omega)]
  by_cases c1:x<start
  ·rw[if_pos c1]
   by_cases c2:y<mid+m-start
   ·rw[if_pos c2]
    exact sorted_le hO s1 hx (by omega) (by omega)
   ·rw[if_neg c2]
    exact hO.ntrans _ _ _ (sorted_le hO s2 (show m≤mid+m-start by omega) (by omega) hy) (hm.low x hx c1 (by omega) (by omega))
  ·rw[if_neg c1,if_pos hxm]
   by_cases c2:y<mid+m-start
   ·rw[if_pos c2]
    have k1:=hm.high (y-(mid-start)) (by omega) (by omega) (by omega)
    exact hO.ntrans _ _ _ (hO.asymmA k1) (sorted_le hO s2 (by omega) (by omega) (by omega))
   ·rw[if_neg c2]
    exact sorted_le hO s2 (by omega) (by omega) hy
/-! ### The blocks -/
def Blks (lt:α→α→Bool) (bs n:Nat) (d:Array α):Prop:=∀ a,bs ∣ a→SortedIn lt a (min (a+bs) n) d
def Half (lt:α→α→Bool) (bs a n:Nat) (d:Array α):Prop:=(∀ x,2*bs ∣ x→x<a→SortedIn lt x (x+2*bs) d)∧∀ x,bs ∣ x→a≤x→SortedIn lt x (min (x+bs) n) d
theorem dvd_next {s x a:Nat} (h1:s ∣ x) (h2:s ∣ a) (h:x<a):x+s≤a:=by
 obtain⟨p,rfl⟩:=h1
 obtain⟨q,rfl⟩:=h2
 have hpq:p<q:=Nat.lt_of_mul_lt_mul_left h
 have:=Nat.mul_le_mul_left s (show p+1≤q from hpq)
 rwa [Nat.mul_add,Nat.mul_one] at this
theorem sorted_off {a b x y:Nat} {d d':Array α} (h:SortedIn lt x y d) (p:PermIn a b d d') (hd:y≤a∨b≤x):SortedIn lt x y d':=by
 intro i j hi hij hj
 rw[p.2.1 i (by omega),p.2.1 j (by omega)]
 exact h i j hi hij hj
theorem half_start {bs n:Nat} {d:Array α} (h:Blks lt bs n d):Half lt bs 0 n d:=⟨fun x _ hx=>by omega,fun x hx _=>h x hx⟩
theorem half_step {bs a n:Nat} {d d':Array α} (hd:2*bs ∣ a) (h:Half lt bs a n d) (p:PermIn a (a+2*bs) d d') (hs:SortedIn lt a (a+2*bs) d'):Half lt bs (a+2*bs) n d':=by
 refine⟨fun x hx hxa=> ?_,fun x hx hax=>sorted_off (h.2 x hx (by omega)) p (.inr hax)⟩
 by_cases e:x=a
 ·subst e;exact hs
 ·have hlt:x<a:=by
   apply Nat.lt_of_not_le
   intro hc
   have:=dvd_next hd hx (by omega)
   omega
  exact sorted_off (h.1 x hx hlt) p (.inl (dvd_next hx hd hlt))
theorem half_end {bs a n:Nat} {d:Array α} (hd:2*bs ∣ a) (h:Half lt bs a n d) (hn:n<a+2*bs) (ha:a≤n) (hs:SortedIn lt a n d):Blks lt (2*bs) n d:=by
 intro x hx
 by_cases e:x=a
 ·subst e;rw[Nat.min_eq_right (by omega)];exact hs
 ·rcases Nat.lt_or_ge x a with hlt | hge
  ·have:=dvd_next hx hd hlt
   rw[Nat.min_eq_left (by omega)]
   exact h.1 x hx hlt
  ·have:=dvd_next hd hx (by omega)
   intro i j hi hij hj
   omega
def Firsts (lt:α→α→Bool) (bs a:Nat) (d:Array α):Prop:=∀ x,bs ∣ x→x<a→SortedIn lt x (x+bs) d
theorem firsts_step {bs a:Nat} {d d':Array α} (hd:bs ∣ a) (h:Firsts lt bs a d) (p:PermIn a (a+bs) d d') (hs:SortedIn lt a (a+bs) d'):Firsts lt bs (a+bs) d':=by
 intro x hx hxa
 by_cases e:x=a
 ·subst e;exact hs
 ·have hlt:x<a:=by
   apply Nat.lt_of_not_le
   intro hc
   have:=dvd_next hd hx (by omega)
   omega
  exact sorted_off (h x hx hlt) p (.inl (dvd_next hx hd hlt))
theorem firsts_end {bs a n:Nat} {d d':Array α} (hd:bs ∣ a) (h:Firsts lt bs a d) (ha:a≤n) (hn:n<a+bs) (p:PermIn a n d d') (hs:SortedIn lt a n d'):Blks lt bs n d':=by
 intro x hx
 by_cases e:x=a
 ·subst e;rw[Nat.min_eq_right (by omega)];exact hs
 ·rcases Nat.lt_or_ge x a with hlt | hge
  ·have:=dvd_next hx hd hlt
   rw[Nat.min_eq_left (by omega)]
   exact sorted_off (h x hx hlt) p (.inl this)
  ·have:=dvd_next hd hx (by omega)
   intro i j hi hij hj
   omega
theorem blks_all {bs n:Nat} {d:Array α} (h:Blks lt bs n d) (hn:n≤bs):SortedIn lt 0 n d:=by
 have:=h 0 (Nat.dvd_zero _)
 rwa [Nat.zero_add,Nat.min_eq_right hn] at this
theorem half_two {bs a n:Nat} {d:Array α} (hd:2*bs ∣ a) (h:Half lt bs a n d):SortedIn lt a (min (a+bs) n) d∧SortedIn lt (a+bs) (min (a+bs+bs) n) d:=by
 have h1:bs ∣ a:=Nat.dvd_trans (Nat.dvd_mul_left bs 2) hd
 exact⟨h.2 a h1 (Nat.le_refl _),h.2 _ (Nat.dvd_add h1 (Nat.dvd_refl _)) (by omega)⟩
/-! ### The two searches in the middle -/
end Go.Proofs.YtmagoiniahpofaaGreat
namespace Go.Proofs.YtmagoiniahpofaaGreat
open Go.Sort
variable {α:Type} [Inhabited α] {lt:α→α→Bool}
theorem permIn_get {a b:Nat} {d d':Array α} (h:PermIn a b d d') (hb:b≤d.size) {k:Nat} (ha:a≤k) (hk:k<b):∃ j,a≤j∧j<b∧d'[k]! =d[j]! :=by
 have hs:=h.1
 have e1:(d'.extract a b).toList[k-a]? =some d'[k]! :=by
  have e2:a+(k-a)=k:=by omega
  rw[Array.getElem?_toList,Array.getElem?_extract_of_lt (by omega)]
  simp only[e2]
  rw[getElem!_pos d' k (by omega)]
 have h1:d'[k]! ∈ (d.extract a b).toList:=(h.2.2.mem_iff).1 (List.mem_of_getElem? e1)
 obtain⟨j,hj⟩:=List.mem_iff_getElem?.1 h1
 rw[Array.getElem?_toList] at hj
 have hjl:=(Array.getElem?_eq_some_iff.1 hj).1
 rw[Array.size_extract] at hjl
 rw[Array.getElem?_extract_of_lt (by omega)] at hj
 refine⟨a+j,by omega,by omega,?_⟩
 rw[getElem!_pos d (a+j) (by omega)]
 exact (Option.some.inj hj).symm
theorem rot_skip {s m e:Nat} (d:Array α) (h:¬ (s<m∧m<e)) (h1:s≤m) (h2:m≤e):Rot s m e d d:=by
 refine⟨permIn_refl _ _ _,fun k k1 k2=> ?_,fun k k1 k2=> ?_⟩
 ·congr 1;omega
 ·congr 1;omega
theorem merge_end {a mid b:Nat} {d1 d2 d3:Array α} (ham:a≤mid) (hmb:mid≤b) (hsz:b≤d1.size) (p2:PermIn a mid d1 d2) (s2:SortedIn lt a mid d2) (p3:PermIn mid b d2 d3) (s3:SortedIn lt mid b d3)
  (hx:∀ x y,a≤x→x<mid→mid≤y→y<b→lt d1[y]! d1[x]! =false):PermIn a b d1 d3∧SortedIn lt a b d3:=by
 have hs2:=p2.1
 refine⟨permIn_trans _ _ _ _ _ (permIn_mono d1 d2 a mid a b (Nat.le_refl _) hmb hsz p2) (permIn_mono d2 d3 mid b a b ham (Nat.le_refl _) (by omega) p3),sorted_join (sorted_off s2 p3 (.inl (Nat.le_refl _))) s3 fun x y hx1 hx2 hy1 hy2=> ?_⟩
 obtain⟨y',h1,h2,e1⟩:=permIn_get p3 (by omega) hy1 hy2
 obtain⟨x',h3,h4,e2⟩:=permIn_get p2 (by omega) hx1 hx2
 rw[e1,p3.2.1 x (.inl hx2),e2,p2.2.1 y' (.inr h1)]
 exact hx _ _ h3 h4 h1 h2
structure SrL (lt:α→α→Bool) (a m b i j:Nat) (d:Array α):Prop where
 i0:m≤i
 ij:i≤j
 jb:j≤b
 lo:∀ h,m≤h→h<i→lt d[h]! d[a]! =true
 hi:∀ h,j≤h→h<b→lt d[h]! d[a]! =false
theorem SrL.start (a:Nat) {m b:Nat} (d:Array α) (h:m≤b):SrL lt a m b m b d:=⟨Nat.le_refl _,h,Nat.le_refl _,fun _ _ _=>by omega,fun _ _ _=>by omega⟩
theorem SrL.up (hO:SWO lt) {a m b i j h:Nat} {d:Array α} (S:SrL lt a m b i j d) (s:SortedIn lt m b d) (h1:i≤h) (h2:h<j) (hc:lt d[h]! d[a]! =true):SrL lt a m b (h+1) j d:=by
 obtain⟨i0,ij,jb,lo,hi⟩:=S
 exact⟨by omega,by omega,jb,fun x x1 x2=>less_down hO (sorted_le hO s x1 (by omega) (by omega)) hc,hi⟩
theorem SrL.down (hO:SWO lt) {a m b i j h:Nat} {d:Array α} (S:SrL lt a m b i j d) (s:SortedIn lt m b d) (h1:i≤h) (h2:h<j) (hc:lt d[h]! d[a]! =false):SrL lt a m b i h d:=by
 obtain⟨i0,ij,jb,lo,hi⟩:=S
 exact⟨i0,h1,by omega,lo,fun x x1 x2=>hO.ntrans _ _ _ (sorted_le hO s (by omega) x1 x2) hc⟩
structure SrR (lt:α→α→Bool) (a m i j:Nat) (d:Array α):Prop where
 i0:a≤i
 ij:i≤j
 jb:j≤m
 lo:∀ h,a≤h→h<i→lt d[m]! d[h]! =false
 hi:∀ h,j≤h→h<m→lt d[m]! d[h]! =true
theorem SrR.start {a m:Nat} (d:Array α) (h:a≤m):SrR lt a m a m d:=⟨Nat.le_refl _,h,Nat.le_refl _,fun _ _ _=>by omega,fun _ _ _=>by omega⟩
theorem SrR.up (hO:SWO lt) {a m i j h:Nat} {d:Array α} (S:SrR lt a m i j d) (s:SortedIn lt a m d) (h1:i≤h) (h2:h<j) (hc:lt d[m]! d[h]! =false):SrR lt a m (h+1) j d:=by
 obtain⟨i0,ij,jb,lo,hi⟩:=S
 exact⟨by omega,by omega,jb,fun x x1 x2=>hO.ntrans _ _ _ hc (sorted_le hO s x1 (by omega) (by omega)),hi⟩
theorem SrR.down (hO:SWO lt) {a m i j h:Nat} {d:Array α} (S:SrR lt a m i j d) (s:SortedIn lt a m d) (h1:i≤h) (h2:h<j) (hc:lt d[m]! d[h]! =true):SrR lt a m i h d:=by
 obtain⟨i0,ij,jb,lo,hi⟩:=S
 refine⟨i0,h1,by omega,lo,fun x x1 x2=> ?_⟩
 cases hx:lt d[m]! d[x]! with
 |true=>rfl
 |false=>rw[hO.ntrans _ _ _ hx (sorted_le hO s (by omega) x1 x2)] at hc;cases hc
structure MidI (lt:α→α→Bool) (s0 r0 s r p:Nat) (d:Array α):Prop where
 s0s:s0≤s
 sr:s≤r
 rr0:r≤r0
 lo:s=s0∨(s0<s∧lt d[p-(s-1)]! d[s-1]! =false)
 hi:r=r0∨lt d[p-r]! d[r]! =true
theorem MidI.start {s0 r0:Nat} (p:Nat) (d:Array α) (h:s0≤r0):MidI lt s0 r0 s0 r0 p d:=⟨Nat.le_refl _,h,Nat.le_refl _,.inl rfl,.inl rfl⟩
theorem MidI.up {s0 r0 s r p c:Nat} {d:Array α} (h:MidI lt s0 r0 s r p d) (h1:s≤c) (h2:c<r) (hc:lt d[p-c]! d[c]! =false):MidI lt s0 r0 (c+1) r p d:=
 ⟨by have:=h.s0s;omega,by omega,h.rr0,.inr ⟨by have:=h.s0s;omega,by rwa [Nat.add_sub_cancel]⟩,h.hi⟩
theorem MidI.down {s0 r0 s r p c:Nat} {d:Array α} (h:MidI lt s0 r0 s r p d) (h1:s≤c) (h2:c<r) (hc:lt d[p-c]! d[c]! =true):MidI lt s0 r0 s c p d:=
 ⟨h.s0s,h1,by have:=h.rr0;omega,h.lo,.inr hc⟩
def midS (a m b mid:Nat):Nat:=if mid<m then mid+m-b else a
def midR (m mid:Nat):Nat:=if mid<m then mid else m
theorem mid_end (hO:SWO lt) {a m b mid s:Nat} {d:Array α} (hmid:mid=(a+b)/2) (s1:SortedIn lt a m d) (h:MidI lt (midS a m b mid) (midR m mid) s s (mid+m-1) d):Mid lt a m b mid s d:=by
 obtain⟨g1,g2,g3,g4,g5⟩:=h
 have b1:a≤midS a m b mid:=by unfold midS;split<;>omega
 refine⟨fun c ha hcs hcm hb=> ?_,fun c hsc hcm hm=> ?_⟩
 ·rcases g4 with g4 | ⟨g4,g6⟩
  ·exfalso
   subst g4
   unfold midS at hcs hb
   by_cases hc:mid<m
   ·rw[if_pos hc] at hb;omega
   ·rw[if_neg hc] at hcs;omega
  ·have e:mid+m-1-(s-1)=mid+m-s:=by omega
   rw[e] at g6
   have hsm:s-1<m:=by unfold midR at g3;split at g3<;>omega
   exact hO.ntrans _ _ _ g6 (sorted_le hO s1 ha (by omega) hsm)
 ·rcases g5 with g5 | g5
  ·exfalso
   rw[g5] at hm hsc
   unfold midR at hm hsc
   by_cases hc:mid<m
   ·rw[if_pos hc] at hm;omega
   ·rw[if_neg hc] at hsc;omega
  ·cases hx:lt d[mid+m-1-s]! d[c]! with
   |true=>rfl
   |false=>rw[hO.ntrans _ _ _ hx (sorted_le hO s1 (by omega) hsc hcm)] at g5;cases g5
theorem mid_bounds {a m b mid s:Nat} (hmid:mid=(a+b)/2) (g1:midS a m b mid≤s) (g3:s≤midR m mid):a≤s∧s≤m∧mid+m≤b+s∧s≤mid:=by
 unfold midS at g1
 unfold midR at g3
 by_cases hc:mid<m
 ·rw[if_pos hc] at g1 g3;omega
 ·rw[if_neg hc] at g1 g3;omega
theorem mid_le {a m b mid:Nat} (ham:a<m) (hmb:m<b) (hmid:mid=(a+b)/2):midS a m b mid≤midR m mid:=by
 unfold midS midR
 split<;>omega
theorem mid_at {a m b mid c:Nat} (ham:a<m) (hmb:m<b) (hmid:mid=(a+b)/2) (g1:midS a m b mid≤c) (g3:c<midR m mid):a≤c∧c<b∧c≤mid+m-1∧mid+m-1-c<b:=by
 unfold midS at g1
 unfold midR at g3
 by_cases hc:mid<m
 ·rw[if_pos hc] at g1 g3;omega
 ·rw[if_neg hc] at g1 g3;omega
end Go.Proofs.YtmagoiniahpofaaGreat
