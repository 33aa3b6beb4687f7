/-
  split.Of: its rows from round to round.
-/
import Derived.Test.YtmagoiniahpofaaGreatSpE
import Derived.Test.YtmagoiniahpofaaGreatSyE
namespace Go.Proofs.YtmagoiniahpofaaGreat
open Go Go.RowKit
theorem zBx_eq:zBx=[.v (.slice none 0 0),.f,.v (.slice none 0 0),.f,.v (.slice none 0 0),.f,.v (.slice none 0 0),.f,.v (.slice none 0 0),.f,.v (.slice none 0 0),.f,.v (.slice none 0 0),.f,.v (.slice none 0 0),.f]:=by kernel_rfl
theorem bx_cl (l:List Sq) (s n j:Nat):(if j<n then sqC ((bxL l).getD j sq0) s else zBx).all Cell.cl=true:=by
 split
 ·exact sqC_cl _ _
 ·rw[zBx_eq];rfl
theorem bxB0 (l:List Sq) (s:Nat):ABle (ABlk.row 64 16 l.length fun _=>[.v (.slice none 0 0),.f,.v (.slice none 0 0),.f,.v (.slice none 0 0),.f,.v (.slice none 0 0),.f,.v (.slice none 0 0),.f,.v (.slice none 0 0),.f,.v (.slice none 0 0),.f,.v (.slice none 0 0),.f]) (ABlk.row 64 16 l.length fun j=>if j<0 then sqC ((bxL l).getD j sq0) s else zBx):=
 ABle.row rfl (fun i _=>by rw[if_neg (Nat.not_lt_zero i),zBx_eq];exact CsLe.refl _) (fun i _=>bx_cl l s 0 i)
theorem bxL_at {l:List Sq} {n:Nat} (h:n<l.length):(bxL l).getD n sq0=boxQ (l.getD n sq0):=by simp[bxL,List.getD,h]
theorem bxL_len (l:List Sq):(bxL l).length=l.length:=by simp[bxL]
theorem bxB1 {l:List Sq} {s n:Nat} (hn:n<l.length):ABle (ABlk.row 64 16 l.length fun j=>if j=n then sqC (boxQ (l.getD n sq0)) s++List.drop (0+(sqC (boxQ (l.getD n sq0)) s).length) (if n<n then sgE (bxL l) s n else zBx) else if j<n then sqC ((bxL l).getD j sq0) s else zBx) (ABlk.row 64 16 l.length fun j=>if j<n+1 then sqC ((bxL l).getD j sq0) s else zBx):=by
 refine ABle.row rfl (fun j _=> ?_) (fun j _=>bx_cl l s (n+1) j)
 show CsLe (if j=n then _ else _) _
 split
 ·rename_i e
  subst e
  rw[if_pos (Nat.lt_succ_self j),bxL_at hn,if_neg (Nat.lt_irrefl j),zBx_eq]
  have:∀ t:Sq,sqC t s++List.drop (0+(sqC t s).length) ([.v (.slice none 0 0),.f,.v (.slice none 0 0),.f,.v (.slice none 0 0),.f,.v (.slice none 0 0),.f,.v (.slice none 0 0),.f,.v (.slice none 0 0),.f,.v (.slice none 0 0),.f,.v (.slice none 0 0),.f]:List Cell)=sqC t s:=fun t=>rfl
  rw[this]
  exact CsLe.refl _
 ·rename_i e
  by_cases h:j<n
  ·rw[if_pos h,if_pos (by omega)];exact CsLe.refl _
  ·rw[if_neg h,if_neg (by omega)];exact CsLe.refl _
theorem ctB0 (l:List Sq) (hv:Nat→Value):ABle (ABlk.row 43 1 l.length fun _=>[Cell.v (.slice none 0 0)]) (ABlk.row 43 1 l.length fun j=>if j<0 then [Cell.fh 800 j (hv j)] else [Cell.v (.slice none 0 0)]):=
 ABle.row rfl (fun i _=>by rw[if_neg (Nat.not_lt_zero i)];exact CsLe.refl _) (fun i _=>by rw[if_neg (Nat.not_lt_zero i)];rfl)
theorem ctB1 {l:List Sq} {n:Nat} {hv:Nat→Value} {v:Value} : ABle (ABlk.rowN 43 1 l.length (fun j=>List.map (fun a=>frzC0 50 (Cell.v v) a) (if j=n then Cell.hd 50::List.drop (0+[Cell.hd 50].length) (if n<n then [Cell.fh 800 n (hv n)] else [Cell.v (.slice none 0 0)]) else if j<n then [Cell.fh 800 j (hv j)] else [Cell.v (.slice none 0 0)])) []) (ABlk.row 43 1 l.length fun j=>if j<n+1 then [Cell.fh 800 j (if j=n then v else hv j)] else [Cell.v (.slice none 0 0)]):=by
 refine ABle.rowN rfl (fun j _=> ?_) (fun j _=> ?_)
 ·show CsLe (List.map _ (if j=n then _ else _)) _
  split
  ·rename_i e
   subst e
   rw[if_pos (Nat.lt_succ_self j),if_neg (Nat.lt_irrefl j)]
   exact CsLe.cons (CLe.fh rfl) CsLe.nil
  ·rename_i e
   by_cases h:j<n
   ·rw[if_pos h,if_pos (by omega)];exact CsLe.refl _
   ·rw[if_neg h,if_neg (by omega)];exact CsLe.refl _
 ·split<;>rfl
theorem rsB0 (l:List Sq):ABle (ABlk.row 3 1 l.length fun _=>[Cell.v (.int .i64 0)]) (ABlk.row 3 1 l.length fun j=>[Cell.v (.int .i64 (if j<0 then (j:Int) else 0))]):=
 ABle.row rfl (fun i _=>by rw[if_neg (Nat.not_lt_zero i)];exact CsLe.refl _) (fun _ _=>rfl)
theorem rsB1 {l:List Sq} {n:Nat} : ABle (ABlk.row 3 1 l.length fun j=>if j=n then [Cell.v (.int .i64 (n:Int))] else [Cell.v (.int .i64 (if j<n then (j:Int) else 0))]) (ABlk.row 3 1 l.length fun j=>[Cell.v (.int .i64 (if j<n+1 then (j:Int) else 0))]):=by
 refine ABle.row rfl (fun j _=> ?_) (fun _ _=>rfl)
 show CsLe (if j=n then _ else _) _
 split
 ·rename_i e;subst e;rw[if_pos (Nat.lt_succ_self j)];exact CsLe.refl _
 ·rename_i e
  by_cases h:j<n
  ·rw[if_pos h,if_pos (by omega)];exact CsLe.refl _
  ·rw[if_neg h,if_neg (by omega)];exact CsLe.refl _
theorem fmB0 {T:TypeId} {sz:Nat} {hc:Nat→Option Cell} {len:Nat→Nat} {e:Nat→Nat→List Cell} : ABle (ABlk.fam T sz 0 (fun _=>none) (fun _=>0) (fun _ _=>[]) []) (ABlk.fam T sz 0 hc len e []):=
 ABle.fam rfl (fun i hi=>absurd hi (Nat.not_lt_zero i)) (fun i hi=>absurd hi (Nat.not_lt_zero i)) (fun i _j hi=>absurd hi (Nat.not_lt_zero i))
theorem ends_at (l:List Sq) (s n a:Nat) (ha:a<2):[ptC (l.getD n sq0).1 s,ptC (l.getD n sq0).2 s].getD a []=ptC ([(l.getD n sq0).1,(l.getD n sq0).2].getD a (0,0)) s:=by
 match a,ha with
 |0,_=>rfl
 |1,_=>rfl
theorem fmB1 {l:List Sq} {s n:Nat} {hv:Nat→Value} {v:Value} : ABle (ABlk.fam 39 8 (n+1) (fun j=>Option.map (fun a=>frzC0 50 (Cell.v v) a) (if j=n then some (Cell.hd 50) else some (Cell.fh 800 j (hv j)))) (fun j=>if j=n then 2 else 2) (fun j a=>(if j=n then fun i=>[ptC (l.getD n sq0).1 s,ptC (l.getD n sq0).2 s].getD i [] else ptsE [(l.getD j sq0).1,(l.getD j sq0).2] s) a) [])
  (ABlk.fam 39 8 (n+1) (fun j=>some (Cell.fh 800 j (if j=n then v else hv j))) (fun _=>2) (fun j a=>ptC ([(l.getD j sq0).1,(l.getD j sq0).2].getD a (0,0)) s) []):=by
 refine ABle.fam rfl (fun j _=> ?_) (fun _ _ _=>by split<;>rfl) (fun j a _ _ ha=>⟨?_,ptC_cl _ _⟩)
 ·by_cases e:j=n
  ·simp only[if_pos e,Option.map_some]
   exact⟨CLe.fh rfl,rfl⟩
  ·simp only[if_neg e,Option.map_some]
   exact⟨CLe.refl _,rfl⟩
 ·by_cases e:j=n
  ·subst e
   simp only[if_pos] at ha ⊢
   rw[ends_at l s j a (by simpa using ha)]
   exact CsLe.refl _
  ·simp only[if_neg e]
   exact CsLe.refl _
theorem fmB2 {l:List Sq} {s t n:Nat} {hv:Nat→Value} (h:s≤t):ABle (ABlk.fam 39 8 n (fun j=>some (Cell.fh 800 j (hv j))) (fun _=>2) (fun j a=>ptC ([(l.getD j sq0).1,(l.getD j sq0).2].getD a (0,0)) s) [])
  (ABlk.fam 39 8 n (fun j=>some (Cell.fh 800 j (hv j))) (fun j=>[(l.getD j sq0).1,(l.getD j sq0).2].length) (fun j a=>ptC ([(l.getD j sq0).1,(l.getD j sq0).2].getD a (0,0)) t) []):=
 ABle.fam rfl (fun _ _=>⟨CLe.refl _,rfl⟩) (fun _ _ _=>rfl) (fun _ _ _ _ _=>⟨CsLe.q2 ⟨⟨rfl,h⟩,rfl,h⟩,ptC_cl _ _⟩)
theorem fmB3 {S n i k:Nat} {C:Nat→List Pq} {hv:Nat→Value} {v v':Value} {p:Pq} (hik:i≠k):ABle (ABlk.fam 39 8 n (fun j=>Option.map (fun a=>frzC0 129 (Cell.v v') a) (Option.map (fun a=>frzC0 122 (Cell.v v) a) (if j=k then some (Cell.hd 129) else if j=i then some (Cell.hd 122) else some (Cell.fh 800 j (hv j))))) (fun j=>if j=k then (C k).length+1 else if j=i then (C i).length+1 else (C j).length)
   (fun j a=>if j=k then (if a<(C k).length then ptC ((C k).getD a (0,0)) S else [ptC p S].getD (a-(C k).length) []) else if j=i then (if a<(C i).length then ptC ((C i).getD a (0,0)) S else [ptC p S].getD (a-(C i).length) []) else ptC ((C j).getD a (0,0)) S) [])
  (ABlk.fam 39 8 n (fun j=>some (Cell.fh 800 j (if j=k then v' else if j=i then v else hv j))) (fun j=>(pushQ C i k p j).length) (fun j a=>ptC ((pushQ C i k p j).getD a (0,0)) S) []):=by
 have app:∀ (c:List Pq) (a:Nat),a<c.length+1→CsLe (if a<c.length then ptC (c.getD a (0,0)) S else [ptC p S].getD (a-c.length) []) (ptC ((c++[p]).getD a (0,0)) S):=fun c a ha=>by
  by_cases h:a<c.length
  ·rw[if_pos h]
   have:(c++[p]).getD a (0,0)=c.getD a (0,0):=by simp[List.getD,List.getElem?_append_left h]
   rw[this]
   exact CsLe.refl _
  ·have:a=c.length:=by omega
   subst this
   rw[if_neg h,Nat.sub_self]
   have:(c++[p]).getD c.length (0,0)=p:=by simp[List.getD]
   rw[this]
   exact CsLe.refl _
 refine ABle.fam rfl (fun j _=> ?_) (fun j _ _=> ?_) (fun j a _ _ ha=>⟨?_,ptC_cl _ _⟩)
 ·by_cases e:j=k
  ·simp only[if_pos e,Option.map_some]
   exact⟨CLe.fh rfl,rfl⟩
  ·by_cases e':j=i
   ·simp only[if_neg e,if_pos e',Option.map_some]
    exact⟨CLe.fh rfl,rfl⟩
   ·simp only[if_neg e,if_neg e',Option.map_some]
    exact⟨CLe.refl _,rfl⟩
 ·unfold pushQ
  by_cases e:j=k
  ·simp[e]
  ·by_cases e':j=i
   ·simp[e',hik]
   ·simp[e,e']
 ·unfold pushQ
  by_cases e:j=k
  ·simp only[if_pos e] at ha ⊢
   exact app _ a ha
  ·by_cases e':j=i
   ·simp only[if_neg e,if_pos e'] at ha ⊢
    exact app _ a ha
   ·simp only[if_neg e,if_neg e'] at ha ⊢
    exact CsLe.refl _
theorem ctB3 {N i k:Nat} {hv:Nat→Value} {v v':Value} : ABle (ABlk.rowN 43 1 N (fun j=>List.map (fun a=>frzC0 129 (Cell.v v') a) (List.map (fun a=>frzC0 122 (Cell.v v) a) (if j=k then Cell.hd 129::List.drop (0+[Cell.hd 129].length) [Cell.fh 800 k (hv k)] else if j=i then [Cell.hd 122] else [Cell.fh 800 j (hv j)]))) []) (ABlk.row 43 1 N fun j=>[Cell.fh 800 j (if j=k then v' else if j=i then v else hv j)]):=by
 refine ABle.rowN rfl (fun j _=> ?_) (fun _ _=>rfl)
 show CsLe (List.map _ (List.map _ (if j=k then _ else _))) _
 by_cases e:j=k
 ·simp only[if_pos e]
  exact CsLe.cons (CLe.fh rfl) CsLe.nil
 ·by_cases e':j=i
  ·simp only[if_neg e,if_pos e']
   exact CsLe.cons (CLe.fh rfl) CsLe.nil
  ·simp only[if_neg e,if_neg e']
   exact CsLe.refl _
theorem ctB2 {N:Nat} {hv:Nat→Value} : ABle (ABlk.row 43 1 N fun j=>if j<N then [Cell.fh 800 j (hv j)] else [Cell.v (.slice none 0 0)]) (ABlk.row 43 1 N fun j=>[Cell.fh 800 j (hv j)]):=
 ABle.row rfl (fun j hj=>by rw[if_pos hj];exact CsLe.refl _) (fun _ _=>rfl)
theorem fmB4 {N:Nat} {C:Nat→List Pq} {hv:Nat→Value} {S:Nat} : ABle (ABlk.fam 39 8 N (fun j=>some (Cell.fh 800 j (hv j))) (fun j=>(C j).length) (fun j a=>ptC ((C j).getD a (0,0)) S) []) (ABlk.fam 39 8 N (fun j=>if j<0 then none else some (Cell.fh 800 j (hv j))) (fun j=>(C j).length) (fun j a=>ptC ((C j).getD a (0,0)) S) []):=
 ABle.fam rfl (fun j _=>by simp only[if_neg (Nat.not_lt_zero j)];exact⟨CLe.refl _,rfl⟩) (fun _ _ _=>rfl) (fun _ _ _ _ _=>⟨CsLe.refl _,ptC_cl _ _⟩)
theorem fmB5 {N m:Nat} {C:Nat→List Pq} {hv:Nat→Value} {S:Nat} : ABle (ABlk.fam 39 8 N (fun j=>if j=m then none else if j<m then none else some (Cell.fh 800 j (hv j))) (fun j=>(C j).length) (fun j a=>ptC ((C j).getD a (0,0)) S) []) (ABlk.fam 39 8 N (fun j=>if j<m+1 then none else some (Cell.fh 800 j (hv j))) (fun j=>(C j).length) (fun j a=>ptC ((C j).getD a (0,0)) S) []):=by
 refine ABle.fam rfl (fun j _=> ?_) (fun _ _ _=>rfl) (fun _ _ _ _ _=>⟨CsLe.refl _,ptC_cl _ _⟩)
 by_cases e:j=m
 ·simp only[if_pos e,if_pos (show j<m+1 by omega)]
 ·by_cases e':j<m
  ·simp only[if_neg e,if_pos e',if_pos (show j<m+1 by omega)]
  ·simp only[if_neg e,if_neg e',if_neg (show ¬ j<m+1 by omega)]
   exact⟨CLe.refl _,rfl⟩
theorem fmB6 {N m:Nat} {C:Nat→List Pq} {hv:Nat→Value} {S:Nat} : ABle (ABlk.fam 39 8 N (fun j=>Option.map (fun a=>renC0 172 900 a) (if j<m then none else some (Cell.fh 800 j (hv j)))) (fun j=>(C j).length) (fun j a=>ptC ((C j).getD a (0,0)) S) []) (ABlk.fam 39 8 N (fun j=>if j<m then none else some (Cell.fh 800 j (hv j))) (fun j=>(C j).length) (fun j a=>ptC ((C j).getD a (0,0)) S) []):=by
 refine ABle.fam rfl (fun j _=> ?_) (fun _ _ _=>rfl) (fun _ _ _ _ _=>⟨CsLe.refl _,ptC_cl _ _⟩)
 by_cases e:j<m
 ·simp only[if_pos e,Option.map_none]
 ·simp only[if_neg e,Option.map_some]
  exact⟨CLe.refl _,rfl⟩
theorem ints_E (N:Nat):(intsL N fun j=>[Cell.v (.int .i64 (if j<N then (j:Int) else 0))])=(List.range N).map fun i:Nat=>(i:Int):=by
 unfold intsL
 refine List.map_congr_left fun j hj=> ?_
 simp only[intAt,if_pos (List.mem_range.1 hj)]
theorem bxs_E (l:List Sq) (s:Nat):(sgsL l.length fun j=>if j<l.length then sqC ((bxL l).getD j sq0) s else zBx)=bxL l:=by
 have h:=sgsL_E (l:=bxL l) (s:=s)
 rw[bxL_len] at h
 refine Eq.trans ?_ h
 unfold sgsL
 refine List.map_congr_left fun j hj=> ?_
 simp only[sgAt,if_pos (List.mem_range.1 hj),sgE]
theorem sgs_row {T:TypeId} {O:List Sq} {t:Sq} {S:Nat} : ABle (ABlk.row T 16 (O.length+1) fun j=>if j<O.length then sqC (O.getD j sq0) S else [qsC [(t.1.1,S),(t.1.2,S),(t.2.1,S),(t.2.2,S)]].getD (j-O.length) []) (ABlk.row T 16 (O++[t]).length (sgE (O++[t]) S)):=by
 refine ABle.row (by simp) (fun j hj=> ?_) (fun j _=>sqC_cl _ _)
 show CsLe (if j<O.length then _ else _) _
 by_cases h:j<O.length
 ·rw[if_pos h]
  have:(O++[t]).getD j sq0=O.getD j sq0:=by simp[List.getD,List.getElem?_append_left h]
  unfold sgE
  rw[this]
  exact CsLe.refl _
 ·have:j=O.length:=by omega
  subst this
  rw[if_neg h,Nat.sub_self]
  have:(O++[t]).getD O.length sq0=t:=by simp[List.getD]
  unfold sgE
  rw[this]
  exact CsLe.refl _
theorem bxC {l:List Sq} {s n:Nat} (hn:n=l.length):CLe (.row 16 l.length fun j=>if j<l.length then sqC ((bxL l).getD j sq0) s else zBx) (.row 16 n (sgE (bxL l) s)):=by
 subst hn
 exact CLe.row rfl (fun j hj=>by rw[if_pos hj];exact CsLe.refl _) (fun j _=>⟨bx_cl l s l.length j,sqC_cl _ _⟩)
theorem sgs_nil {T:TypeId} {S:Nat} : ABle (ABlk.row T 16 0 fun _=>[]) (ABlk.row T 16 0 (sgE [] S)):=
 ABle.row rfl (fun i hi=>absurd hi (Nat.not_lt_zero i)) (fun i hi=>absurd hi (Nat.not_lt_zero i))
end Go.Proofs.YtmagoiniahpofaaGreat
namespace Go.Proofs.YtmagoiniahpofaaGreat
open Go Go.RowKit
set_option maxHeartbeats 4000000 in
set_option maxRecDepth 100000 in
theorem of_true (l:List Sq) (s:Nat) (hs:s≤1500):vc Tryz.prog (lk (gSp s)) Tryz.f5.ntmps (ofInv l s) (Tryz.f5.body.getD .skip) ⟨entryS [.s false [.row 16 l.length (sgE l s)]] 0,[]⟩ (retO Tryz.prog Tryz.f5.results.toList [90] (.tup [(false,[.hd 90]),(false,[.v (errV l.length)])]) [(90,.row 41 16 (ofP l).length (sgE (ofP l) (mS s)))]):=by
 rw[of_vc]
 have hb1:mx4 s s s s=s:=by unfold mx4;omega
 have hb2:mx2 s≤50000:=by unfold mx2;omega
 have hb3:mS s≤50000:=by unfold mS;omega
 have hb4:mx4 (mx2 s) (mx2 s) (mx2 s) (mx2 s)=mx2 s:=by unfold mx4;omega
 have hb5:max8 s s s s s s s s=s:=by unfold max8;omega
 simp only[SmA,SmB,SmC,cs_refl,av_refl,ab_refl,true_and,and_true,decide_eq_true_eq,decide_eq_false_iff_not,Int.toNat_natCast,hb1,hb4,hb5,hb2,hb3,hs,Nat.max_self]
 refine⟨fun hlong=> ?_,fun hshort=> ?_⟩
 ·have e:ofP l=[]:=ofP_eq (IsOf.long (by omega))
  have e2:errV l.length= .int .i64 2:=by unfold errV;rw[if_pos (by omega)]
  rw[e,e2]
  exact⟨AVle.refl _,sgs_nil⟩
 ·have hn:l.length≤20000:=by omega
  have wr:∀ n:Nat,n≤10000000000→IntKind.i64.wrap ((n:Int)+1)=((n+1:Nat):Int):=fun n h=>by rw[IntKind.wrap_i64];omega
  have wm:∀ n:Nat,1≤n→n≤10000000000→IntKind.i64.wrap ((n:Int)-1)=((n-1:Nat):Int):=fun n h h'=>by rw[IntKind.wrap_i64];omega
  refine⟨by omega,by omega,by omega,by omega,by omega,by omega,⟨⟨[],0,0,0,fun _=>[],fun _=> .bool false,[],[]⟩,Nat.zero_le _,AVle.int rfl,bxB0 l _,ctB0 l _,rsB0 l,fmB0⟩,?_⟩
  rintro⟨r,n,m0,q0,C,hv,O0,c0⟩ hi
  dsimp only at hi ⊢
  refine⟨fun hlt=> ?_,fun hge=> ?_⟩
  ·have hlt':n<l.length:=by omega
   exact⟨by omega,by omega,by omega,hlt',by omega,hlt',by omega,hlt',fun v=>⟨⟨r,n+1,m0,q0,C,fun j=>if j=n then v else hv j,O0,c0⟩,hlt',by show l.length-(n+1)<l.length-n;omega,AVle.int (wr n (by omega)),bxB1 hlt',ctB1,rsB1,fmB1⟩⟩
  ·have en:n=l.length:=by omega
   subst en
   clear hge hi hshort
   simp only[ints_E,bxs_E]
   refine⟨fun j hj=> ?_,fun x hx=> ?_,?_,by omega,?_⟩
   ·rw[if_pos hj]
    have:((List.range l.length).map fun i:Nat=>(i:Int)).getD j 0=(j:Int):=by simp[List.getD,hj]
    rw[this]
    exact CsLe.refl _
   ·have hx':x∈(List.range l.length).map fun i:Nat=>(i:Int):=hx
    simp only[List.mem_map,List.mem_range] at hx'
    obtain⟨i,h1,h2⟩:=hx'
    omega
   ·exact AVle.one (bxC (sgsL_len _ _))
   ·rintro e ⟨r1,hp,hw,he⟩
    have he':e=intsE r1:=he
    subst he'
    clear he
    have hr1:Ris l r1:=⟨hp,hw⟩
    refine⟨⟨⟨r1,0,0,0,fun j=>[(l.getD j sq0).1,(l.getD j sq0).2],hv,[],[]⟩,⟨Nat.zero_le _,hr1,Cuts.start l r1⟩,⟨AVle.refl _,AVle.refl _,AVle.int rfl⟩,ABle.st (CsLe.cons (bxC rfl) CsLe.nil),ctB2,fmB2 (by unfold mS;omega)⟩,?_⟩
    clear hp hw hr1 r1
    rintro⟨r1,n,m1,q1,C1,hv1,O1,c1⟩ ⟨h1,h2,h3⟩
    dsimp only at h1 h2 h3 ⊢
    refine⟨fun hlt=> ?_,fun hge=> ?_⟩
    ·have hlt':n<l.length:=by omega
     have hw:=wr n (by omega)
     simp only[hw,Int.toNat_natCast]
     have bnd:∀ a,a<l.length→∀ r,Ris l r→0≤r.getD a 0∧r.getD a 0<(l.length:Int):=fun a ha r hr=>by
      have:=ris_lt hr ha
      omega
     refine⟨by omega,by omega,⟨r1,n,0,0,C1,hv1,[],[]⟩,⟨hlt',Nat.zero_le _,h2,h3⟩,⟨⟨AVle.refl _,AVle.refl _,AVle.refl _,AVle.int rfl,AVle.refl _,AVle.refl _,AVle.refl _⟩,ABle.refl _,ABle.refl _⟩,?_⟩
     clear h2 h3 hw
     rintro⟨r2,n2,m,q2,C2,hv2,O2,c2⟩ ⟨k1,k2,k3,k4⟩ hfix
     dsimp only at k1 k2 k3 k4 hfix ⊢
     subst hfix
     have hw:=wr n2 (by omega)
     have hwm:=wr m (by omega)
     have ei:n2+1+m=m+(n2+1):=by omega
     simp only[hw,hwm]
     refine⟨fun hlt3=> ?_,fun hge3=> ?_⟩
     ·have hm:m+(n2+1)<l.length:=by omega
      have B1:=bnd n2 k1 r2 k3
      have B2:=bnd (m+(n2+1)) hm r2 k3
      refine⟨by omega,B2,B1,fun hbr=>⟨⟨r2,n2+1,0,0,C2,hv2,[],[]⟩,⟨k1,k3,k4.row (by omega) fun b hb1 hb2=> ?_⟩,by show l.length-(n2+1)<l.length-n2;omega,⟨AVle.refl _,AVle.refl _,AVle.refl _⟩,ABle.refl _,ABle.refl _⟩,fun hnb=>⟨B1,B2,fun hme=> ?_,fun hme=> ?_⟩⟩
      ·exact ris_far k3 (k:=m+(n2+1)) (by omega) hb2 hbr k1
      ·have emt:mtQ l r2 n2 m=meetQ (l.getD (r2.getD n2 0).toNat sq0) (l.getD (r2.getD (m+(n2+1)) 0).toNat sq0):=by unfold mtQ rhoQ;rw[ei]
       refine⟨B1,B2,⟨r2,n2,m,0,C2,hv2,[],[]⟩,⟨(by show n2+1+m<l.length;omega),Nat.zero_le _,k3,k4⟩,⟨⟨AVle.refl _,?_,?_,AVle.int rfl,AVle.refl _,AVle.refl _,AVle.refl _,AVle.refl _,AVle.refl _,AVle.refl _,AVle.refl _⟩,ABle.refl _,ABle.refl _⟩,?_⟩
       ·show AVle _ (AV.s false [Cell.row 8 (mtQ l r2 n2 m).length (ptsE (mtQ l r2 n2 m) (mS s))])
        rw[emt]
        exact AVle.refl _
       ·show AVle _ (AV.s false [Cell.v (.int .i64 ((mtQ l r2 n2 m).length:Int))])
        rw[emt]
        exact AVle.refl _
       ·clear k3 k4 emt hme hnb B1 B2 hlt3 hw
        rintro⟨r3,n3,m3,q,C3,hv3,O3,c3⟩ ⟨j1,j2,j3,j4⟩ hfix4
        dsimp only at j1 j2 j3 j4 hfix4 ⊢
        have e3:n2=n3:=by omega
        have e4:m=m3:=by omega
        subst e3
        subst e4
        have hm2:(mtQ l r3 n2 m).length≤2:=meet_le2 _ _
        have hwq:=wr q (by omega)
        have B1:=bnd n2 k1 r3 j3
        have B2:=bnd (m+(n2+1)) hm r3 j3
        have hne:(r3.getD (m+(n2+1)) 0).toNat≠(r3.getD n2 0).toNat:=fun e=>by
         have:=ris_inj j3 hm k1 e
         omega
        simp only[hwq,hwm,hne,if_false]
        refine⟨fun hlt4=> ?_,fun hge4=> ?_⟩
        ·have hq:q<(mtQ l r3 n2 m).length:=by omega
         have hbig:∀ x,x<l.length→((C3 x).length+1)*128≤140737488355328:=fun x hx=>by
          have h8:=le_sum (fun j=>(C3 j).length) hx
          have h9:=j4.sum
          have h10:n2*20000≤20000*20000:=Nat.mul_le_mul_right _ (by omega)
          omega
         have L1:=(ris_lt j3 k1).1
         have L2:=(ris_lt j3 hm).1
         have hst:=j4.step j3 j1 hq
         rw[ei] at hst
         refine⟨by omega,B1,L1,L1,⟨by omega,hbig _ L1⟩,B2,L2,⟨L2,trivial⟩,⟨by omega,hbig _ L2⟩,B1,L1,B2,L2,fun v v'=>⟨⟨r3,n2,m,q+1,_,fun j=>if j=(r3.getD (m+(n2+1)) 0).toNat then v' else if j=(r3.getD n2 0).toNat then v else hv3 j,[],[]⟩,⟨j1,hq,j3,hst⟩,rfl,by show (mtQ l r3 n2 m).length-(q+1)<(mtQ l r3 n2 m).length-q;omega,⟨AVle.refl _,AVle.refl _,AVle.refl _,AVle.refl _,AVle.refl _,AVle.refl _,AVle.refl _,AVle.refl _,AVle.refl _,AVle.refl _,AVle.refl _⟩,ctB3,fmB3 (Ne.symm hne)⟩⟩
        ·exact⟨⟨r3,n2,m+1,0,C3,hv3,[],[]⟩,⟨k1,by show m+1≤l.length-(n2+1);omega,j3,j4.pair j1 (by omega)⟩,rfl,by show l.length-(m+1)<l.length-m;omega,⟨AVle.refl _,AVle.refl _,AVle.refl _,AVle.refl _,AVle.refl _,AVle.refl _,AVle.refl _⟩,ABle.refl _,ABle.refl _⟩
      ·have hmt:mtQ l r2 n2 m=[]:=Classical.byContradiction fun hne=>by
        have:=(meet_boxes hne).1
        rw[← bxL_at (ris_lt k3 k1).1,← bxL_at (ris_lt k3 (show n2+1+m<l.length by omega)).1,ei] at this
        have h9:meetsQ ((bxL l).getD (rhoQ r2 n2) sq0) ((bxL l).getD (rhoQ r2 (m+(n2+1))) sq0)=false:=hme
        rw[this] at h9
        cases h9
       exact⟨⟨r2,n2,m+1,0,C2,hv2,[],[]⟩,⟨k1,by show m+1≤l.length-(n2+1);omega,k3,k4.pair (by omega) (by rw[hmt];rfl)⟩,rfl,by show l.length-(m+1)<l.length-m;omega,⟨AVle.refl _,AVle.refl _,AVle.refl _,AVle.refl _,AVle.refl _,AVle.refl _,AVle.refl _⟩,ABle.refl _,ABle.refl _⟩
     ·exact⟨⟨r2,n2+1,0,0,C2,hv2,[],[]⟩,⟨k1,k3,k4.row (by omega) fun b hb1 hb2=>by omega⟩,by show l.length-(n2+1)<l.length-n2;omega,⟨AVle.refl _,AVle.refl _,AVle.refl _⟩,ABle.refl _,ABle.refl _⟩
    ·have en:n=l.length:=by omega
     subst en
     refine⟨⟨⟨[],0,0,0,C1,hv1,[],[]⟩,⟨Nat.zero_le _,h3.fin hn h2,OutQ.start C1⟩,AVle.int rfl,sgs_nil,ABle.refl _,fmB4⟩,?_⟩
     clear h1 h2 h3
     rintro⟨r2,n,m2,q2,C2,hv2,O2,c2⟩ ⟨h1,h2,h3⟩
     dsimp only at h1 h2 h3 ⊢
     refine⟨fun hlt=> ?_,fun hge=> ?_⟩
     ·have hlt':n<l.length:=by omega
      have hlen:∀ x,x<l.length→(C2 x).length≤10000000000:=fun x hx=>Nat.le_trans (le_sum (fun j=>(C2 j).length) hx) h2.sum
      simp only[ptsL_E,Nat.lt_irrefl,if_false]
      refine⟨by omega,hlt',⟨hlt',trivial⟩,fun _ _=>CsLe.refl _,by have:=hlen n hlt';omega,?_⟩
      rintro e ⟨c,hp,hs2,he⟩
      have he':e=ptsE c (mS s):=he
      subst he'
      refine⟨⟨[],n,1,0,C2,hv2,O2,c⟩,⟨hlt',h2,OutI.start h3 hp hs2 (h2.two n hlt')⟩,⟨⟨AVle.int rfl,AVle.refl _⟩,?_,ABle.refl _,ABle.refl _,fmB5⟩,?_⟩
      ·rw[← hp.length_eq]
       exact ABle.refl _
      ·clear hp hs2 h2 h3 hlen
       rintro⟨r3,n3,i,q3,C3,hv3,O3,c3⟩ ⟨j1,j2,j3⟩ hfix
       dsimp only at j1 j2 j3 hfix ⊢
       subst hfix
       have hlen:∀ x,x<l.length→(C3 x).length≤10000000000:=fun x hx=>Nat.le_trans (le_sum (fun j=>(C3 j).length) hx) j2.sum
       have h0:=hlen n3 j1
       have hpl:=j3.perm.length_eq
       have hlo:=j3.lo
       have hhi:=j3.hi
       have hw1:=wr i (by omega)
       have hw2:=wm i hlo (by omega)
       have hw3:=wr n3 (by omega)
       simp only[hw1,hw2,hw3,Int.toNat_natCast]
       refine⟨fun hlt6=> ?_,fun hge6=> ?_⟩
       ·have hi:i<c3.length:=by omega
        have hc:=cmpPq_eq (c3.getD (i-1) (0,0)) (c3.getD i (0,0))
        unfold cmpPq at hc
        have hol:O3.length+1≤10000000000:=by
         have k1:=j3.len
         have k2:=sum_succ (fun j=>(C3 j).length) n3
         have k3:=sum_mono (fun j=>(C3 j).length) (show n3+1≤l.length from j1)
         have k4:=j2.sum
         omega
        refine⟨by omega,by omega,by omega,hi,fun hne=>⟨by omega,by omega,by omega,hi,by omega,⟨[],n3,i+1,0,C3,hv3,_,c3⟩,⟨j1,j2,j3.push hi fun z=> ?_⟩,rfl,by show c3.length-(i+1)<c3.length-i;omega,⟨AVle.refl _,AVle.refl _⟩,ABle.refl _,sgs_row (t:=(c3.getD (i-1) (0,0),c3.getD i (0,0))),ABle.refl _,fmB6⟩,fun heq=>⟨⟨[],n3,i+1,0,C3,hv3,O3,c3⟩,⟨j1,j2,j3.skip hi ?_⟩,rfl,by show c3.length-(i+1)<c3.length-i;omega,⟨AVle.refl _,AVle.refl _⟩,ABle.refl _,ABle.refl _,ABle.refl _,ABle.refl _⟩⟩
        ·rw[hc.2 z] at hne
         simp at hne
        ·refine hc.1 ?_
         simpa using heq
       ·exact⟨⟨[],n3+1,0,0,C3,hv3,O3,[]⟩,⟨j1,j2,j3.fin (by omega)⟩,by show l.length-(n3+1)<l.length-n3;omega,AVle.refl _,ABle.refl _,ABle.refl _,ABle.refl _⟩
     ·have en:n=l.length:=by omega
      subst en
      have hol:O2.length≤10000000000:=Nat.le_trans h3.len h2.sum
      simp only[sgsL_E]
      refine⟨fun _ _=>CsLe.refl _,by omega,?_⟩
      rintro e ⟨O4,hp,hs2,he⟩
      have he':e=sgE O4 (mS s):=he
      subst he'
      have hl:=hp.length_eq
      have hofp:=ofP_eq (IsOf.fin hn h2.mem h3.mem hp hs2)
      have e2:errV l.length= .int .i64 0:=by unfold errV;rw[if_neg (by omega)]
      rw[← hl,hofp,e2]
      simp only[sgsL_E]
      exact⟨fun _ _=>CsLe.refl _,by omega,AVle.refl _,ABle.refl _⟩
theorem CLe.row2 {sz n n':Nat} {e e':Nat→List Cell} (h:n=n') (k:∀ i,i<n→CsLe (e i) (e' i)) (hcl:∀ i,i<n→(e' i).all Cell.cl=true):CLe (.row sz n e) (.row sz n' e'):=by
 refine⟨fun G F w v hv=> ?_⟩
 subst h
 have hv':COk F w (.row sz n e) v:=hv
 cases hv' with
 |row0=>exact GOk.of .row0
 |row vals hF hn hl hc ho=>
  refine GOk.of (.row vals hF hn (fun i hi=>by rw[← (k i hi).len];exact hl i hi) hc fun i j c hi hj=> ?_)
  have hjl:j<(e i).length:=by rw[(k i hi).len];exact (List.getElem?_eq_some_iff.1 hj).1
  have h1:=List.getElem?_eq_getElem hjl
  have h2:=((k i hi).h j _ c h1 hj).h G F w _ (GOk.of (ho i j _ hi h1))
  exact COk.of h2 (List.all_eq_true.1 (hcl i hi) c (List.mem_of_getElem? hj))
theorem gSp_ok (s:Nat):∀ p∈gSp s,∀ B,RunOK Tryz.prog False B p.1 p.2:=
 ctx_cons (boxOf_ok False) (ctx_cons (sortIx_ok False (mx2 s)) (ctx_cons (cmpC_ok False) (ctx_cons (meets_ok False) (ctx_cons meet_ok (ctx_cons (sortPt_ok False (mS s)) (ctx_cons (pcmp_ok False) (ctx_cons (sortSg_ok False (mS s)) (ctx_cons (comp_ok False (mS s)) fun p hp=>by cases hp))))))))
def szS (e:Nat→List Cell):Nat:=(sgAt e 0).2
noncomputable def ofC:Run:=fun _ avs t=>match avs with
 |[.s false [.row 16 n e]]=>some { val:=some (.tup [(false,[.hd t]),(false,[.v (errV n)])]),set:=[(t,.row 41 16 (ofP (sgsL n e)).length (sgE (ofP (sgsL n e)) (mS (szS e))))],nws:=[t],ps:=[∀ i,i<n→CsLe (e i) (sgE (sgsL n e) (szS e) i),szS e≤1500] }
 |_=>none
set_option maxRecDepth 100000 in
theorem ofC_ok (B:Nat):RunOK Tryz.prog False B 5 ofC:=by
 refine fn_ownC (c:=Tryz.f5.body.getD .skip) (by kernel_rfl) Tryz.func5 (by kernel_rfl) (by kernel_rfl) ?_ B
 intro b avs t e h hp
 unfold ofC at h
 split at h
 ·rename_i n e
  cases h
  obtain⟨hp1,hp2,_⟩:=hp
  have hl:=sgsL_len n e
  have hset1:∃ b',lk [(t,ABlk.row 41 16 (ofP (sgsL n e)).length (sgE (ofP (sgsL n e)) (mS (szS e))))] t=some b':=⟨_,by simp only[lk,Nat.beq_refl];rfl⟩
  have hvc:=of_true (sgsL n e) (szS e) hp2
  refine⟨lk (gSp (szS e)),ctx_ok (gSp_ok (szS e)),⟨{
   σ :=[]
   ρ :=[(90,t)]
   avs':=[.s false [.row 16 (sgsL n e).length (sgE (sgsL n e) (szS e))]]
   blks:=[]
   inv:=ofInv (sgsL n e) (szS e)
   val:= .tup [(false,[.hd 90]),(false,[.v (errV n)])]
   kb:=[(90,.row 41 16 (ofP (sgsL n e)).length (sgE (ofP (sgsL n e)) (mS (szS e))))]
   hval:=rfl
   hset:=fun x b' h=>by obtain⟨rfl,rfl⟩:=lk_one h;exact⟨90,_,rfl,rfl,rfl⟩
   hkb:=fun j x h=>by
    obtain⟨rfl,rfl⟩:=lk_one h
    exact⟨_,rfl,rfl,(fun k hk=>by cases hk),hset1⟩
   hvn:=fun k hk=>by
    have:k=90:=by simpa[AV.nm,Cell.nm,Cell.nm0] using hk
    subst this
    exact⟨t,rfl⟩
   hρ :=fun j j' x h1 h2=>(lk_one h1).1.symm.trans (lk_one h2).1
   hσ :=fun j j' x h1 h2=>by cases h1
   hhi:=fun j x h=>by cases h
   hnw:=fun j x h=>by obtain⟨_,rfl⟩:=lk_one h;exact .inl (List.mem_singleton.2 rfl)
   hold:=fun j x h=>by cases h
   hle:=AvsLe.cons (AVle.one (CLe.row2 hl.symm hp1 (fun i _=>sqC_cl _ _))) AvsLe.nil
   hlen:=by rw[Tryz.ntmps5];simp
   hblk:=fun j b0 h=>by cases h
   hvc:=by
    have he:errV (sgsL n e).length=errV n:=by rw[hl]
    rw[he] at hvc
    exact hvc }⟩⟩
 ·cases h
end Go.Proofs.YtmagoiniahpofaaGreat
