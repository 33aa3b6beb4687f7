import Derived.Test.YtcmplpkmfbhpdaaGreatSpE
import Derived.Test.YtcmplpkmfbhpdaaGreatSyE
namespace Go.Proofs.YtcmplpkmfbhpdaaGreat
open Go Go.RowKit
theorem am6:zBx=[.v (.slice none 0 0),.f,.v (.slice none 0 0),.f,.v (.slice none 0 0),.f,.v (.slice none 0 0),.f,.v (.slice none 0 0),.f,.v (.slice none 0 0),.f,.v (.slice none 0 0),.f,.v (.slice none 0 0),.f]:=by kernel_rfl
theorem atH (l:List Sq) (s n j:Nat):(if j<n then sqC ((bxL l).getD j sq0) s else zBx).all aaa.cl=true:=by
 split
 ·exact adh _ _
 ·rw[am6];rfl
theorem aAX (l:List Sq) (s:Nat):aaf (aae.row 97 16 l.length λ_=>[.v (.slice none 0 0),.f,.v (.slice none 0 0),.f,.v (.slice none 0 0),.f,.v (.slice none 0 0),.f,.v (.slice none 0 0),.f,.v (.slice none 0 0),.f,.v (.slice none 0 0),.f,.v (.slice none 0 0),.f]) (aae.row 97 16 l.length λj=>if j<0 then sqC ((bxL l).getD j sq0) s else zBx):=
 aaf.row rfl (λi _=>by rw[if_neg (Nat.not_lt_zero i),am6];exact aan.refl _) (λi _=>atH l s 0 i)
theorem anL {l:List Sq} {n:Nat} (h:n<l.length):(bxL l).getD n sq0=akC (l.getD n sq0):=by simp[bxL,List.getD,h]
theorem avE (l:List Sq):(bxL l).length=l.length:=by simp[bxL]
theorem aAW {l:List Sq} {s n:Nat} (hn:n<l.length):aaf (aae.row 97 16 l.length λj=>if j=n then sqC (akC (l.getD n sq0)) s++List.drop (0+(sqC (akC (l.getD n sq0)) s).length) (if n<n then sgE (bxL l) s n else zBx) else if j<n then sqC ((bxL l).getD j sq0) s else zBx) (aae.row 97 16 l.length λj=>if j<n+1 then sqC ((bxL l).getD j sq0) s else zBx):=by
 refine aaf.row rfl (λj _=> ?_) (λj _=>atH l s (n+1) j);show aan (if j=n then _ else _) _;split
 ·rename_i e;subst e;rw[if_pos (Nat.lt_succ_self j),anL hn,if_neg (Nat.lt_irrefl j),am6];have:∀ t:Sq,sqC t s++List.drop (0+(sqC t s).length) ([.v (.slice none 0 0),.f,.v (.slice none 0 0),.f,.v (.slice none 0 0),.f,.v (.slice none 0 0),.f,.v (.slice none 0 0),.f,.v (.slice none 0 0),.f,.v (.slice none 0 0),.f,.v (.slice none 0 0),.f]:List aaa)=sqC t s:=λt=>rfl;rw[this];exact aan.refl _
 ·rename_i e;by_cases h:j<n
  ·rw[if_pos h,if_pos (by omega)];exact aan.refl _
  ·rw[if_neg h,if_neg (by omega)];exact aan.refl _
theorem aAV (l:List Sq) (hv:Nat->Value):aaf (aae.row 82 1 l.length λ_=>[aaa.v (.slice none 0 0)]) (aae.row 82 1 l.length λj=>if j<0 then [aaa.fh 800 j (hv j)] else [aaa.v (.slice none 0 0)]):=
 aaf.row rfl (λi _=>by rw[if_neg (Nat.not_lt_zero i)];exact aan.refl _) (λi _=>by rw[if_neg (Nat.not_lt_zero i)];rfl)
theorem aAU {l:List Sq} {n:Nat} {hv:Nat->Value} {v:Value} : aaf (aae.rowN 82 1 l.length (λj=>List.map (λa=>abv 50 (aaa.v v) a) (if j=n then aaa.hd 50::List.drop (0+[aaa.hd 50].length) (if n<n then [aaa.fh 800 n (hv n)] else [aaa.v (.slice none 0 0)]) else if j<n then [aaa.fh 800 j (hv j)] else [aaa.v (.slice none 0 0)])) []) (aae.row 82 1 l.length λj=>if j<n+1 then [aaa.fh 800 j (if j=n then v else hv j)] else [aaa.v (.slice none 0 0)]):=by
 refine aaf.rowN rfl (λj _=> ?_) (λj _=> ?_)
 ·show aan (List.map _ (if j=n then _ else _)) _;split
  ·rename_i e;subst e;rw[if_pos (Nat.lt_succ_self j),if_neg (Nat.lt_irrefl j)];exact aan.cons (CLe.fh rfl) aan.nil
  ·rename_i e;by_cases h:j<n
   ·rw[if_pos h,if_pos (by omega)];exact aan.refl _
   ·rw[if_neg h,if_neg (by omega)];exact aan.refl _
 ·split<;>rfl
theorem aAF (l:List Sq):aaf (aae.row 3 1 l.length λ_=>[aaa.v (.int .i64 0)]) (aae.row 3 1 l.length λj=>[aaa.v (.int .i64 (if j<0 then (j:Int) else 0))]):=
 aaf.row rfl (λi _=>by rw[if_neg (Nat.not_lt_zero i)];exact aan.refl _) (λ_ _=>rfl)
theorem aAE {l:List Sq} {n:Nat} : aaf (aae.row 3 1 l.length λj=>if j=n then [aaa.v (.int .i64 (n:Int))] else [aaa.v (.int .i64 (if j<n then (j:Int) else 0))]) (aae.row 3 1 l.length λj=>[aaa.v (.int .i64 (if j<n+1 then (j:Int) else 0))]):=by
 refine aaf.row rfl (λj _=> ?_) (λ_ _=>rfl);show aan (if j=n then _ else _) _;split
 ·rename_i e;subst e;rw[if_pos (Nat.lt_succ_self j)];exact aan.refl _
 ·rename_i e;by_cases h:j<n
  ·rw[if_pos h,if_pos (by omega)];exact aan.refl _
  ·rw[if_neg h,if_neg (by omega)];exact aan.refl _
theorem aAR {T:TypeId} {sz:Nat} {hc:Nat->Option aaa} {len:Nat->Nat} {e:Nat->Nat->List aaa} : aaf (aae.fam T sz 0 (λ_=>none) (λ_=>0) (λ_ _=>[]) []) (aae.fam T sz 0 hc len e []):=
 aaf.fam rfl (λi hi=>absurd hi (Nat.not_lt_zero i)) (λi hi=>absurd hi (Nat.not_lt_zero i)) (λi _j hi=>absurd hi (Nat.not_lt_zero i))
theorem avq (l:List Sq) (s n a:Nat) (ha:a<2):[ptC (l.getD n sq0).1 s,ptC (l.getD n sq0).2 s].getD a []=ptC ([(l.getD n sq0).1,(l.getD n sq0).2].getD a (0,0)) s:=by
 match a,ha with
 |0,_=>rfl
 |1,_=>rfl
theorem aAQ {l:List Sq} {s n:Nat} {hv:Nat->Value} {v:Value} : aaf (aae.fam 41 8 (n+1) (λj=>Option.map (λa=>abv 50 (aaa.v v) a) (if j=n then some (aaa.hd 50) else some (aaa.fh 800 j (hv j)))) (λj=>if j=n then 2 else 2) (λj a=>(if j=n then λi=>[ptC (l.getD n sq0).1 s,ptC (l.getD n sq0).2 s].getD i [] else acs [(l.getD j sq0).1,(l.getD j sq0).2] s) a) [])
  (aae.fam 41 8 (n+1) (λj=>some (aaa.fh 800 j (if j=n then v else hv j))) (λ_=>2) (λj a=>ptC ([(l.getD j sq0).1,(l.getD j sq0).2].getD a (0,0)) s) []):=by
 refine aaf.fam rfl (λj _=> ?_) (λ_ _ _=>by split<;>rfl) (λj a _ _ ha=>⟨?_,afD _ _⟩)
 ·by_cases e:j=n
  ·simp only[if_pos e,Option.map_some];exact⟨CLe.fh rfl,rfl⟩
  ·simp only[if_neg e,Option.map_some];exact⟨CLe.refl _,rfl⟩
 ·by_cases e:j=n
  ·subst e;simp only[if_pos] at ha ⊢;rw[avq l s j a (by simpa using ha)];exact aan.refl _
  ·simp only[if_neg e];exact aan.refl _
theorem aAP {l:List Sq} {s t n:Nat} {hv:Nat->Value} (h:s<=t):aaf (aae.fam 41 8 n (λj=>some (aaa.fh 800 j (hv j))) (λ_=>2) (λj a=>ptC ([(l.getD j sq0).1,(l.getD j sq0).2].getD a (0,0)) s) [])
  (aae.fam 41 8 n (λj=>some (aaa.fh 800 j (hv j))) (λj=>[(l.getD j sq0).1,(l.getD j sq0).2].length) (λj a=>ptC ([(l.getD j sq0).1,(l.getD j sq0).2].getD a (0,0)) t) []):=
 aaf.fam rfl (λ_ _=>⟨CLe.refl _,rfl⟩) (λ_ _ _=>rfl) (λ_ _ _ _ _=>⟨aan.q2 ⟨⟨rfl,h⟩,rfl,h⟩,afD _ _⟩)
theorem aAO {S n i k:Nat} {C:Nat->List Pq} {hv:Nat->Value} {v v':Value} {p:Pq} (hik:i≠k):aaf (aae.fam 41 8 n (λj=>Option.map (λa=>abv 129 (aaa.v v') a) (Option.map (λa=>abv 122 (aaa.v v) a) (if j=k then some (aaa.hd 129) else if j=i then some (aaa.hd 122) else some (aaa.fh 800 j (hv j))))) (λj=>if j=k then (C k).length+1 else if j=i then (C i).length+1 else (C j).length)
   (λj a=>if j=k then (if a<(C k).length then ptC ((C k).getD a (0,0)) S else [ptC p S].getD (a-(C k).length) []) else if j=i then (if a<(C i).length then ptC ((C i).getD a (0,0)) S else [ptC p S].getD (a-(C i).length) []) else ptC ((C j).getD a (0,0)) S) [])
  (aae.fam 41 8 n (λj=>some (aaa.fh 800 j (if j=k then v' else if j=i then v else hv j))) (λj=>(afy C i k p j).length) (λj a=>ptC ((afy C i k p j).getD a (0,0)) S) []):=by
 have app:∀ (c:List Pq) (a:Nat),a<c.length+1->aan (if a<c.length then ptC (c.getD a (0,0)) S else [ptC p S].getD (a-c.length) []) (ptC ((c++[p]).getD a (0,0)) S):=λc a ha=>by
  by_cases h:a<c.length
  ·rw[if_pos h];have:(c++[p]).getD a (0,0)=c.getD a (0,0):=by simp[List.getD,List.getElem?_append_left h]
   rw[this];exact aan.refl _
  ·have:a=c.length:=by omega
   subst this;rw[if_neg h,Nat.sub_self];have:(c++[p]).getD c.length (0,0)=p:=by simp[List.getD]
   rw[this];exact aan.refl _
 refine aaf.fam rfl (λj _=> ?_) (λj _ _=> ?_) (λj a _ _ ha=>⟨?_,afD _ _⟩)
 ·by_cases e:j=k
  ·simp only[if_pos e,Option.map_some];exact⟨CLe.fh rfl,rfl⟩
  ·by_cases e':j=i
   ·simp only[if_neg e,if_pos e',Option.map_some];exact⟨CLe.fh rfl,rfl⟩
   ·simp only[if_neg e,if_neg e',Option.map_some];exact⟨CLe.refl _,rfl⟩
 ·unfold afy;by_cases e:j=k
  ·simp[e]
  ·by_cases e':j=i
   ·simp[e',hik]
   ·simp[e,e']
 ·unfold afy;by_cases e:j=k
  ·simp only[if_pos e] at ha ⊢;exact app _ a ha
  ·by_cases e':j=i
   ·simp only[if_neg e,if_pos e'] at ha ⊢;exact app _ a ha
   ·simp only[if_neg e,if_neg e'] at ha ⊢;exact aan.refl _
theorem aAS {N i k:Nat} {hv:Nat->Value} {v v':Value} : aaf (aae.rowN 82 1 N (λj=>List.map (λa=>abv 129 (aaa.v v') a) (List.map (λa=>abv 122 (aaa.v v) a) (if j=k then aaa.hd 129::List.drop (0+[aaa.hd 129].length) [aaa.fh 800 k (hv k)] else if j=i then [aaa.hd 122] else [aaa.fh 800 j (hv j)]))) []) (aae.row 82 1 N λj=>[aaa.fh 800 j (if j=k then v' else if j=i then v else hv j)]):=by
 refine aaf.rowN rfl (λj _=> ?_) (λ_ _=>rfl);show aan (List.map _ (List.map _ (if j=k then _ else _))) _;by_cases e:j=k
 ·simp only[if_pos e];exact aan.cons (CLe.fh rfl) aan.nil
 ·by_cases e':j=i
  ·simp only[if_neg e,if_pos e'];exact aan.cons (CLe.fh rfl) aan.nil
  ·simp only[if_neg e,if_neg e'];exact aan.refl _
theorem aAT {N:Nat} {hv:Nat->Value} : aaf (aae.row 82 1 N λj=>if j<N then [aaa.fh 800 j (hv j)] else [aaa.v (.slice none 0 0)]) (aae.row 82 1 N λj=>[aaa.fh 800 j (hv j)]):=
 aaf.row rfl (λj hj=>by rw[if_pos hj];exact aan.refl _) (λ_ _=>rfl)
theorem aAN {N:Nat} {C:Nat->List Pq} {hv:Nat->Value} {S:Nat} : aaf (aae.fam 41 8 N (λj=>some (aaa.fh 800 j (hv j))) (λj=>(C j).length) (λj a=>ptC ((C j).getD a (0,0)) S) []) (aae.fam 41 8 N (λj=>if j<0 then none else some (aaa.fh 800 j (hv j))) (λj=>(C j).length) (λj a=>ptC ((C j).getD a (0,0)) S) []):=
 aaf.fam rfl (λj _=>by simp only[if_neg (Nat.not_lt_zero j)];exact⟨CLe.refl _,rfl⟩) (λ_ _ _=>rfl) (λ_ _ _ _ _=>⟨aan.refl _,afD _ _⟩)
theorem aAM {N m:Nat} {C:Nat->List Pq} {hv:Nat->Value} {S:Nat} : aaf (aae.fam 41 8 N (λj=>if j=m then none else if j<m then none else some (aaa.fh 800 j (hv j))) (λj=>(C j).length) (λj a=>ptC ((C j).getD a (0,0)) S) []) (aae.fam 41 8 N (λj=>if j<m+1 then none else some (aaa.fh 800 j (hv j))) (λj=>(C j).length) (λj a=>ptC ((C j).getD a (0,0)) S) []):=by
 refine aaf.fam rfl (λj _=> ?_) (λ_ _ _=>rfl) (λ_ _ _ _ _=>⟨aan.refl _,afD _ _⟩);by_cases e:j=m
 ·simp only[if_pos e,if_pos (show j<m+1 by omega)]
 ·by_cases e':j<m
  ·simp only[if_neg e,if_pos e',if_pos (show j<m+1 by omega)]
  ·simp only[if_neg e,if_neg e',if_neg (show ¬ j<m+1 by omega)];exact⟨CLe.refl _,rfl⟩
theorem aAL {N m:Nat} {C:Nat->List Pq} {hv:Nat->Value} {S:Nat} : aaf (aae.fam 41 8 N (λj=>Option.map (λa=>afa 172 900 a) (if j<m then none else some (aaa.fh 800 j (hv j)))) (λj=>(C j).length) (λj a=>ptC ((C j).getD a (0,0)) S) []) (aae.fam 41 8 N (λj=>if j<m then none else some (aaa.fh 800 j (hv j))) (λj=>(C j).length) (λj a=>ptC ((C j).getD a (0,0)) S) []):=by
 refine aaf.fam rfl (λj _=> ?_) (λ_ _ _=>rfl) (λ_ _ _ _ _=>⟨aan.refl _,afD _ _⟩);by_cases e:j<m
 ·simp only[if_pos e,Option.map_none]
 ·simp only[if_neg e,Option.map_some];exact⟨CLe.refl _,rfl⟩
theorem axR (N:Nat):(acU N λj=>[aaa.v (.int .i64 (if j<N then (j:Int) else 0))])=(List.range N).map λi:Nat=>(i:Int):=by
 unfold acU;refine List.map_congr_left λj hj=> ?_;simp only[awz,if_pos (List.mem_range.1 hj)]
theorem az4 (l:List Sq) (s:Nat):(abt l.length λj=>if j<l.length then sqC ((bxL l).getD j sq0) s else zBx)=bxL l:=by
 have h:=air (l:=bxL l) (s:=s);rw[avE] at h;refine Eq.trans ?_ h;unfold abt;refine List.map_congr_left λj hj=> ?_;simp only[avS,if_pos (List.mem_range.1 hj),sgE]
theorem at9 {T:TypeId} {O:List Sq} {t:Sq} {S:Nat} : aaf (aae.row T 16 (O.length+1) λj=>if j<O.length then sqC (O.getD j sq0) S else [qsC [(t.1.1,S),(t.1.2,S),(t.2.1,S),(t.2.2,S)]].getD (j-O.length) []) (aae.row T 16 (O++[t]).length (sgE (O++[t]) S)):=by
 refine aaf.row (by simp) (λj hj=> ?_) (λj _=>adh _ _);show aan (if j<O.length then _ else _) _;by_cases h:j<O.length
 ·rw[if_pos h];have:(O++[t]).getD j sq0=O.getD j sq0:=by simp[List.getD,List.getElem?_append_left h]
  unfold sgE;rw[this];exact aan.refl _
 ·have:j=O.length:=by omega
  subst this;rw[if_neg h,Nat.sub_self];have:(O++[t]).getD O.length sq0=t:=by simp[List.getD]
  unfold sgE;rw[this];exact aan.refl _
theorem bxC {l:List Sq} {s n:Nat} (hn:n=l.length):CLe (.row 16 l.length λj=>if j<l.length then sqC ((bxL l).getD j sq0) s else zBx) (.row 16 n (sgE (bxL l) s)):=by
 subst hn;exact CLe.row rfl (λj hj=>by rw[if_pos hj];exact aan.refl _) (λj _=>⟨atH l s l.length j,adh _ _⟩)
theorem aua {T:TypeId} {S:Nat} : aaf (aae.row T 16 0 λ_=>[]) (aae.row T 16 0 (sgE [] S)):=
 aaf.row rfl (λi hi=>absurd hi (Nat.not_lt_zero i)) (λi hi=>absurd hi (Nat.not_lt_zero i))
end Go.Proofs.YtcmplpkmfbhpdaaGreat
namespace Go.Proofs.YtcmplpkmfbhpdaaGreat
open Go Go.RowKit
set_option maxHeartbeats 4000000 in
set_option maxRecDepth 100000 in
theorem auz (l:List Sq) (s:Nat) (hs:s<=1500) (h20:l.length<=20):vc Tryz.prog (lk (gSp s)) Tryz.f11.ntmps (ato l s) (Tryz.f11.body.getD .skip) ⟨aao [.s false [.row 16 l.length (sgE l s)]] 0,[]⟩ (asX Tryz.prog Tryz.f11.results.toList [90] (.tup [(false,[.hd 90]),(false,[.v (amW l.length)])]) [(90,.row 43 16 (ofP l).length (sgE (ofP l) (mS s)))]):=by
 rw[azM];have hb1:mx4 s s s s=s:=by unfold mx4;omega
 have hb2:mx2 s<=50000:=by unfold mx2;omega
 have hb3:mS s<=50000:=by unfold mS;omega
 have hb4:mx4 (mx2 s) (mx2 s) (mx2 s) (mx2 s)=mx2 s:=by unfold mx4;omega
 have hb5:ajt s s s s s s s s=s:=by unfold ajt;omega
 simp only[SmA,SmB,SmC,aaZ,aaP,abj,true_and,and_true,decide_eq_true_eq,decide_eq_false_iff_not,Int.toNat_natCast,hb1,hb4,hb5,hb2,hb3,hs,Nat.max_self];refine⟨λhlong=> ?_,λhshort=> ?_⟩
 ·exfalso;omega
 ·have hn:l.length<=20000:=by omega
  have wr:∀ n:Nat,n<=10000000000->IntKind.i64.wrap ((n:Int)+1)=((n+1:Nat):Int):=λn h=>by rw[IntKind.wrap_i64];omega
  have wm:∀ n:Nat,1<=n->n<=10000000000->IntKind.i64.wrap ((n:Int)-1)=((n-1:Nat):Int):=λn h h'=>by rw[IntKind.wrap_i64];omega
  refine⟨by omega,by omega,by omega,by omega,by omega,by omega,⟨⟨[],0,0,0,λ_=>[],λ_=> .bool false,[],[]⟩,Nat.zero_le _,aac.int rfl,aAX l _,aAV l _,aAF l,aAR⟩,?_⟩;rintro⟨r,n,m0,q0,C,hv,O0,c0⟩ hi;dsimp only at hi ⊢;refine⟨λhlt=> ?_,λhge=> ?_⟩
  ·have hlt':n<l.length:=by omega
   exact⟨by omega,by omega,by omega,hlt',by omega,hlt',by omega,hlt',λv=>⟨⟨r,n+1,m0,q0,C,λj=>if j=n then v else hv j,O0,c0⟩,hlt',by show l.length-(n+1)<l.length-n;omega,aac.int (wr n (by omega)),aAW hlt',aAU,aAE,aAQ⟩⟩
  ·have en:n=l.length:=by omega
   subst en;clear hge hi hshort;simp only[axR,az4];refine⟨λj hj=> ?_,λx hx=> ?_,?_,by omega,?_⟩
   ·rw[if_pos hj];have:((List.range l.length).map λi:Nat=>(i:Int)).getD j 0=(j:Int):=by simp[List.getD,hj]
    rw[this];exact aan.refl _
   ·have hx':x∈(List.range l.length).map λi:Nat=>(i:Int):=hx;simp only[List.mem_map,List.mem_range] at hx';obtain⟨i,h1,h2⟩:=hx';omega
   ·exact aac.one (bxC (acy _ _))
   ·rintro e ⟨r1,hp,hw,he⟩;have he':e=afz r1:=he;subst he';clear he;have hr1:Ris l r1:=⟨hp,hw⟩
    refine⟨⟨⟨r1,0,0,0,λj=>[(l.getD j sq0).1,(l.getD j sq0).2],hv,[],[]⟩,⟨Nat.zero_le _,hr1,aeY.start l r1⟩,⟨aac.refl _,aac.refl _,aac.int rfl⟩,aaf.st (aan.cons (bxC rfl) aan.nil),aAT,aAP (by unfold mS;omega)⟩,?_⟩;clear hp hw hr1 r1;rintro⟨r1,n,m1,q1,C1,hv1,O1,c1⟩ ⟨h1,h2,h3⟩;dsimp only at h1 h2 h3 ⊢;refine⟨λhlt=> ?_,λhge=> ?_⟩
    ·have hlt':n<l.length:=by omega
     have hw:=wr n (by omega);simp only[hw,Int.toNat_natCast];have bnd:∀ a,a<l.length->∀ r,Ris l r->0<=r.getD a 0/\r.getD a 0<(l.length:Int):=λa ha r hr=>by
      have:=adi hr ha;omega
     refine⟨by omega,by omega,⟨r1,n,0,0,C1,hv1,[],[]⟩,⟨hlt',Nat.zero_le _,h2,h3⟩,⟨⟨aac.refl _,aac.refl _,aac.refl _,aac.int rfl,aac.refl _,aac.refl _,aac.refl _⟩,aaf.refl _,aaf.refl _⟩,?_⟩;clear h2 h3 hw;rintro⟨r2,n2,m,q2,C2,hv2,O2,c2⟩ ⟨k1,k2,k3,k4⟩ hfix;dsimp only at k1 k2 k3 k4 hfix ⊢;subst hfix;have hw:=wr n2 (by omega);have hwm:=wr m (by omega);have ei:n2+1+m=m+(n2+1):=by omega
     simp only[hw,hwm];refine⟨λhlt3=> ?_,λhge3=> ?_⟩
     ·have hm:m+(n2+1)<l.length:=by omega
      have B1:=bnd n2 k1 r2 k3;have B2:=bnd (m+(n2+1)) hm r2 k3;refine⟨by omega,B2,B1,λhbr=>⟨⟨r2,n2+1,0,0,C2,hv2,[],[]⟩,⟨k1,k3,k4.row (by omega) λb hb1 hb2=> ?_⟩,by show l.length-(n2+1)<l.length-n2;omega,⟨aac.refl _,aac.refl _,aac.refl _⟩,aaf.refl _,aaf.refl _⟩,λhnb=>⟨B1,B2,λhme=> ?_,λhme=> ?_⟩⟩
      ·exact aun k3 (k:=m+(n2+1)) (by omega) hb2 hbr k1
      ·have emt:mtQ l r2 n2 m=acM (l.getD (r2.getD n2 0).toNat sq0) (l.getD (r2.getD (m+(n2+1)) 0).toNat sq0):=by unfold mtQ rhoQ;rw[ei]
       refine⟨B1,B2,⟨r2,n2,m,0,C2,hv2,[],[]⟩,⟨(by show n2+1+m<l.length;omega),Nat.zero_le _,k3,k4⟩,⟨⟨aac.refl _,?_,?_,aac.int rfl,aac.refl _,aac.refl _,aac.refl _,aac.refl _,aac.refl _,aac.refl _,aac.refl _⟩,aaf.refl _,aaf.refl _⟩,?_⟩
       ·show aac _ (AV.s false [aaa.row 8 (mtQ l r2 n2 m).length (acs (mtQ l r2 n2 m) (mS s))]);rw[emt];exact aac.refl _
       ·show aac _ (AV.s false [aaa.v (.int .i64 ((mtQ l r2 n2 m).length:Int))]);rw[emt];exact aac.refl _
       ·clear k3 k4 emt hme hnb B1 B2 hlt3 hw;rintro⟨r3,n3,m3,q,C3,hv3,O3,c3⟩ ⟨j1,j2,j3,j4⟩ hfix4;dsimp only at j1 j2 j3 j4 hfix4 ⊢;have e3:n2=n3:=by omega
        have e4:m=m3:=by omega
        subst e3;subst e4;have hm2:(mtQ l r3 n2 m).length<=2:=ahU _ _;have hwq:=wr q (by omega);have B1:=bnd n2 k1 r3 j3;have B2:=bnd (m+(n2+1)) hm r3 j3;have hne:(r3.getD (m+(n2+1)) 0).toNat≠(r3.getD n2 0).toNat:=λe=>by
         have:=afI j3 hm k1 e;omega
        simp only[hwq,hwm,hne,if_false];refine⟨λhlt4=> ?_,λhge4=> ?_⟩
        ·have hq:q<(mtQ l r3 n2 m).length:=by omega
         have hbig:∀ x,x<l.length->((C3 x).length+1)*128<=140737488355328:=λx hx=>by
          have h8:=anx (λj=>(C3 j).length) hx;have h9:=j4.sum;have h10:n2*20000<=20000*20000:=Nat.mul_le_mul_right _ (by omega);omega
         have L1:=(adi j3 k1).1;have L2:=(adi j3 hm).1;have hst:=j4.step j3 j1 hq;rw[ei] at hst;refine⟨by omega,B1,L1,L1,⟨by omega,hbig _ L1⟩,B2,L2,⟨L2,trivial⟩,⟨by omega,hbig _ L2⟩,B1,L1,B2,L2,λv v'=>⟨⟨r3,n2,m,q+1,_,λj=>if j=(r3.getD (m+(n2+1)) 0).toNat then v' else if j=(r3.getD n2 0).toNat then v else hv3 j,[],[]⟩,⟨j1,hq,j3,hst⟩,rfl,by show (mtQ l r3 n2 m).length-(q+1)<(mtQ l r3 n2 m).length-q;omega,⟨aac.refl _,aac.refl _,aac.refl _,aac.refl _,aac.refl _,aac.refl _,aac.refl _,aac.refl _,aac.refl _,aac.refl _,aac.refl _⟩,aAS,aAO (Ne.symm hne)⟩⟩
        ·exact⟨⟨r3,n2,m+1,0,C3,hv3,[],[]⟩,⟨k1,by show m+1<=l.length-(n2+1);omega,j3,j4.pair j1 (by omega)⟩,rfl,by show l.length-(m+1)<l.length-m;omega,⟨aac.refl _,aac.refl _,aac.refl _,aac.refl _,aac.refl _,aac.refl _,aac.refl _⟩,aaf.refl _,aaf.refl _⟩
      ·have hmt:mtQ l r2 n2 m=[]:=Classical.byContradiction λhne=>by
        have:=(ag3 hne).1;rw[<- anL (adi k3 k1).1,<- anL (adi k3 (show n2+1+m<l.length by omega)).1,ei] at this;have h9:adT ((bxL l).getD (rhoQ r2 n2) sq0) ((bxL l).getD (rhoQ r2 (m+(n2+1))) sq0)=false:=hme;rw[this] at h9;cases h9
       exact⟨⟨r2,n2,m+1,0,C2,hv2,[],[]⟩,⟨k1,by show m+1<=l.length-(n2+1);omega,k3,k4.pair (by omega) (by rw[hmt];rfl)⟩,rfl,by show l.length-(m+1)<l.length-m;omega,⟨aac.refl _,aac.refl _,aac.refl _,aac.refl _,aac.refl _,aac.refl _,aac.refl _⟩,aaf.refl _,aaf.refl _⟩
     ·exact⟨⟨r2,n2+1,0,0,C2,hv2,[],[]⟩,⟨k1,k3,k4.row (by omega) λb hb1 hb2=>by omega⟩,by show l.length-(n2+1)<l.length-n2;omega,⟨aac.refl _,aac.refl _,aac.refl _⟩,aaf.refl _,aaf.refl _⟩
    ·have en:n=l.length:=by omega
     subst en;refine⟨⟨⟨[],0,0,0,C1,hv1,[],[]⟩,⟨Nat.zero_le _,h3.fin hn h2,apZ.start C1⟩,aac.int rfl,aua,aaf.refl _,aAN⟩,?_⟩;clear h1 h2 h3;rintro⟨r2,n,m2,q2,C2,hv2,O2,c2⟩ ⟨h1,h2,h3⟩;dsimp only at h1 h2 h3 ⊢;refine⟨λhlt=> ?_,λhge=> ?_⟩
     ·have hlt':n<l.length:=by omega
      have hlen:∀ x,x<l.length->(C2 x).length<=10000000000:=λx hx=>Nat.le_trans (anx (λj=>(C2 j).length) hx) h2.sum;simp only[axc,Nat.lt_irrefl,if_false];refine⟨by omega,hlt',⟨hlt',trivial⟩,λ_ _=>aan.refl _,by have:=hlen n hlt';omega,?_⟩;rintro e ⟨c,hp,hs2,he⟩;have he':e=acs c (mS s):=he;subst he';refine⟨⟨[],n,1,0,C2,hv2,O2,c⟩,⟨hlt',h2,ajw.start h3 hp hs2 (h2.two n hlt')⟩,⟨⟨aac.int rfl,aac.refl _⟩,?_,aaf.refl _,aaf.refl _,aAM⟩,?_⟩
      ·rw[<- hp.length_eq];exact aaf.refl _
      ·clear hp hs2 h2 h3 hlen;rintro⟨r3,n3,i,q3,C3,hv3,O3,c3⟩ ⟨j1,j2,j3⟩ hfix;dsimp only at j1 j2 j3 hfix ⊢;subst hfix;have hlen:∀ x,x<l.length->(C3 x).length<=10000000000:=λx hx=>Nat.le_trans (anx (λj=>(C3 j).length) hx) j2.sum;have h0:=hlen n3 j1;have hpl:=j3.perm.length_eq;have hlo:=j3.lo;have hhi:=j3.hi;have hw1:=wr i (by omega);have hw2:=wm i hlo (by omega);have hw3:=wr n3 (by omega);simp only[hw1,hw2,hw3,Int.toNat_natCast];refine⟨λhlt6=> ?_,λhge6=> ?_⟩
       ·have hi:i<c3.length:=by omega
        have hc:=abD (c3.getD (i-1) (0,0)) (c3.getD i (0,0));unfold abL at hc;have hol:O3.length+1<=10000000000:=by
         have k1:=j3.len;have k2:=aeh (λj=>(C3 j).length) n3;have k3:=ak3 (λj=>(C3 j).length) (show n3+1<=l.length from j1);have k4:=j2.sum;omega
        refine⟨by omega,by omega,by omega,hi,λhne=>⟨by omega,by omega,by omega,hi,by omega,⟨[],n3,i+1,0,C3,hv3,_,c3⟩,⟨j1,j2,j3.push hi λz=> ?_⟩,rfl,by show c3.length-(i+1)<c3.length-i;omega,⟨aac.refl _,aac.refl _⟩,aaf.refl _,at9 (t:=(c3.getD (i-1) (0,0),c3.getD i (0,0))),aaf.refl _,aAL⟩,λheq=>⟨⟨[],n3,i+1,0,C3,hv3,O3,c3⟩,⟨j1,j2,j3.skip hi ?_⟩,rfl,by show c3.length-(i+1)<c3.length-i;omega,⟨aac.refl _,aac.refl _⟩,aaf.refl _,aaf.refl _,aaf.refl _,aaf.refl _⟩⟩
        ·rw[hc.2 z] at hne;simp at hne
        ·refine hc.1 ?_;simpa using heq
       ·exact⟨⟨[],n3+1,0,0,C3,hv3,O3,[]⟩,⟨j1,j2,j3.fin (by omega)⟩,by show l.length-(n3+1)<l.length-n3;omega,aac.refl _,aaf.refl _,aaf.refl _,aaf.refl _⟩
     ·have en:n=l.length:=by omega
      subst en;have hol:O2.length<=10000000000:=Nat.le_trans h3.len h2.sum;simp only[air];refine⟨λ_ _=>aan.refl _,by omega,?_⟩;rintro e ⟨O4,hp,hs2,he⟩;have he':e=sgE O4 (mS s):=he;subst he';have hl:=hp.length_eq;have hofp:=aiu (amT.fin hn h2.mem h3.mem hp hs2);have e2:amW l.length= .int .i64 0:=by unfold amW;rw[if_neg (by omega)]
      rw[<- hl,hofp,e2];simp only[air];exact⟨λ_ _=>aan.refl _,by omega,aac.refl _,aaf.refl _⟩
theorem CLe.row2 {sz n n':Nat} {e e':Nat->List aaa} (h:n=n') (k:∀ i,i<n->aan (e i) (e' i)) (hcl:∀ i,i<n->(e' i).all aaa.cl=true):CLe (.row sz n e) (.row sz n' e'):=by
 refine⟨λG F w v hv=> ?_⟩;subst h;have hv':COk F w (.row sz n e) v:=hv;cases hv' with
 |row0=>exact GOk.of .row0
 |row vals hF hn hl hc ho=>
  refine GOk.of (.row vals hF hn (λi hi=>by rw[<- (k i hi).len];exact hl i hi) hc λi j c hi hj=> ?_);have hjl:j<(e i).length:=by rw[(k i hi).len];exact (List.getElem?_eq_some_iff.1 hj).1
  have h1:=List.getElem?_eq_getElem hjl;have h2:=((k i hi).h j _ c h1 hj).h G F w _ (GOk.of (ho i j _ hi h1));exact COk.of h2 (List.all_eq_true.1 (hcl i hi) c (List.mem_of_getElem? hj))
theorem axW (s:Nat):∀ p∈gSp s,∀ B,aai Tryz.prog False B p.1 p.2:=
 aad (arQ False) (aad (aoQ False (mx2 s)) (aad (akf False) (aad (arh False) (aad auT (aad (aoP False (mS s)) (aad (afL False) (aad (aoO False (mS s)) (aad (avz False (mS s)) λp hp=>by cases hp))))))))
def szS (e:Nat->List aaa):Nat:=(avS e 0).2
noncomputable def ofC:Run:=λ_ avs t=>match avs with
 |[.s false [.row 16 n e]]=>some { val:=some (.tup [(false,[.hd t]),(false,[.v (amW n)])]),set:=[(t,.row 43 16 (ofP (abt n e)).length (sgE (ofP (abt n e)) (mS (szS e))))],nws:=[t],ps:=[∀ i,i<n->aan (e i) (sgE (abt n e) (szS e) i),szS e<=1500,n<=20] }
 |_=>none
set_option maxRecDepth 100000 in
theorem aso (B:Nat):aai Tryz.prog False B 11 ofC:=by
 refine avn (c:=Tryz.f11.body.getD .skip) (by kernel_rfl) Tryz.func11 (by kernel_rfl) (by kernel_rfl) ?_ B;intro b avs t e h hp;unfold ofC at h;split at h
 ·rename_i n e;cases h;obtain⟨hp1,hp2,hp3,_⟩:=hp;have hl:=acy n e;have hset1:∃ b',lk [(t,aae.row 43 16 (ofP (abt n e)).length (sgE (ofP (abt n e)) (mS (szS e))))] t=some b':=⟨_,by simp only[lk,Nat.beq_refl];rfl⟩
  have hvc:=auz (abt n e) (szS e) hp2 (by rw[hl];exact hp3);refine⟨lk (gSp (szS e)),aau (axW (szS e)),⟨{
   σ :=[]
   ρ :=[(90,t)]
   avs':=[.s false [.row 16 (abt n e).length (sgE (abt n e) (szS e))]]
   blks:=[]
   inv:=ato (abt n e) (szS e)
   val:= .tup [(false,[.hd 90]),(false,[.v (amW n)])]
   kb:=[(90,.row 43 16 (ofP (abt n e)).length (sgE (ofP (abt n e)) (mS (szS e))))]
   hval:=rfl
   hset:=λx b' h=>by obtain⟨rfl,rfl⟩:=aaO h;exact⟨90,_,rfl,rfl,rfl⟩
   hkb:=λj x h=>by
    obtain⟨rfl,rfl⟩:=aaO h;exact⟨_,rfl,rfl,(λk hk=>by cases hk),hset1⟩
   hvn:=λk hk=>by
    have:k=90:=by simpa[AV.nm,aaa.nm,aaa.nm0] using hk
    subst this;exact⟨t,rfl⟩
   hρ :=λj j' x h1 h2=>(aaO h1).1.symm.trans (aaO h2).1
   hσ :=λj j' x h1 h2=>by cases h1
   hhi:=λj x h=>by cases h
   hnw:=λj x h=>by obtain⟨_,rfl⟩:=aaO h;exact .inl (List.mem_singleton.2 rfl)
   hold:=λj x h=>by cases h
   hle:=aaj.cons (aac.one (CLe.row2 hl.symm hp1 (λi _=>adh _ _))) aaj.nil
   hlen:=by rw[Tryz.ntmps11];simp
   hblk:=λj b0 h=>by cases h
   hvc:=by
    have he:amW (abt n e).length=amW n:=by rw[hl]
    rw[he] at hvc;exact hvc }⟩⟩
 ·cases h
end Go.Proofs.YtcmplpkmfbhpdaaGreat
