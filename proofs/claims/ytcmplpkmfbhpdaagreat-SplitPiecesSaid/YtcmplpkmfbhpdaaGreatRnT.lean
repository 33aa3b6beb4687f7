import Derived.Test.YtcmplpkmfbhpdaaGreatRnS
import Derived.Test.YtcmplpkmfbhpdaaGreatRpX
namespace Go.Proofs.YtcmplpkmfbhpdaaGreat
open Go Go.RowKit
def gPu:List (Nat × Run):=[(123,aaF amZ)]
theorem ax2 (D:Prop):∀ p∈gPu,∀ B,aai Tryz.prog D B p.1 p.2:=aad (ajF D) λp hp=>by cases hp
def rdP:List aaa->Rp
 |[.v (.int .i64 a),.m b,.v (.int .i64 c),.m d,.v (.int .i64 e),.m f]=>rpv a b c d e f
 |_=>(0,0,0)
def rdL (n:Nat) (e:Nat->List aaa):List Rp:=(List.range n).map λi=>rdP (e i)
structure RwP (n:Nat) (e:Nat->List aaa):Prop where
 h:∀ i,i<n->e i=rpC (rdP (e i))
theorem awm (p:Rp):rdP (rpC p)=p:=ail p
theorem anZ (n:Nat) (e:Nat->List aaa):(rdL n e).length=n:=by simp[rdL]
theorem asg {n:Nat} {e:Nat->List aaa} {i:Nat} (hi:i<n):(rdL n e).getD i (0,0,0)=rdP (e i):=by simp[rdL,List.getD,hi]
theorem atd (l:List Rp):rdL l.length (rpE l)=l:=by
 refine List.ext_getElem (anZ _ _) λi h1 h2=> ?_;have:=asg (n:=l.length) (e:=rpE l) h2;rw[List.getD_eq_getElem?_getD,List.getElem?_eq_getElem h1] at this;rw[show (rdL l.length (rpE l))[i]=rdP (rpE l i) from this];unfold rpE;rw[awm,List.getD_eq_getElem?_getD,List.getElem?_eq_getElem h2];rfl
theorem RwP.E (l:List Rp):RwP l.length (rpE l):=⟨λi hi=>by unfold rpE;rw[awm]⟩
theorem aac.rd {n:Nat} {e:Nat->List aaa} (h:RwP n e):aac (.s false [.row 6 n e]) (.s false [.row 6 (rdL n e).length (rpE (rdL n e))]):=
 aac.rpx (anZ n e).symm λi hi=>by unfold rpE;rw[asg hi];exact h.h i hi
def afc (p:Rp) (s:List Rp × Bool) (x:Rp):List Rp × Bool:=if aaA p x<0/\s.2=false then (s.1++[p,x],true) else (s.1++[x],s.2)
def agy (p:Rp) (l:List Rp):List Rp × Bool:=l.foldl (afc p) ([],false)
theorem ao3 (p:Rp) (l:List Rp) (x:Rp):agy p (l++[x])=if aaA p x<0/\(agy p l).2=false then ((agy p l).1++[p,x],true) else ((agy p l).1++[x],(agy p l).2):=by
 unfold agy;rw[List.foldl_append];rfl
theorem aqO (p:Rp) (l:List Rp):(agy p l).1.length<=l.length+1:=by
 have key:∀ (r:List Rp) (n:Nat) (s:List Rp × Bool),s.1.length<=n+(if s.2 then 1 else 0)->(r.foldl (afc p) s).1.length<=n+r.length+(if (r.foldl (afc p) s).2 then 1 else 0):=by
  intro r;induction r with
  |nil=>intro n s h;exact h
  |cons x r ih=>
   intro n s h;rw[List.foldl_cons,List.length_cons,show n+(r.length+1)=(n+1)+r.length by omega];refine ih (n+1) _ ?_;unfold afc;split
   ·rename_i hc;rw[hc.2] at h;simp only[List.length_append,List.length_cons,List.length_nil,if_true,Bool.false_eq_true,if_false] at h ⊢;omega
   ·simp only[List.length_append,List.length_cons,List.length_nil];omega
 have h1:=key l 0 ([],false) (Nat.zero_le _);have h2:(if (l.foldl (afc p) ([],false)).2 then 1 else 0)<=1:=by split<;>omega
 unfold agy;omega
theorem alj (p:Rp):∀ (r O:List Rp),r.foldl (afc p) (O,true)=(O++r,true)
 |[],O=>by simp
 |y::r,O=>by
  rw[List.foldl_cons,show afc p (O,true) y=(O++[y],true) from if_neg (by simp),alj p r];simp
theorem alk {p:Rp} : ∀ (r l:List Rp),(∀ x∈l,aaA p x≠0/\¬ aaA p x<0)->(∀ x∈r,aaA p x≠0)->abl aaA p (l++r)=if (r.foldl (afc p) (l,false)).2 then (r.foldl (afc p) (l,false)).1 else (r.foldl (afc p) (l,false)).1++[p]
 |[],l,h1,_=>by
  rw[List.append_nil,ahA aaA (k:=l.length) (Nat.le_refl _) (λj x _ hx=>h1 x (List.mem_of_getElem? hx)) (λx hx=>by rw[List.getElem?_eq_none (Nat.le_refl _)] at hx;cases hx)];simp
 |x::r,l,h1,h2=>by
  rw[List.foldl_cons];by_cases hx:aaA p x<0
  ·rw[show afc p (l,false) x=(l++[p,x],true) from if_pos ⟨hx,rfl⟩,alj,if_pos rfl,ahA aaA (k:=l.length) (by simp) (λj y hj hy=>by
    rw[List.getElem?_append_left hj] at hy;exact h1 y (List.mem_of_getElem? hy)) (λy hy=>by
    rw[List.getElem?_append_right (Nat.le_refl _)] at hy;simp at hy;rw[<- hy];exact⟨h2 x List.mem_cons_self,hx⟩)]
   simp
  ·rw[show afc p (l,false) x=(l++[x],false) from if_neg λh=>hx h.1];have:=alk r (l++[x]) (λy hy=>by
    rcases List.mem_append.1 hy with hy | hy
    ·exact h1 y hy
    ·rw[List.mem_singleton.1 hy];exact⟨h2 x List.mem_cons_self,hx⟩) (λy hy=>h2 y (List.mem_cons_of_mem _ hy))
   rw[show l++x::r=(l++[x])++r by simp];exact this
structure amY (L:List Rp) (p:Rp):Prop where
 s:aii L
 o:OkR p
 z:∀ q∈L,SzR q 1000
 zp:SzR p 1000
 n:L.length<=100000
theorem amY.fin {L:List Rp} {p:Rp} (_h:amY L p) (hn:∀ x∈L,aaA p x≠0):abl aaA p L=if (agy p L).2 then (agy p L).1 else (agy p L).1++[p]:=alk L [] (λx hx=>by cases hx) hn
theorem amY.same {L:List Rp} {p:Rp} (h:amY L p) {i:Nat} (hi:i<L.length) (hc:aaA p (L.getD i (0,0,0))=0):abl aaA p L=L:=by
 have hat:∀ j,j<L.length->L[j]? =some (L.getD j (0,0,0)):=λj hj=>by simp[List.getD,hj]
 refine agc aaA (k:=i) (z:=L.getD i (0,0,0)) (λj x hj hx=> ?_) (hat i hi) hc;have hj':j<L.length:=by omega
 rw[hat j hj'] at hx;cases hx;have e:=(akQ h.o (h.s.ok _ (List.mem_of_getElem? (hat i hi)))).1 hc;have hlt:ab7 (toQ (L.getD j (0,0,0))) (toQ p):=by
  rw[e];have:=List.pairwise_iff_getElem.1 h.s.s j i hj' hi hj;have e1:L.getD j (0,0,0)=L[j]:=by simp[List.getD,hj']
  have e2:L.getD i (0,0,0)=L[i]:=by simp[List.getD,hi]
  rw[e1,e2];exact this
 have hok:=h.s.ok _ (List.mem_of_getElem? (hat j hj'));refine⟨λk=> ?_,λk=> ?_⟩
 ·rw[(akQ h.o hok).1 k] at hlt;exact aaB _ hlt
 ·exact aaB _ (aaT hlt ((ajS h.o hok).1 k))
def ajU (L:List Rp) (p:Rp):abW:=⟨Nat,λi=>i<=L.length/\∀ x∈L.take i,aaA p x≠0,λi=>⟨[(0,.s false [.row 6 L.length (rpE L)]),(3,.s false [.own 3 0]),(5,.s false [.hd 900]),(6,.s false [.v (.bool (agy p (L.take i)).2)]),(7,.s false [.v (.int .i64 (i:Nat))])],[(3,.st 62 (rpC p)),(900,.row 62 6 (agy p (L.take i)).1.length (rpE (agy p (L.take i)).1))]⟩,λi=>L.length-i,[.nil 5 900 62 6],[.ren 40 900],none⟩
abbrev ar4 (L:List Rp) (p:Rp):Prop:=vc Tryz.prog (lk gPu) Tryz.f66.ntmps [(4,ajU L p)] (Tryz.f66.body.getD .skip) ⟨aao [.s false [.row 6 L.length (rpE L)],.s true (rpC p)] 0,[]⟩ (aaH Tryz.prog Tryz.f66.results.toList (.s false [.row 6 (abl aaA p L).length (rpE (abl aaA p L))]))
theorem atR (L:List Rp) (p:Rp):ar4 L p=(let k0:=λ(zz:Nat)=>(agy p (List.take zz L)).1;let k2:=λ(zz:Nat)=>(AV.s false [aaa.v (Value.bool (agy p (List.take zz L)).2)]);let k3:=aae.st 62 (rpC p);let k4:=AV.s false [aaa.row 6 L.length (rpE L)];let k5:=λ(zz:Nat)=>(aae.row 62 6 (k0 zz).length (rpE (k0 zz)));let k6:=λ(zz:Nat)=>(AV.s false [aaa.v (Value.int IntKind.i64 (IntKind.wrap IntKind.i64 ((↑zz:Int)+(1:Int))))]);let k7:=AV.s false [aaa.row 6 (abl aaA p L).length (rpE (abl aaA p L))];let k8:=λ(zz:Nat)=>(AV.s false [aaa.v (Value.int IntKind.i64 (↑zz:Int))]);let k9:=(↑L.length:Int);let k10:=λ(zz:Nat)=>((k0 zz).length+1);let k11:=(0:Int);let k12:=AV.s false [aaa.own 3 0];let k13:=AV.s false [aaa.hd 900];let k14:=λ(zz:Nat)=>(!(agy p (List.take zz L)).2);let k1:=λ(zz:Nat)=>(List.getD L (↑zz:Int).toNat (k11,k11,k11));let k15:=λ(zz:Nat)=>(aaA (rz p) (rz (k1 zz))<k11);let p1:=λ(i:Nat)=>0<=1/\(k10 i)*96<=140737488355328;let p2:=λ(i:Nat)(i':Nat)(Z:Prop)=>(i'<=L.length/\∀ (x:Rp),List.Mem x (List.take i' L)->aaA p x≠k11)/\L.length-i'<L.length-i/\Z;let p3:=λ(i:Nat)=>k11<=(↑i:Int)/\(↑i:Int)<k9;let p4:=λ(Z:Prop)=>SmA k4/\SmA k12/\SmA k13/\Z;let p0:=λ(i:Nat)(i':Nat)=>p2 i i' ((p4 (aac (k2 i) (k2 i')/\aac (k6 i) (k8 i')/\True))/\aaf k3 k3/\aaf (aae.row 62 6 (k10 i) λ(j:Nat)=>if j<(k0 i).length then rpE (k0 i) j else List.getD [(rpC (k1 i))] (j-(k0 i).length) []) (k5 i')/\True);(Exists λ(i:Nat)=>(i<=L.length/\∀ (x:Rp),List.Mem x (List.take i L)->aaA p x≠k11)/\(p4 (aac (AV.s false [aaa.f]) (k2 i)/\aac (AV.s false [aaa.v (Value.int IntKind.i64 k11)]) (k8 i)/\True))/\SmB k3/\aaf (aae.row 62 6 0 λ(_x:Nat)=>[]) (k5 i)/\True)/\∀ (i:Nat),(i<=L.length/\∀ (x:Rp),List.Mem x (List.take i L)->aaA p x≠k11)->(decide ((↑i:Int)<k9)=true->((p3 i))/\JZ p/\JZ (k1 i)/\SzR (rz p) 1000/\SzR (rz (k1 i)) 1000/\((aaA (rz p) (rz (k1 i)) == k11)=true->aac k4 k7)/\((aaA (rz p) (rz (k1 i)) == k11)=false->(decide (k15 i)=true->decide (k15 i)=true/\((k14 i)=true->((p1 i))/\((p3 i))/\(0<=1/\((k0 i).length+1+1)*96<=140737488355328)/\Exists λ(i':Nat)=>p2 i i' ((p4 (aac (AV.s false [aaa.t]) (k2 i')/\aac (k6 i) (k8 i')/\True))/\aaf k3 k3/\aaf (aae.row 62 6 ((k0 i).length+1+1) λ(j:Nat)=>if j<(k0 i).length+1 then if j<(k0 i).length then rpE (k0 i) j else List.getD [(rpC p)] (j-(k0 i).length) [] else List.getD [(rpC (k1 i))] (j-(k10 i)) []) (k5 i')/\True))/\((k14 i)=false->((p3 i))/\((p1 i))/\Exists λ(i':Nat)=>(p0 i i')))/\(decide (k15 i)=false->decide (k15 i)=false/\((p3 i))/\((p1 i))/\Exists λ(i':Nat)=>(p0 i i'))))/\(decide ((↑i:Int)<k9)=false->((k14 i)=true->((p1 i))/\aac (AV.s false [aaa.row 6 (k10 i) λ(j:Nat)=>if j<(k0 i).length then rpE (k0 i) j else List.getD [(rpC p)] (j-(k0 i).length) []]) k7)/\((k14 i)=false->aac (AV.s false [aaa.row 6 (k0 i).length (rpE (k0 i))]) k7))):=by kernel_rfl
theorem afi {O:List Rp} {x:Rp} {f:Nat->List aaa} (hf:∀ i,i<O.length->f i=rpE O i) {j:Nat} (hj:j<O.length+1):(if j<O.length then f j else List.getD [rpC x] (j-O.length) [])=rpE (O++[x]) j:=by
 by_cases h:j<O.length
 ·rw[if_pos h,hf j h];unfold rpE;simp[List.getD,h,List.getElem?_append_left]
 ·obtain rfl:j=O.length:=by omega
  rw[if_neg h,Nat.sub_self];unfold rpE;simp[List.getD]
theorem aaf.rps1 {T:TypeId} {O l:List Rp} {x:Rp} {n:Nat} {f:Nat->List aaa} (hl:l=O++[x]) (hn:n=O.length+1) (hf:∀ j,j<O.length+1->f j=(if j<O.length then rpE O j else List.getD [rpC x] (j-O.length) [])):aaf (.row T 6 n f) (.row T 6 l.length (rpE l)):=by
 subst hl hn;exact aaf.rpx (by simp) λj hj=>by rw[hf j hj];exact afi (λ_ _=>rfl) hj
theorem aac.rps1 {O l:List Rp} {x:Rp} {n:Nat} {f:Nat->List aaa} (hl:l=O++[x]) (hn:n=O.length+1) (hf:∀ j,j<O.length+1->f j=(if j<O.length then rpE O j else List.getD [rpC x] (j-O.length) [])):aac (.s false [.row 6 n f]) (.s false [.row 6 l.length (rpE l)]):=by
 subst hl hn;exact aac.rpx (by simp) λj hj=>by rw[hf j hj];exact afi (λ_ _=>rfl) hj
theorem aaf.rps2 {T:TypeId} {O l:List Rp} {x y:Rp} {n:Nat} {f:Nat->List aaa} (hl:l=O++[x,y]) (hn:n=O.length+2) (hf:∀ j,j<O.length+2->f j=(if j<O.length+1 then (if j<O.length then rpE O j else List.getD [rpC x] (j-O.length) []) else List.getD [rpC y] (j-(O.length+1)) [])):aaf (.row T 6 n f) (.row T 6 l.length (rpE l)):=by
 subst hl hn;refine aaf.rpx (by simp) λj hj=> ?_;rw[hf j hj];have h1:=afi (O:=O++[x]) (x:=y) (f:=λj=>if j<O.length then rpE O j else List.getD [rpC x] (j-O.length) []) (λi hi=>afi (λ_ _=>rfl) (by simpa using hi)) (j:=j) (by simpa using hj);rw[List.append_assoc] at h1;rw[<- show (O++([x]++[y]))=O++[x,y] from rfl,<- h1];simp only[List.length_append,List.length_cons,List.length_nil]
theorem afY (L:List Rp) {i:Nat} (h:i<L.length):L.take (i+1)=L.take i++[L.getD i (0,0,0)]:=by
 rw[List.take_add_one,List.getD,List.getElem?_eq_getElem h];rfl
set_option maxRecDepth 100000 in
theorem aiA {L:List Rp} {p:Rp} (h:amY L p):ar4 L p:=by
 rw[atR];simp only[avT,av6,SmA,SmB,aaP,abj,true_and,and_true,decide_eq_true_eq,decide_eq_false_iff_not,Int.toNat_natCast,beq_iff_eq,beq_eq_false_iff_ne,Bool.not_eq_true',Bool.not_eq_false'];have hn:=h.n;have hO:∀ i,(agy p (L.take i)).1.length<=100001:=λi=>by
  have h1:=aqO p (L.take i);rw[List.length_take] at h1;omega
 have mem:∀ i,i<L.length->L.getD i (0,0,0)∈L:=λi hi=>by
  have:L.getD i (0,0,0)=L[i]:=by simp[List.getD,hi]
  rw[this];exact List.getElem_mem hi
 have fin:∀ i,i<=L.length->¬ ((i:Int)<(L.length:Int))->(∀ x∈L.take i,aaA p x≠0)->L.take i=L/\abl aaA p L=if (agy p L).2 then (agy p L).1 else (agy p L).1++[p]:=λi h1 h2 h3=>by
  have e:L.take i=L:=List.take_of_length_le (by omega);rw[e] at h3;exact⟨e,h.fin h3⟩
 refine⟨⟨0,⟨Nat.zero_le _,λx hx=>by cases hx⟩,⟨aac.ff rfl,aac.ik rfl⟩,aaf.rpx rfl λj hj=>absurd hj (Nat.not_lt_zero _)⟩,λi ⟨hi,hne⟩=>⟨λhlt=> ?_,λhge=> ?_⟩⟩
 ·have hi':i<L.length:=by omega
  have hw:IntKind.wrap .i64 ((i:Int)+1)=((i+1:Nat):Int):=by rw[IntKind.wrap_i64]<;>omega
  have hoi:=hO i;have up:aaA p (L.getD i (0,0,0))≠0->∀ x∈L.take (i+1),aaA p x≠0:=λh0 x hx=>by
   rw[afY L hi'] at hx;rcases List.mem_append.1 hx with hx | hx
   ·exact hne x hx
   ·rw[List.mem_singleton.1 hx];exact h0
  have sn:=ao3 p (L.take i) (L.getD i (0,0,0));rw[<- afY L hi'] at sn;refine⟨by omega,h.zp,h.z _ (mem i hi'),λh0=> ?_,λh0=>⟨λhl=>⟨hl,λhb=> ?_,λhb=> ?_⟩,λhl=> ?_⟩⟩
  ·rw[h.same hi' h0];exact aac.refl _
  ·rw[if_pos ⟨hl,hb⟩] at sn;refine⟨by omega,by omega,by omega,i+1,⟨by omega,up h0⟩,by omega,⟨aac.tt (by rw[sn]),aac.ik hw⟩,aaf.rps2 (by rw[sn]) rfl λj hj=>rfl⟩
  ·rw[if_neg (by rw[hb];simp)] at sn;refine⟨by omega,by omega,i+1,⟨by omega,up h0⟩,by omega,⟨aac.bool (by rw[sn]),aac.ik hw⟩,aaf.rps1 (by rw[sn]) rfl λj hj=>rfl⟩
  ·rw[if_neg (λh=>hl h.1)] at sn;refine⟨hl,by omega,by omega,i+1,⟨by omega,up h0⟩,by omega,⟨aac.bool (by rw[sn]),aac.ik hw⟩,aaf.rps1 (by rw[sn]) rfl λj hj=>rfl⟩
 ·obtain⟨e,f⟩:=fin i hi hge hne;have hoi:=hO i;refine⟨λhb=>⟨by omega,?_⟩,λhb=> ?_⟩
  ·refine aac.rps1 (O:=(agy p (L.take i)).1) ?_ rfl λj hj=>rfl;rw[e] at hb ⊢;rw[f,if_neg (by rw[hb];simp)]
  ·rw[e] at hb ⊢;rw[f,if_pos hb];exact aac.refl _
def as5:abF
 |[.o (.s false [.row 6 n e]),.o (.s true [.v (.int .i64 a1),.m b1,.v (.int .i64 c1),.m d1,.v (.int .i64 e1),.m f1])]=>some (.s false [.row 6 (abl aaA (rpv a1 b1 c1 d1 e1 f1) (rdL n e)).length (rpE (abl aaA (rpv a1 b1 c1 d1 e1 f1) (rdL n e)))],[RwP n e,JP a1 b1 c1 d1 e1 f1,amY (rdL n e) (rpv a1 b1 c1 d1 e1 f1)])
 |[.o (.s false [.v (.slice none 0 0)]),.o (.s true [.v (.int .i64 a1),.m b1,.v (.int .i64 c1),.m d1,.v (.int .i64 e1),.m f1])]=>some (.s false [.row 6 (abl aaA (rpv a1 b1 c1 d1 e1 f1) []).length (rpE (abl aaA (rpv a1 b1 c1 d1 e1 f1) []))],[JP a1 b1 c1 d1 e1 f1,amY [] (rpv a1 b1 c1 d1 e1 f1)])
 |_=>none
set_option maxRecDepth 100000 in
theorem atT (D:Prop) (B:Nat):aai Tryz.prog D B 66 (aaF as5):=by
 refine aam (c:=Tryz.f66.body.getD .skip) (aau (ax2 D)) (by kernel_rfl) Tryz.func66 (by kernel_rfl) (by kernel_rfl) ?_ B;intro pvs av ps h hp;unfold as5 at h;split at h
 ·rename_i n e a1 b1 c1 d1 e1 f1;cases h;obtain⟨hr,j1,hw,_⟩:=hp;have q1:=aax j1;clear j1;generalize rpv a1 b1 c1 d1 e1 f1=p1 at *;exact⟨[.s false [.row 6 (rdL n e).length (rpE (rdL n e))],.s true (rpC p1)],[(4,ajU (rdL n e) p1)],aaj.cons (aac.rd hr) (aaj.cons (aac.cells q1) aaj.nil),by rw[Tryz.ntmps66];simp,aiA hw⟩
 ·rename_i a1 b1 c1 d1 e1 f1;cases h;obtain⟨j1,hw,_⟩:=hp;have q1:=aax j1;clear j1;generalize rpv a1 b1 c1 d1 e1 f1=p1 at *;exact⟨[.s false [.row 6 ([]:List Rp).length (rpE [])],.s true (rpC p1)],[(4,ajU [] p1)],aaj.cons (aac.one (CLe.nilrow rfl)) (aaj.cons (aac.cells q1) aaj.nil),by rw[Tryz.ntmps66];simp,aiA hw⟩
 ·cases h
end Go.Proofs.YtcmplpkmfbhpdaaGreat
namespace Go.Proofs.YtcmplpkmfbhpdaaGreat
open Go Go.RowKit
def gKe:List (Nat × Run):=[(127,aaF ayQ)]
theorem aya (D:Prop):∀ p∈gKe,∀ B,aai Tryz.prog D B p.1 p.2:=aad (awO D) λp hp=>by cases hp
def alI (L:List (Rp × Rp)) (s:Rp × Rp):abW:=⟨Nat × Nat,λx=>x.1<=x.2/\x.2<=L.length/\(∀ j,j<x.1->aaV (L.getD j rs0) s<0)/\(∀ j,x.2<=j->j<L.length->¬ aaV (L.getD j rs0) s<0),λx=>⟨[(0,.s false [.row 12 L.length (rsE L)]),(3,.s false [.own 3 0]),(5,.s false [.v (.int .i64 (x.1:Nat))]),(6,.s false [.v (.int .i64 (x.2:Nat))])],[(3,.st 64 (rsC s))]⟩,λx=>x.2-x.1,[],[],none⟩
abbrev awb (L:List (Rp × Rp)) (s:Rp × Rp):Prop:=vc Tryz.prog (lk gKe) Tryz.f68.ntmps [(2,alI L s)] (Tryz.f68.body.getD .skip) ⟨aao [.s false [.row 12 L.length (rsE L)],.s true [.v (.int .i64 s.1.1.sign),.m s.1.1.natAbs,.v (.int .i64 s.1.2.1.sign),.m s.1.2.1.natAbs,.v (.int .i64 s.1.2.2.sign),.m s.1.2.2.natAbs,.v (.int .i64 s.2.1.sign),.m s.2.1.natAbs,.v (.int .i64 s.2.2.1.sign),.m s.2.2.1.natAbs,.v (.int .i64 s.2.2.2.sign),.m s.2.2.2.natAbs]] 0,[]⟩ (aaH Tryz.prog Tryz.f68.results.toList (.s false [.row 12 (abl aaV s L).length (rsE (abl aaV s L))]))
theorem awV (L:List (Rp × Rp)) (s:Rp × Rp):awb L s=(let k1:=λ(zz:Nat × Nat)=>(↑zz.1:Int);let k3:=(↑L.length:Int);let k4:=λ(zz:Nat × Nat)=>(Int.tdiv (IntKind.wrap IntKind.i64 ((k1 zz)+(↑zz.2:Int))) (2:Int));let k5:=λ(zz:Nat × Nat)=>(List.getD L (k1 zz).toNat rs0);let k6:=(0:Int);let k7:=λ(zz:Nat × Nat)=>(AV.s false [aaa.v (Value.int IntKind.i64 (↑zz.2:Int))]);let k8:=AV.s false [aaa.row 12 (abl aaV s L).length (rsE (abl aaV s L))];let k9:=AV.s false [aaa.row 12 L.length (rsE L)];let k11:=λ(zz:Nat × Nat)=>(AV.s false [aaa.v (Value.int IntKind.i64 (k1 zz))]);let k13:=λ(zz:Nat)=>(rpC (List.getD L (zz-0+k6.toNat) rs0).1++rpC (List.getD L (zz-0+k6.toNat) rs0).2);let k14:=aae.st 64 (rsC s);let k16:=λ(zz:Nat)=>(List.getD L zz rs0);let k17:=AV.s false [aaa.own 3 0];let k20:=s.1;let k21:=s.2;let k0:=λ(zz:Nat × Nat)=>(List.getD L (IntKind.wrap IntKind.i64 (k4 zz)).toNat rs0);let k2:=λ(zz:Nat × Nat)=>((k1 zz).toNat-k6.toNat);let k10:=λ(zz:Nat × Nat)=>(0+(k2 zz)+1+(k3.toNat-(k1 zz).toNat));let k12:=(rz k20,rz k21);let k15:=rpC k20++rpC k21;let k18:=λ(zz:Nat × Nat)=>(aaV (rz (k5 zz).1,rz (k5 zz).2) k12 == k6);let k19:=λ(zz:Nat × Nat)=>(aaV (rz (k0 zz).1,rz (k0 zz).2) k12<k6);let p0:=λ(i:Nat × Nat)=>(k6<=k6/\k6<=(k1 i)/\(k1 i)<=k3)/\(0<=(k1 i).toNat-0/\(0+(k2 i))*192<=140737488355328)/\(0<=1/\(0+(k2 i)+1)*192<=140737488355328)/\(k6<=(k1 i)/\(k1 i)<=k3/\k3<=k3)/\(0<=k3.toNat-(k1 i).toNat/\(k10 i)*192<=140737488355328)/\aac (AV.s false [aaa.row 12 (k10 i) λ(j:Nat)=>if j<0+(k2 i)+1 then if j<0+(k2 i) then (k13 j) else List.getD [k15] (j-(0+(k2 i))) [] else rsE L (j-(0+(k2 i)+1)+(k1 i).toNat)]) k8;let p1:=λ(i:Nat × Nat)(i':Nat × Nat)(Z:Prop)=>(i'.1<=i'.2/\i'.2<=L.length/\(∀ (j:Nat),j<i'.1->aaV (k16 j) s<k6)/\∀ (j:Nat),i'.2<=j->j<L.length->¬aaV (k16 j) s<k6)/\i'.2-i'.1<i.2-i.1/\Z;let p2:=λ(i:Nat × Nat)(Z:Prop)=>i.1<=i.2/\i.2<=L.length/\(∀ (j:Nat),j<i.1->aaV (k16 j) s<k6)/\Z;(Exists λ(i:Nat × Nat)=>(p2 i (∀ (j:Nat),i.2<=j->j<L.length->¬aaV (k16 j) s<k6))/\(SmA k9/\SmA k17/\aac (AV.s false [aaa.v (Value.int IntKind.i64 k6)]) (k11 i)/\aac (AV.s false [aaa.v (Value.int IntKind.i64 k3)]) (k7 i)/\True)/\aaf (aae.st 64 k15) k14/\True)/\∀ (i:Nat × Nat),(p2 i (∀ (j:Nat),i.2<=j->j<L.length->¬aaV (k16 j) s<k6))->(decide ((k1 i)<(↑i.2:Int))=true->(2:Int)≠k6/\(k6<=IntKind.wrap IntKind.i64 (k4 i)/\IntKind.wrap IntKind.i64 (k4 i)<k3)/\JZ (k0 i).1/\JZ (k0 i).2/\JZ k20/\JZ k21/\SzR (rz (k0 i).1) 1000/\SzR (rz (k0 i).2) 1000/\SzR (rz k20) 1000/\SzR (rz k21) 1000/\(decide (k19 i)=true->Exists λ(i':Nat × Nat)=>p1 i i' ((SmA k9/\SmA k17/\aac (AV.s false [aaa.v (Value.int IntKind.i64 (IntKind.wrap IntKind.i64 (IntKind.wrap IntKind.i64 (k4 i)+(1:Int))))]) (k11 i')/\aac (k7 i) (k7 i')/\True)/\SmB k14/\True))/\(decide (k19 i)=false->Exists λ(i':Nat × Nat)=>p1 i i' ((SmA k9/\SmA k17/\aac (k11 i) (k11 i')/\aac (AV.s false [aaa.v (Value.int IntKind.i64 (IntKind.wrap IntKind.i64 (k4 i)))]) (k7 i')/\True)/\SmB k14/\True)))/\(decide ((k1 i)<(↑i.2:Int))=false->(decide ((k1 i)<k3)=true->decide ((k1 i)<k3)=true/\(k6<=(k1 i)/\(k1 i)<k3)/\JZ (k5 i).1/\JZ (k5 i).2/\JZ k20/\JZ k21/\SzR (rz (k5 i).1) 1000/\SzR (rz (k5 i).2) 1000/\SzR (rz k20) 1000/\SzR (rz k21) 1000/\((k18 i)=true->aac k9 k8)/\((k18 i)=false->(p0 i)))/\(decide ((k1 i)<k3)=false->decide ((k1 i)<k3)=false/\(p0 i)))):=by kernel_rfl
def rdS:List aaa->Rp × Rp
 |[.v (.int .i64 a),.m b,.v (.int .i64 c),.m d,.v (.int .i64 e),.m f,.v (.int .i64 g),.m h,.v (.int .i64 i),.m j,.v (.int .i64 k),.m l]=>(rpv a b c d e f,rpv g h i j k l)
 |_=>rs0
def rdT (n:Nat) (e:Nat->List aaa):List (Rp × Rp):=(List.range n).map λi=>rdS (e i)
structure RwT (n:Nat) (e:Nat->List aaa):Prop where
 h:∀ i,i<n->e i=rsC (rdS (e i))
theorem awl (p:Rp × Rp):rdS (rsC p)=p:=Prod.ext (ail p.1) (ail p.2)
theorem anY (n:Nat) (e:Nat->List aaa):(rdT n e).length=n:=by simp[rdT]
theorem asf {n:Nat} {e:Nat->List aaa} {i:Nat} (hi:i<n):(rdT n e).getD i rs0=rdS (e i):=by simp[rdT,List.getD,hi]
theorem awk (l:List (Rp × Rp)):rdT l.length (rsE l)=l:=by
 refine List.ext_getElem (anY _ _) λi h1 h2=> ?_;have:=asf (n:=l.length) (e:=rsE l) h2;rw[List.getD_eq_getElem?_getD,List.getElem?_eq_getElem h1] at this;rw[show (rdT l.length (rsE l))[i]=rdS (rsE l i) from this];unfold rsE;rw[awl,List.getD_eq_getElem?_getD,List.getElem?_eq_getElem h2];rfl
theorem RwT.E (l:List (Rp × Rp)):RwT l.length (rsE l):=⟨λi hi=>by unfold rsE;rw[awl]⟩
theorem ar8 (l:List (Rp × Rp)) (i:Nat):(rsE l i).all aaa.cl=true:=rfl
theorem aac.rsx {l:List (Rp × Rp)} {n:Nat} {f:Nat->List aaa} (hn:n=l.length) (hf:∀ i,i<n->f i=rsE l i):aac (.s false [.row 12 n f]) (.s false [.row 12 l.length (rsE l)]):=
 aac.one (CLe.row hn (λi hi=>by rw[hf i hi];exact aan.refl _) (λi hi=>⟨by rw[hf i hi];exact ar8 _ _,ar8 _ _⟩))
theorem aac.rdt {n:Nat} {e:Nat->List aaa} (h:RwT n e):aac (.s false [.row 12 n e]) (.s false [.row 12 (rdT n e).length (rsE (rdT n e))]):=
 aac.rsx (anY n e).symm λi hi=>by unfold rsE;rw[asf hi];exact h.h i hi
structure agE (L:List (Rp × Rp)) (s:Rp × Rp):Prop where
 so:akD L
 o:OkS s
 z:∀ q∈L,SzR q.1 1000/\SzR q.2 1000
 zp:SzR s.1 1000/\SzR s.2 1000
 n:L.length<=100000
theorem gdS {L:List (Rp × Rp)} {i:Nat} (hi:i<L.length):L.getD i rs0∈L:=by
 have:L.getD i rs0=L[i]:=by simp[List.getD,hi]
 rw[this];exact List.getElem_mem hi
theorem agE.lt {L:List (Rp × Rp)} {s:Rp × Rp} (h:agE L s) {i j:Nat} (hi:i<=j) (hj:j<L.length) (hc:aaV (L.getD j rs0) s<0):aaV (L.getD i rs0) s<0:=by
 by_cases e:i=j
 ·rw[e];exact hc
 ·have o1:=h.so.ok _ (gdS (L:=L) (i:=i) (by omega));have o2:=h.so.ok _ (gdS hj);rw[ac0 o2 h.o] at hc;rw[ac0 o1 h.o];refine abc ?_ hc;have:=List.pairwise_iff_getElem.1 h.so.s i j (by omega) hj (by omega);have e1:L.getD i rs0=L[i]:=by simp[List.getD,show i<L.length by omega]
  have e2:L.getD j rs0=L[j]:=by simp[List.getD,hj]
  rw[e1,e2];exact this
theorem agY {p q:Rp × Rp} (hp:OkS p) (hq:OkS q) (h:aaV p q<0):aaV q p≠0/\¬ aaV q p<0:=by
 rw[ac0 hp hq] at h;refine⟨λe=> ?_,λe=> ?_⟩
 ·rw[(afK hq hp).1 e] at h;exact aa0 _ h
 ·exact aa0 _ (abc h ((ac0 hq hp).1 e))
theorem agE.same {L:List (Rp × Rp)} {s:Rp × Rp} (h:agE L s) {k:Nat} (hk:k<L.length) (h1:∀ j,j<k->aaV (L.getD j rs0) s<0) (h0:aaV (L.getD k rs0) s=0):abl aaV s L=L:=by
 have at':∀ j,j<L.length->L[j]? =some (L.getD j rs0):=λj hj=>by simp[List.getD,hj]
 refine agc aaV (k:=k) (z:=L.getD k rs0) (λj x hj hx=> ?_) (at' k hk) ?_
 ·rw[at' j (by omega)] at hx;cases hx;exact agY (h.so.ok _ (gdS (by omega))) h.o (h1 j hj)
 ·rw[afK h.o (h.so.ok _ (gdS hk)),(afK (h.so.ok _ (gdS hk)) h.o).1 h0]
theorem agE.new {L:List (Rp × Rp)} {s:Rp × Rp} (h:agE L s) {k:Nat} (hk:k<=L.length) (h1:∀ j,j<k->aaV (L.getD j rs0) s<0) (h0:k<L.length->aaV (L.getD k rs0) s≠0/\¬ aaV (L.getD k rs0) s<0):abl aaV s L=L.take k++s::L.drop k:=by
 have at':∀ j,j<L.length->L[j]? =some (L.getD j rs0):=λj hj=>by simp[List.getD,hj]
 refine ahA aaV hk (λj x hj hx=> ?_) (λx hx=> ?_)
 ·rw[at' j (by omega)] at hx;cases hx;exact agY (h.so.ok _ (gdS (by omega))) h.o (h1 j hj)
 ·have hk':k<L.length:=by
   rcases Nat.lt_or_ge k L.length with z | z
   ·exact z
   ·rw[List.getElem?_eq_none z] at hx;cases hx
  rw[at' k hk'] at hx;cases hx;have ok:=h.so.ok _ (gdS hk');have g:=alh ok h.o (h0 hk').1 (h0 hk').2;have g':=(ac0 h.o ok).2 g;exact⟨by omega,g'⟩
theorem alH {L:List (Rp × Rp)} {s:Rp × Rp} {k:Nat} (hk:k<=L.length) {j:Nat} (_hj:j<L.length+1):(if j<k+1 then if j<k then rpC (L.getD j rs0).1++rpC (L.getD j rs0).2 else List.getD [rpC s.1++rpC s.2] (j-k) [] else rsE L (j-(k+1)+k))=rsE (L.take k++s::L.drop k) j:=by
 unfold rsE;have hl:(L.take k).length=k:=by rw[List.length_take];omega
 rcases Nat.lt_trichotomy j k with h | h | h
 ·rw[if_pos (by omega),if_pos h,List.getD,List.getD,List.getElem?_append_left (by omega),List.getElem?_take,if_pos h];rfl
 ·subst h;rw[if_pos (by omega),if_neg (by omega),Nat.sub_self,List.getD_eq_getElem?_getD (l:=L.take j++s::L.drop j),List.getElem?_append_right (by omega),hl,Nat.sub_self];rfl
 ·rw[if_neg (by omega),List.getD,List.getD,List.getElem?_append_right (by omega),hl,show j-k=(j-(k+1))+1 by omega,List.getElem?_cons_succ,List.getElem?_drop,show k+(j-(k+1))=j-(k+1)+k from Nat.add_comm _ _]
set_option maxRecDepth 100000 in
theorem aqu {L:List (Rp × Rp)} {s:Rp × Rp} (h:agE L s):awb L s:=by
 rw[awV];simp only[avT,av6,SmA,SmB,aaP,abj,true_and,and_true,decide_eq_true_eq,decide_eq_false_iff_not,Int.toNat_natCast,beq_iff_eq,beq_eq_false_iff_ne,Prod.eta,Int.toNat_zero,Nat.sub_zero,Nat.add_zero,Nat.zero_add];have hn:=h.n;refine⟨⟨(0,L.length),⟨Nat.zero_le _,Nat.le_refl _,λj hj=>absurd hj (Nat.not_lt_zero _),λj h1 h2=>absurd h1 (by omega)⟩,⟨aac.ik rfl,aac.refl _⟩,aaf.refl _⟩,λ⟨lo,hi⟩ ⟨h1,h2,h3,h4⟩=> ?_⟩;simp only at h1 h2 h3 h4 ⊢;refine⟨λhlt=> ?_,λhge=> ?_⟩
 ·have hw:IntKind.wrap .i64 ((lo:Int)+(hi:Int))=((lo+hi:Nat):Int):=by rw[IntKind.wrap_i64]<;>omega
  have hm:IntKind.wrap .i64 (Int.tdiv (IntKind.wrap .i64 ((lo:Int)+(hi:Int))) 2)=(((lo+hi)/2:Nat):Int):=by
   rw[hw,show Int.tdiv ((lo+hi:Nat):Int) 2=(((lo+hi)/2:Nat):Int) from rfl,IntKind.wrap_i64]<;>omega
  rw[hm];simp only[Int.toNat_natCast];have hmm:(lo+hi)/2<L.length:=by omega
  have hw2:IntKind.wrap .i64 ((((lo+hi)/2:Nat):Int)+1)=(((lo+hi)/2+1:Nat):Int):=by rw[IntKind.wrap_i64]<;>omega
  have zm:=h.z _ (gdS hmm);refine⟨by decide,by omega,zm.1,zm.2,h.zp.1,h.zp.2,λhc=>⟨((lo+hi)/2+1,hi),⟨by omega,h2,λj hj=>h.lt (j:=(lo+hi)/2) (by omega) hmm hc,h4⟩,by omega,aac.ik hw2,aac.refl _⟩,λhc=>⟨(lo,(lo+hi)/2),⟨by omega,by omega,h3,λj hj hjl hx=>hc (h.lt hj hjl hx)⟩,by omega,aac.refl _,aac.refl _⟩⟩
 ·obtain rfl:lo=hi:=by omega
  refine⟨λhl=> ?_,λhl=> ?_⟩
  ·have hk:lo<L.length:=by omega
   have zm:=h.z _ (gdS hk);refine⟨hl,by omega,zm.1,zm.2,h.zp.1,h.zp.2,λh0=> ?_,λh0=>⟨by omega,by omega,by omega,by omega,by omega,?_⟩⟩
   ·rw[h.same hk h3 h0];exact aac.refl _
   ·rw[h.new h2 h3 λ_=>⟨h0,h4 lo (Nat.le_refl _) hk⟩];exact aac.rsx (by simp;omega) λj hj=>alH h2 (by omega)
  ·refine⟨hl,by omega,by omega,by omega,by omega,by omega,?_⟩;rw[h.new h2 h3 λhk=>absurd hk (by omega)];exact aac.rsx (by simp;omega) λj hj=>alH h2 (by omega)
def ana:abF
 |[.o (.s false [.row 12 n e]),.o (.s true [.v (.int .i64 a1),.m b1,.v (.int .i64 c1),.m d1,.v (.int .i64 e1),.m f1,.v (.int .i64 a2),.m b2,.v (.int .i64 c2),.m d2,.v (.int .i64 e2),.m f2])]=>some (.s false [.row 12 (abl aaV (rpv a1 b1 c1 d1 e1 f1,rpv a2 b2 c2 d2 e2 f2) (rdT n e)).length (rsE (abl aaV (rpv a1 b1 c1 d1 e1 f1,rpv a2 b2 c2 d2 e2 f2) (rdT n e)))],[RwT n e,JP a1 b1 c1 d1 e1 f1,JP a2 b2 c2 d2 e2 f2,agE (rdT n e) (rpv a1 b1 c1 d1 e1 f1,rpv a2 b2 c2 d2 e2 f2)])
 |_=>none
set_option maxRecDepth 100000 in
theorem aqt (D:Prop) (B:Nat):aai Tryz.prog D B 68 (aaF ana):=by
 refine aam (c:=Tryz.f68.body.getD .skip) (aau (aya D)) (by kernel_rfl) Tryz.func68 (by kernel_rfl) (by kernel_rfl) ?_ B;intro pvs av ps h hp;unfold ana at h;split at h
 ·rename_i n e a1 b1 c1 d1 e1 f1 a2 b2 c2 d2 e2 f2;cases h;obtain⟨hr,j1,j2,hw,_⟩:=hp;have q1:=aax j1;clear j1;generalize rpv a1 b1 c1 d1 e1 f1=p1 at *;have q2:=aax j2;clear j2;generalize rpv a2 b2 c2 d2 e2 f2=p2 at *;exact⟨[.s false [.row 12 (rdT n e).length (rsE (rdT n e))],.s true (rsC (p1,p2))],[(2,alI (rdT n e) (p1,p2))],aaj.cons (aac.rdt hr) (aaj.cons (aac.cells (ado q1 q2)) aaj.nil),by rw[Tryz.ntmps68];simp,aqu hw⟩
 ·cases h
end Go.Proofs.YtcmplpkmfbhpdaaGreat
namespace Go.Proofs.YtcmplpkmfbhpdaaGreat
open Go Go.RowKit
def gOf:List (Nat × Run):=[(66,aaF as5),(67,aaF ayT),(68,aaF ana)]
theorem ax5 (D:Prop):∀ p∈gOf,∀ B,aai Tryz.prog D B p.1 p.2:=aad (atT D) (aad (awU D) (aad (aqt D) λp hp=>by cases hp))
def awu (b:List (Rp × Rp)):abW:=⟨Nat,λi=>i<=b.length,λi=>⟨[(0,.s false [.row 12 b.length (rsE b)]),(3,.s false [.row 12 (ofR b i).length (rsE (ofR b i))]),(4,.s false [.v (.int .i64 (i:Nat))])],[]⟩,λi=>b.length-i,[],[],none⟩
def awt (b:List (Rp × Rp)):abW:=⟨Nat × Nat,λx=>x.1<b.length/\x.2<=b.length,λx=>⟨[(0,.s false [.row 12 b.length (rsE b)]),(3,.s false [.row 12 (ofR b x.1).length (rsE (ofR b x.1))]),(4,.s false [.v (.int .i64 (x.1:Nat))]),(5,.s false [.row 6 (aby b x.1 x.2).length (rpE (aby b x.1 x.2))]),(6,.s false [.v (.int .i64 (x.2:Nat))])],[]⟩,λx=>b.length-x.2,[],[],some λx=>x.1⟩
def ad5 (b:List (Rp × Rp)) (i k:Nat):List Rp:=acL (b.getD i rs0) (b.getD k rs0)
def cutJ (b:List (Rp × Rp)) (i k j:Nat):List Rp:=acT (aby b i k) ((ad5 b i k).take j)
def aws (b:List (Rp × Rp)):abW:=⟨Nat × Nat × Nat,λx=>x.1<b.length/\x.2.1<b.length/\x.2.1≠x.1/\x.2.2<=(ad5 b x.1 x.2.1).length,λx=>⟨[(0,.s false [.row 12 b.length (rsE b)]),(3,.s false [.row 12 (ofR b x.1).length (rsE (ofR b x.1))]),(4,.s false [.v (.int .i64 (x.1:Nat))]),(5,.s false [.row 6 (cutJ b x.1 x.2.1 x.2.2).length (rpE (cutJ b x.1 x.2.1 x.2.2))]),(6,.s false [.v (.int .i64 (x.2.1:Nat))]),(7,.s false [.row 6 (ad5 b x.1 x.2.1).length (rpE (ad5 b x.1 x.2.1))]),(8,.s false [.v (.int .i64 (x.2.2:Nat))])],[]⟩,λx=>(ad5 b x.1 x.2.1).length-x.2.2,[],[],some λx=>x.1*1000+x.2.1⟩
def afu (b:List (Rp × Rp)) (i:Nat):List Rp:=aby b i b.length
def kpJ (b:List (Rp × Rp)) (i j:Nat):List (Rp × Rp):=adl (afu b i) j (ofR b i)
def awr (b:List (Rp × Rp)):abW:=⟨Nat × Nat,λx=>x.1<b.length/\x.2+1<=(afu b x.1).length,λx=>⟨[(0,.s false [.row 12 b.length (rsE b)]),(3,.s false [.row 12 (kpJ b x.1 x.2).length (rsE (kpJ b x.1 x.2))]),(4,.s false [.v (.int .i64 (x.1:Nat))]),(5,.s false [.row 6 (afu b x.1).length (rpE (afu b x.1))]),(9,.s false [.v (.int .i64 ((x.2+1:Nat):Int))])],[]⟩,λx=>(afu b x.1).length-x.2,[],[],some λx=>x.1⟩
abbrev awa (b:List (Rp × Rp)):Prop:=vc Tryz.prog (lk gOf) Tryz.f23.ntmps [(3,awu b),(7,awt b),(12,aws b),(16,awr b)] (Tryz.f23.body.getD .skip) ⟨aao [.s false [.row 12 b.length (rsE b)]] 0,[]⟩ (aaH Tryz.prog Tryz.f23.results.toList (.s false [.row 12 (ofR b b.length).length (rsE (ofR b b.length))]))
theorem awR (b:List (Rp × Rp)):awa b=(let k1:=AV.s false [aaa.row 12 b.length (rsE b)];let k2:=λ(zz:Nat × Nat)=>(AV.s false [aaa.row 6 (aby b zz.1 zz.2).length (rpE (aby b zz.1 zz.2))]);let k6:=λ(zz:Nat × Nat)=>(kpJ b zz.1 zz.2);let k7:=λ(zz:Nat × Nat)=>(AV.s false [aaa.row 12 (ofR b zz.1).length (rsE (ofR b zz.1))]);let k8:=(0:Int);let k9:=(↑b.length:Int);let k10:=λ(zz:Nat × Nat)=>(afu b zz.1);let k11:=λ(zz:Nat × Nat)=>(↑(zz.2+1):Int);let k12:=AV.s false [aaa.v (Value.int IntKind.i64 k8)];let k13:=λ(zz:Nat × Nat)=>(↑zz.2:Int);let k15:=λ(zz:Nat × Nat × Nat)=>zz.2.1;let k16:=(1:Int);let k17:=(k8,k8,k8);let k18:=λ(zz:Nat × Nat)=>(k10 zz).length;let k19:=λ(zz:Nat × Nat)=>(rdT (k6 zz).length (rsE (k6 zz)));let k20:=λ(zz:Nat × Nat)=>(↑zz.1:Int);let k21:=λ(zz:Nat × Nat)=>(AV.s false [aaa.row 12 (k6 zz).length (rsE (k6 zz))]);let k22:=λ(zz:Nat × Nat × Nat)=>(cutJ b zz.1 (k15 zz) zz.2.2);let k23:=λ(zz:Nat × Nat)=>(AV.s false [aaa.v (Value.int IntKind.i64 (k13 zz))]);let k24:=λ(zz:Nat × Nat × Nat)=>(ad5 b zz.1 (k15 zz));let k25:=ofR b b.length;let k26:=λ(zz:Nat × Nat)=>(AV.s false [aaa.row 6 (k18 zz) (rpE (k10 zz))]);let k0:=λ(zz:Nat × Nat)=>(rz (List.getD (k10 zz) (IntKind.wrap IntKind.i64 ((k11 zz)-k16)).toNat k17),rz (List.getD (k10 zz) (k11 zz).toNat k17));let k3:=λ(zz:Nat × Nat)=>(List.getD b (k20 zz).toNat rs0);let k4:=λ(zz:Nat × Nat)=>(List.getD b (k13 zz).toNat rs0);let k5:=λ(zz:Nat × Nat)=>(AV.s false [aaa.v (Value.int IntKind.i64 (k20 zz))]);let k14:=λ(zz:Nat × Nat)=>(acL (rz (k3 zz).1,rz (k3 zz).2) (rz (k4 zz).1,rz (k4 zz).2));(Exists λ(i:Nat)=>i<=b.length/\(SmA k1/\aac (AV.s false [aaa.v (Value.slice none 0 0)]) (AV.s false [aaa.row 12 (ofR b i).length (rsE (ofR b i))])/\aac k12 (AV.s false [aaa.v (Value.int IntKind.i64 (↑i:Int))])/\True)/\True)/\∀ (i:Nat),i<=b.length->(decide ((↑i:Int)<k9)=true->(k8<=(↑i:Int)/\(↑i:Int)<k9)/\JZ (List.getD b (↑i:Int).toNat rs0).1/\amY [] (rz (List.getD b (↑i:Int).toNat rs0).1)/\(k8<=(↑i:Int)/\(↑i:Int)<k9)/\(RwP 1 (rpE (abl aaA (rz (List.getD b (↑i:Int).toNat rs0).1) [])))/\JZ (List.getD b (↑i:Int).toNat rs0).2/\amY (rdL 1 (rpE (abl aaA (rz (List.getD b (↑i:Int).toNat rs0).1) []))) (rz (List.getD b (↑i:Int).toNat rs0).2)/\Exists λ(i0:Nat × Nat)=>(i0.1<b.length/\i0.2<=b.length)/\((SmA k1/\aac (AV.s false [aaa.row 12 (ofR b i).length (rsE (ofR b i))]) (k7 i0)/\aac (AV.s false [aaa.v (Value.int IntKind.i64 (↑i:Int))]) (k5 i0)/\aac (AV.s false [aaa.row 6 (abl aaA (rz (List.getD b (↑i:Int).toNat rs0).2) (rdL 1 (rpE (abl aaA (rz (List.getD b (↑i:Int).toNat rs0).1) [])))).length λ(a:Nat)=>rpE (abl aaA (rz (List.getD b (↑i:Int).toNat rs0).2) (rdL 1 (rpE (abl aaA (rz (List.getD b (↑i:Int).toNat rs0).1) [])))) a]) (k2 i0)/\aac k12 (k23 i0)/\True)/\True)/\∀ (i_1:Nat × Nat),i_1.1<b.length/\i_1.2<=b.length->i_1.1=i0.1->(decide ((k13 i_1)<k9)=true->(((k13 i_1) == (k20 i_1))=true->Exists λ(i':Nat × Nat)=>(i'.1<b.length/\i'.2<=b.length)/\i'.1=i0.1/\b.length-i'.2<b.length-i_1.2/\(SmA k1/\aac (k7 i_1) (AV.s false [aaa.row 12 (ofR b i'.1).length (rsE (ofR b i'.1))])/\aac (k5 i_1) (AV.s false [aaa.v (Value.int IntKind.i64 (↑i'.1:Int))])/\aac (k2 i_1) (AV.s false [aaa.row 6 (aby b i'.1 i'.2).length (rpE (aby b i'.1 i'.2))])/\aac (AV.s false [aaa.v (Value.int IntKind.i64 (IntKind.wrap IntKind.i64 ((k13 i_1)+k16)))]) (AV.s false [aaa.v (Value.int IntKind.i64 (↑i'.2:Int))])/\True)/\True)/\(((k13 i_1) == (k20 i_1))=false->(k8<=(k20 i_1)/\(k20 i_1)<k9)/\(k8<=(k13 i_1)/\(k13 i_1)<k9)/\JZ (k3 i_1).1/\JZ (k3 i_1).2/\JZ (k4 i_1).1/\JZ (k4 i_1).2/\SzR (rz (k3 i_1).1) 100/\SzR (rz (k3 i_1).2) 100/\SzR (rz (k4 i_1).1) 100/\SzR (rz (k4 i_1).2) 100/\Exists λ(i0_1:Nat × Nat × Nat)=>(i0_1.1<b.length/\i0_1.2.1<b.length/\i0_1.2.1≠i0_1.1/\i0_1.2.2<=(k24 i0_1).length)/\((SmA k1/\aac (k7 i_1) (AV.s false [aaa.row 12 (ofR b i0_1.1).length (rsE (ofR b i0_1.1))])/\aac (k5 i_1) (AV.s false [aaa.v (Value.int IntKind.i64 (↑i0_1.1:Int))])/\aac (k2 i_1) (AV.s false [aaa.row 6 (k22 i0_1).length (rpE (k22 i0_1))])/\aac (k23 i_1) (AV.s false [aaa.v (Value.int IntKind.i64 (↑(k15 i0_1):Int))])/\aac (AV.s false [aaa.row 6 (k14 i_1).length (rpE (k14 i_1))]) (AV.s false [aaa.row 6 (k24 i0_1).length (rpE (k24 i0_1))])/\aac k12 (AV.s false [aaa.v (Value.int IntKind.i64 (↑i0_1.2.2:Int))])/\True)/\True)/\∀ (i:Nat × Nat × Nat),i.1<b.length/\i.2.1<b.length/\i.2.1≠i.1/\i.2.2<=(ad5 b i.1 i.2.1).length->i.1*1000+i.2.1=i0_1.1*1000+i0_1.2.1->(decide ((↑i.2.2:Int)<(↑(ad5 b i.1 i.2.1).length:Int))=true->(k8<=(↑i.2.2:Int)/\(↑i.2.2:Int)<(↑(ad5 b i.1 i.2.1).length:Int))/\(RwP (cutJ b i.1 i.2.1 i.2.2).length (rpE (cutJ b i.1 i.2.1 i.2.2)))/\JZ (List.getD (ad5 b i.1 i.2.1) (↑i.2.2:Int).toNat k17)/\amY (rdL (cutJ b i.1 i.2.1 i.2.2).length (rpE (cutJ b i.1 i.2.1 i.2.2))) (rz (List.getD (ad5 b i.1 i.2.1) (↑i.2.2:Int).toNat k17))/\Exists λ(i':Nat × Nat × Nat)=>(i'.1<b.length/\i'.2.1<b.length/\i'.2.1≠i'.1/\i'.2.2<=(ad5 b i'.1 i'.2.1).length)/\i'.1*1000+i'.2.1=i0_1.1*1000+i0_1.2.1/\(ad5 b i'.1 i'.2.1).length-i'.2.2<(ad5 b i.1 i.2.1).length-i.2.2/\(SmA k1/\aac (AV.s false [aaa.row 12 (ofR b i.1).length (rsE (ofR b i.1))]) (AV.s false [aaa.row 12 (ofR b i'.1).length (rsE (ofR b i'.1))])/\aac (AV.s false [aaa.v (Value.int IntKind.i64 (↑i.1:Int))]) (AV.s false [aaa.v (Value.int IntKind.i64 (↑i'.1:Int))])/\aac (AV.s false [aaa.row 6 (abl aaA (rz (List.getD (ad5 b i.1 i.2.1) (↑i.2.2:Int).toNat k17)) (rdL (cutJ b i.1 i.2.1 i.2.2).length (rpE (cutJ b i.1 i.2.1 i.2.2)))).length λ(a:Nat)=>rpE (abl aaA (rz (List.getD (ad5 b i.1 i.2.1) (↑i.2.2:Int).toNat k17)) (rdL (cutJ b i.1 i.2.1 i.2.2).length (rpE (cutJ b i.1 i.2.1 i.2.2)))) a]) (AV.s false [aaa.row 6 (cutJ b i'.1 i'.2.1 i'.2.2).length (rpE (cutJ b i'.1 i'.2.1 i'.2.2))])/\aac (AV.s false [aaa.v (Value.int IntKind.i64 (↑i.2.1:Int))]) (AV.s false [aaa.v (Value.int IntKind.i64 (↑i'.2.1:Int))])/\aac (AV.s false [aaa.row 6 (ad5 b i.1 i.2.1).length (rpE (ad5 b i.1 i.2.1))]) (AV.s false [aaa.row 6 (ad5 b i'.1 i'.2.1).length (rpE (ad5 b i'.1 i'.2.1))])/\aac (AV.s false [aaa.v (Value.int IntKind.i64 (IntKind.wrap IntKind.i64 ((↑i.2.2:Int)+k16)))]) (AV.s false [aaa.v (Value.int IntKind.i64 (↑i'.2.2:Int))])/\True)/\True)/\(decide ((↑i.2.2:Int)<(↑(ad5 b i.1 i.2.1).length:Int))=false->Exists λ(i':Nat × Nat)=>(i'.1<b.length/\i'.2<=b.length)/\i'.1=i0.1/\b.length-i'.2<b.length-i_1.2/\(SmA k1/\aac (AV.s false [aaa.row 12 (ofR b i.1).length (rsE (ofR b i.1))]) (AV.s false [aaa.row 12 (ofR b i'.1).length (rsE (ofR b i'.1))])/\aac (AV.s false [aaa.v (Value.int IntKind.i64 (↑i.1:Int))]) (AV.s false [aaa.v (Value.int IntKind.i64 (↑i'.1:Int))])/\aac (AV.s false [aaa.row 6 (cutJ b i.1 i.2.1 i.2.2).length (rpE (cutJ b i.1 i.2.1 i.2.2))]) (AV.s false [aaa.row 6 (aby b i'.1 i'.2).length (rpE (aby b i'.1 i'.2))])/\aac (AV.s false [aaa.v (Value.int IntKind.i64 (IntKind.wrap IntKind.i64 ((↑i.2.1:Int)+k16)))]) (AV.s false [aaa.v (Value.int IntKind.i64 (↑i'.2:Int))])/\True)/\True)))/\(decide ((k13 i_1)<k9)=false->Exists λ(i0:Nat × Nat)=>(i0.1<b.length/\i0.2+1<=(k10 i0).length)/\((SmA k1/\aac (k7 i_1) (k21 i0)/\aac (k5 i_1) (k5 i0)/\aac (k2 i_1) (k26 i0)/\aac (AV.s false [aaa.v (Value.int IntKind.i64 k16)]) (AV.s false [aaa.v (Value.int IntKind.i64 (k11 i0))])/\True)/\True)/\∀ (i_2:Nat × Nat),i_2.1<b.length/\i_2.2+1<=(k10 i_2).length->i_2.1=i0.1->(decide ((k11 i_2)<(↑(k18 i_2):Int))=true->(k8<=IntKind.wrap IntKind.i64 ((k11 i_2)-k16)/\IntKind.wrap IntKind.i64 ((k11 i_2)-k16)<(↑(k18 i_2):Int))/\(k8<=(k11 i_2)/\(k11 i_2)<(↑(k18 i_2):Int))/\(RwT (k6 i_2).length (rsE (k6 i_2)))/\JZ (List.getD (k10 i_2) (IntKind.wrap IntKind.i64 ((k11 i_2)-k16)).toNat k17)/\JZ (List.getD (k10 i_2) (k11 i_2).toNat k17)/\agE (k19 i_2) (k0 i_2)/\Exists λ(i':Nat × Nat)=>(i'.1<b.length/\i'.2+1<=(afu b i'.1).length)/\i'.1=i0.1/\(afu b i'.1).length-i'.2<(k10 i_2).length-i_2.2/\(SmA k1/\aac (AV.s false [aaa.row 12 (abl aaV (k0 i_2) (k19 i_2)).length λ(a:Nat)=>rsE (abl aaV (k0 i_2) (k19 i_2)) a]) (AV.s false [aaa.row 12 (kpJ b i'.1 i'.2).length (rsE (kpJ b i'.1 i'.2))])/\aac (k5 i_2) (AV.s false [aaa.v (Value.int IntKind.i64 (↑i'.1:Int))])/\aac (k26 i_2) (AV.s false [aaa.row 6 (afu b i'.1).length (rpE (afu b i'.1))])/\aac (AV.s false [aaa.v (Value.int IntKind.i64 (IntKind.wrap IntKind.i64 ((k11 i_2)+k16)))]) (AV.s false [aaa.v (Value.int IntKind.i64 (↑(i'.2+1):Int))])/\True)/\True)/\(decide ((k11 i_2)<(↑(k18 i_2):Int))=false->Exists λ(i':Nat)=>i'<=b.length/\b.length-i'<b.length-i/\(SmA k1/\aac (k21 i_2) (AV.s false [aaa.row 12 (ofR b i').length (rsE (ofR b i'))])/\aac (AV.s false [aaa.v (Value.int IntKind.i64 (IntKind.wrap IntKind.i64 ((k20 i_2)+k16)))]) (AV.s false [aaa.v (Value.int IntKind.i64 (↑i':Int))])/\True)/\True)))/\(decide ((↑i:Int)<k9)=false->aac (AV.s false [aaa.row 12 (ofR b i).length (rsE (ofR b i))]) (AV.s false [aaa.row 12 k25.length (rsE k25)]))):=by kernel_rfl
structure OfW (b:List (Rp × Rp)):Prop where
 ok:∀ s∈b,OkS s
 z:∀ s∈b,SzR s.1 100/\SzR s.2 100
 n:b.length<=14
theorem aiK {x:Rp} : ∀ {r c:List Rp},x∈acT c r->x∈c\/x∈r
 |[],c,h=> .inl h
 |p::r,c,h=>by
  rcases aiK (r:=r) (c:=abl aaA p c) h with h | h
  ·rcases ac2 aaA h with h | h
   ·exact .inr (by rw[h];exact List.mem_cons_self)
   ·exact .inl h
  ·exact .inr (List.mem_cons_of_mem _ h)
theorem af5:∀ (r c:List Rp),c.length<=(acT c r).length/\(acT c r).length<=c.length+r.length
 |[],c=>⟨Nat.le_refl _,Nat.le_refl _⟩
 |p::r,c=>by
  have h:=af5 r (abl aaA p c);have:=afl aaA p c;rw[show acT c (p::r)=acT (abl aaA p c) r from rfl,List.length_cons];omega
structure PL (l:List Rp) (n:Nat):Prop where
 so:aii l
 z:∀ q∈l,SzR q 1000
 n:l.length<=n
theorem PL.put {c:List Rp} {n m:Nat} (h:PL c n) {r:List Rp} (hr:∀ p∈r,OkR p/\SzR p 1000) (hm:n+r.length<=m):PL (acT c r) m:=by
 refine⟨(ahL h.so λp hp=>(hr p hp).1).1,λq hq=> ?_,?_⟩
 ·rcases aiK hq with hq | hq
  ·exact h.z q hq
  ·exact (hr q hq).2
 ·have h1:=(af5 r c).2;have h2:=h.n;omega
theorem PL.w {c:List Rp} {n:Nat} (h:PL c n) (hn:n<=100000) {p:Rp} (hp:OkR p/\SzR p 1000):amY c p:=by
 have h2:=h.n;exact⟨h.so,hp.1,h.z,hp.2,by omega⟩
theorem PL.nil:PL [] 0:=⟨aii.nil,λq hq=>(by cases hq),Nat.le_refl _⟩
theorem OfW.at {b:List (Rp × Rp)} (h:OfW b) {i:Nat} (hi:i<b.length):OkS (b.getD i rs0)/\SzR (b.getD i rs0).1 100/\SzR (b.getD i rs0).2 100:=⟨h.ok _ (gdS hi),h.z _ (gdS hi)⟩
theorem OfW.ends {b:List (Rp × Rp)} (h:OfW b) {i:Nat} (hi:i<b.length):(OkR (b.getD i rs0).1/\SzR (b.getD i rs0).1 1000)/\OkR (b.getD i rs0).2/\SzR (b.getD i rs0).2 1000:=by
 obtain⟨o,z1,z2⟩:=h.at hi;exact⟨⟨o.1,z1.mono (by decide)⟩,o.2,z2.mono (by decide)⟩
theorem aqK {s t:Rp × Rp} (z1:SzR s.1 100) (z2:SzR s.2 100) (z3:SzR t.1 100) (z4:SzR t.2 100):(∀ p∈acL s t,SzR p 1000)/\(acL s t).length<=2:=by
 have zc:SzR (aa2 s t) 1000:=aiI (a1:=s.1) (a2:=s.2) (a3:=t.1) (a4:=t.2) z1 z2 z3 z4;have y1:SzR s.1 1000:=z1.mono (by decide);have y2:SzR s.2 1000:=z2.mono (by decide);have y3:SzR t.1 1000:=z3.mono (by decide);have y4:SzR t.2 1000:=z4.mono (by decide);have zz:∀ p∈[s.1,s.2,t.1,t.2],SzR p 1000:=λp hp=>by
  simp only[List.mem_cons,List.not_mem_nil,or_false] at hp;rcases hp with rfl | rfl | rfl | rfl<;>assumption
 have em:∀ p∈aim s t,SzR p 1000:=adD zz 4;by_cases hp:ajs s t=true
 ·have hp':(!ajs s t)=false:=by rw[hp];rfl
  obtain⟨e1,e2⟩:=agW hp';rcases (show aim s t=[]\/∃ a b,aim s t=[a,b] from ach s t 4) with e | ⟨a,c,e⟩
  ·rw[e1 e];exact⟨λp hp=>(by cases hp),Nat.zero_le _⟩
  ·rw[e2 a c e];rw[e] at em;split
   ·exact⟨λp hp=>em p (by rw[List.mem_singleton.1 hp];exact List.mem_cons_self),by simp⟩
   ·exact⟨em,by simp⟩
 ·rw[agn (by simpa using hp)];split
  ·exact⟨λp hp=>by rw[List.mem_singleton.1 hp];exact zc,by simp⟩
  ·exact⟨λp hp=>(by cases hp),Nat.zero_le _⟩
theorem OfW.meet {b:List (Rp × Rp)} (h:OfW b) {i k:Nat} (hi:i<b.length) (hk:k<b.length):(∀ p∈ad5 b i k,OkR p/\SzR p 1000)/\(ad5 b i k).length<=2:=by
 obtain⟨o1,a1,a2⟩:=h.at hi;obtain⟨o2,a3,a4⟩:=h.at hk;have:=aqK a1 a2 a3 a4;exact⟨λp hp=>⟨(aes o1 o2).1 p hp,this.1 p hp⟩,this.2⟩
theorem OfW.cuts {b:List (Rp × Rp)} (h:OfW b) {i:Nat} (hi:i<b.length):∀ {k:Nat},k<=b.length->PL (aby b i k) (2+2*k)/\1<=(aby b i k).length
 |0,_=>by
  obtain⟨e1,e2⟩:=h.ends hi;have e:aby b i 0=acT [] [(b.getD i rs0).1,(b.getD i rs0).2]:=rfl;refine⟨?_,?_⟩
  ·rw[e];exact PL.nil.put (λp hp=>by
    simp only[List.mem_cons,List.not_mem_nil,or_false] at hp;rcases hp with rfl | rfl
    ·exact e1
    ·exact e2) (by simp)
  ·rw[ahc];exact (afl aaA (b.getD i rs0).2 (abl aaA (b.getD i rs0).1 [])).1
 |k+1,hk=>by
  obtain⟨h1,h2⟩:=h.cuts hi (k:=k) (by omega);rw[aeU];have hm:=h.meet hi (show k<b.length by omega);refine⟨h1.put (λp hp=> ?_) ?_,Nat.le_trans h2 (af5 _ _).1⟩
  ·split at hp
   ·cases hp
   ·exact hm.1 p hp
  ·split
   ·simp only[List.length_nil];omega
   ·have:=hm.2;unfold ad5 at this;omega
theorem OfW.cutJ {b:List (Rp × Rp)} (h:OfW b) {i k j:Nat} (hi:i<b.length) (hk:k<b.length):PL (cutJ b i k j) 100:=by
 have hm:=h.meet hi hk;have hn:=h.n;refine (h.cuts hi (Nat.le_of_lt hk)).1.put (λp hp=>hm.1 p (List.mem_of_mem_take hp)) ?_;have:=hm.2;rw[List.length_take];omega
theorem apG {b:List (Rp × Rp)} {i k j:Nat} (hj:j<(ad5 b i k).length):cutJ b i k (j+1)=abl aaA ((ad5 b i k).getD j (0,0,0)) (cutJ b i k j):=by
 unfold cutJ;rw[afY _ hj,aiL];rfl
theorem arK {b:List (Rp × Rp)} {i k j:Nat} (hj:(ad5 b i k).length<=j) (hk:k≠i):cutJ b i k j=aby b i (k+1):=by
 unfold cutJ;rw[aeU,if_neg hk,List.take_of_length_le hj];rfl
theorem apE (b:List (Rp × Rp)) (i:Nat):aby b i (i+1)=aby b i i:=by rw[aeU,if_pos rfl];rfl
structure TL (l:List (Rp × Rp)) (n:Nat):Prop where
 so:akD l
 z:∀ q∈l,SzR q.1 1000/\SzR q.2 1000
 n:l.length<=n
theorem gdP {l:List Rp} {i:Nat} (hi:i<l.length):l.getD i (0,0,0)∈l:=by
 have:l.getD i (0,0,0)=l[i]:=by simp[List.getD,hi]
 rw[this];exact List.getElem_mem hi
theorem TL.keep {c:List Rp} (hc:aii c) (hz:∀ q∈c,SzR q 1000) {out:List (Rp × Rp)} {n:Nat} (h:TL out n):∀ {m:Nat},m<c.length->TL (adl c m out) (n+m)
 |0,_=>h
 |m+1,hm=>by
  have ih:=TL.keep hc hz h (m:=m) (by omega);refine⟨(aeS hc (m:=m+1) (out:=out) (by omega) h.so).1,λq hq=> ?_,?_⟩
  ·rw[ac7] at hq;rcases ac2 aaV hq with hq | hq
   ·rw[hq];exact⟨hz _ (gdP (by omega)),hz _ (gdP hm)⟩
   ·exact ih.z q hq
  ·rw[ac7];have h1:=(afl aaV (c.getD m (0,0,0),c.getD (m+1) (0,0,0)) (adl c m out)).2;have h2:=ih.n;omega
theorem OfW.of {b:List (Rp × Rp)} (h:OfW b):∀ {i:Nat},i<=b.length->TL (ofR b i) (40*i)
 |0,_=>⟨akD.nil,λq hq=>(by cases hq),Nat.le_refl _⟩
 |i+1,hi=>by
  have ih:=h.of (i:=i) (by omega);obtain⟨c1,c2⟩:=h.cuts (show i<b.length by omega) (Nat.le_refl _);have hn:=h.n;have hc:=c1.n;rw[ahR];have:=TL.keep c1.so c1.z ih (m:=(aby b i b.length).length-1) (by omega);exact⟨this.so,this.z,by have:=this.n;omega⟩
theorem OfW.kp {b:List (Rp × Rp)} (h:OfW b) {i j:Nat} (hi:i<b.length) (hj:j+1<(afu b i).length):agE (kpJ b i j) ((afu b i).getD j (0,0,0),(afu b i).getD (j+1) (0,0,0)):=by
 obtain⟨c1,c2⟩:=h.cuts hi (Nat.le_refl _);have hn:=h.n;have hc:=c1.n;have t:=TL.keep c1.so c1.z (h.of (Nat.le_of_lt hi)) (m:=j) (show j<(afu b i).length by omega);have tn:=t.n;have hj':j+1<(aby b i b.length).length:=hj;exact⟨t.so,⟨c1.so.ok _ (gdP (l:=afu b i) (by omega)),c1.so.ok _ (gdP (l:=afu b i) hj)⟩,t.z,⟨c1.z _ (gdP (l:=afu b i) (by omega)),c1.z _ (gdP (l:=afu b i) hj)⟩,Nat.le_trans t.n (by omega)⟩
theorem aac.rpq {l l':List Rp} (h:l=l'):aac (.s false [.row 6 l.length (rpE l)]) (.s false [.row 6 l'.length (rpE l')]):=by rw[h];exact aac.refl _
theorem aac.rsq {l l':List (Rp × Rp)} (h:l=l'):aac (.s false [.row 12 l.length (rsE l)]) (.s false [.row 12 l'.length (rsE l')]):=by rw[h];exact aac.refl _
set_option maxRecDepth 100000 in
theorem aqo {b:List (Rp × Rp)} (h:OfW b):awa b:=by
 rw[awR];simp only[avT,av6,SmA,aaP,true_and,and_true,decide_eq_true_eq,decide_eq_false_iff_not,Int.toNat_natCast,beq_iff_eq,beq_eq_false_iff_ne,Prod.eta,atd,awk];have hn:=h.n;have up:∀ k:Nat,k<=1000->IntKind.wrap .i64 ((k:Int)+1)=((k+1:Nat):Int):=λk hk=>by rw[IntKind.wrap_i64]<;>omega
 refine⟨⟨0,Nat.zero_le _,aac.one (CLe.nilrow rfl),aac.ik rfl⟩,λi hi=>⟨λhlt=> ?_,λhge=> ?_⟩⟩
 ·have hi':i<b.length:=by omega
  obtain⟨e1,e2⟩:=h.ends hi';have p1:PL [(b.getD i rs0).1] 1:=PL.nil.put (r:=[(b.getD i rs0).1]) (λp hp=>by rw[List.mem_singleton.1 hp];exact e1) (by simp);refine⟨by omega,PL.nil.w (by omega) e1,by omega,RwP.E [(b.getD i rs0).1],?_,?_⟩
  ·have:=p1.w (by omega) e2;rwa [<- atd [(b.getD i rs0).1]] at this
  ·refine⟨(i,0),⟨hi',Nat.zero_le _⟩,⟨aac.refl _,aac.refl _,aac.rpq ?_,aac.ik rfl⟩,λ⟨i1,k⟩ ⟨g1,g2⟩ g3=> ?_⟩
   ·rw[show rdL 1 (rpE (abl aaA (b.getD i rs0).1 []))=[(b.getD i rs0).1] from atd [(b.getD i rs0).1],ahc];rfl
   ·simp only at g1 g2 g3 ⊢;subst g3;refine⟨λklt=>⟨λke=> ?_,λkne=> ?_⟩,λkge=> ?_⟩
    ·obtain rfl:k=i1:=by omega
     exact⟨(k,k+1),⟨g1,by show k+1<=_;omega⟩,rfl,by show b.length-(k+1)<b.length-k;omega,aac.refl _,aac.refl _,aac.rpq (apE b k).symm,aac.ik (up k (by omega))⟩
    ·have hk:k<b.length:=by omega
     obtain⟨_,a1,a2⟩:=h.at g1;obtain⟨_,a3,a4⟩:=h.at hk;refine⟨by omega,by omega,a1,a2,a3,a4,(i1,k,0),⟨g1,hk,by show k≠i1;omega,Nat.zero_le _⟩,⟨aac.refl _,aac.refl _,aac.refl _,aac.refl _,aac.refl _,aac.ik rfl⟩,λ⟨i2,k2,j⟩ ⟨f1,f2,f3,f4⟩ f5=> ?_⟩;simp only at f1 f2 f3 f4 f5 ⊢;obtain⟨rfl,rfl⟩:i2=i1/\k2=k:=by omega
     have hm:=h.meet f1 f2;refine⟨λjlt=> ?_,λjge=> ?_⟩
     ·have hj:j<(ad5 b i2 k2).length:=by omega
      refine⟨by omega,RwP.E _,(h.cutJ f1 f2).w (by omega) (hm.1 _ (gdP hj)),(i2,k2,j+1),⟨f1,f2,f3,hj⟩,rfl,by show (ad5 b i2 k2).length-(j+1)<(ad5 b i2 k2).length-j;omega,aac.refl _,aac.refl _,aac.rpq (apG hj).symm,aac.refl _,aac.refl _,aac.ik (up j (by omega))⟩
     ·exact⟨(i2,k2+1),⟨f1,by show k2+1<=_;omega⟩,rfl,by show b.length-(k2+1)<b.length-k2;omega,aac.refl _,aac.refl _,aac.rpq (arK (by omega) f3),aac.ik (up k2 (by omega))⟩
    ·obtain rfl:k=b.length:=by omega
     obtain⟨c1,c2⟩:=h.cuts g1 (Nat.le_refl _);have cn:=c1.n;refine⟨(i1,0),⟨g1,c2⟩,⟨aac.refl _,aac.refl _,aac.refl _,aac.ik rfl⟩,λ⟨i2,j⟩ ⟨f1,f2⟩ f3=> ?_⟩;simp only at f1 f2 f3 ⊢;subst f3;have cl:(afu b i2).length<=30:=Nat.le_trans c1.n (by omega);have hw:IntKind.wrap .i64 (((j+1:Nat):Int)-1)=((j:Nat):Int):=by rw[IntKind.wrap_i64]<;>omega
     rw[hw];simp only[Int.toNat_natCast];refine⟨λjlt=> ?_,λjge=> ?_⟩
     ·have hj:j+1<(afu b i2).length:=by omega
      exact⟨by omega,by omega,RwT.E _,h.kp f1 hj,(i2,j+1),⟨f1,hj⟩,rfl,by show (afu b i2).length-(j+1)<(afu b i2).length-j;omega,aac.rsq (ac7 _ _ _).symm,aac.refl _,aac.refl _,aac.ik (up (j+1) (by omega))⟩
     ·have hj:j=(afu b i2).length-1:=by omega
      refine⟨i2+1,by omega,by omega,aac.rsq ?_,aac.ik (up i2 (by omega))⟩;rw[ahR,hj];rfl
 ·obtain rfl:i=b.length:=by omega
  exact aac.refl _
def ayS:abF
 |[.o (.s false [.row 12 n e])]=>some (.s false [.row 12 (ofR (rdT n e) (rdT n e).length).length (rsE (ofR (rdT n e) (rdT n e).length))],[RwT n e,OfW (rdT n e)])
 |_=>none
set_option maxRecDepth 100000 in
theorem awS (D:Prop) (B:Nat):aai Tryz.prog D B 23 (aaF ayS):=by
 refine aam (c:=Tryz.f23.body.getD .skip) (aau (ax5 D)) (by kernel_rfl) Tryz.func23 (by kernel_rfl) (by kernel_rfl) ?_ B;intro pvs av ps h hp;unfold ayS at h;split at h
 ·rename_i n e;cases h;obtain⟨hr,hw,_⟩:=hp;exact⟨[.s false [.row 12 (rdT n e).length (rsE (rdT n e))]],[(3,awu (rdT n e)),(7,awt (rdT n e)),(12,aws (rdT n e)),(16,awr (rdT n e))],aaj.cons (aac.rdt hr) aaj.nil,by rw[Tryz.ntmps23];simp,aqo hw⟩
 ·cases h
end Go.Proofs.YtcmplpkmfbhpdaaGreat
