import Derived.Test.YtcmplpkmfbhpdaaGreatRnF
namespace Go.Proofs.YtcmplpkmfbhpdaaGreat
open Go Go.RowKit
def aAo:List (Nat × Run):=[(123,aaF amZ)]
theorem avi (D:Prop):∀ p∈aAo,∀ B,aai Tryz.prog D B p.1 p.2:=aad (ajF D) λp hp=>by cases hp
theorem awN (s1:Rp × Rp) (s2:Rp × Rp):vc Tryz.prog (lk aAo) Tryz.f127.ntmps [] (Tryz.f127.body.getD .skip) ⟨aao [.s true [.v (.int .i64 s1.1.1.sign),.m s1.1.1.natAbs,.v (.int .i64 s1.1.2.1.sign),.m s1.1.2.1.natAbs,.v (.int .i64 s1.1.2.2.sign),.m s1.1.2.2.natAbs,.v (.int .i64 s1.2.1.sign),.m s1.2.1.natAbs,.v (.int .i64 s1.2.2.1.sign),.m s1.2.2.1.natAbs,.v (.int .i64 s1.2.2.2.sign),.m s1.2.2.2.natAbs],.s true [.v (.int .i64 s2.1.1.sign),.m s2.1.1.natAbs,.v (.int .i64 s2.1.2.1.sign),.m s2.1.2.1.natAbs,.v (.int .i64 s2.1.2.2.sign),.m s2.1.2.2.natAbs,.v (.int .i64 s2.2.1.sign),.m s2.2.1.natAbs,.v (.int .i64 s2.2.2.1.sign),.m s2.2.2.1.natAbs,.v (.int .i64 s2.2.2.2.sign),.m s2.2.2.2.natAbs]] 0,[]⟩ (aaH Tryz.prog Tryz.f127.results.toList (.s false [.v (.int .i64 (aaV s1 s2))]))=(let k4:=s1.1.2;let k5:=s2.1.2;let k6:=s1.2.2;let k7:=s2.2.2;let k8:=AV.s false [aaa.v (Value.int IntKind.i64 (aaV s1 s2))];let k10:=s1.1.1;let k11:=s2.1.1;let k12:=s1.2.1;let k13:=s2.2.1;let k0:=(jv k10.sign k10.natAbs,jv k4.1.sign k4.1.natAbs,jv k4.2.sign k4.2.natAbs);let k1:=(jv k11.sign k11.natAbs,jv k5.1.sign k5.1.natAbs,jv k5.2.sign k5.2.natAbs);let k2:=(jv k12.sign k12.natAbs,jv k6.1.sign k6.1.natAbs,jv k6.2.sign k6.2.natAbs);let k3:=(jv k13.sign k13.natAbs,jv k7.1.sign k7.1.natAbs,jv k7.2.sign k7.2.natAbs);let k9:=aaA k0 k1 != (0:Int);JP k10.sign k10.natAbs k4.1.sign k4.1.natAbs k4.2.sign k4.2.natAbs/\JP k11.sign k11.natAbs k5.1.sign k5.1.natAbs k5.2.sign k5.2.natAbs/\SzR k0 1000/\SzR k1 1000/\(k9=true->aac (AV.s false [aaa.v (Value.int IntKind.i64 (aaA k0 k1))]) k8)/\(k9=false->JP k12.sign k12.natAbs k6.1.sign k6.1.natAbs k6.2.sign k6.2.natAbs/\JP k13.sign k13.natAbs k7.1.sign k7.1.natAbs k7.2.sign k7.2.natAbs/\SzR k2 1000/\SzR k3 1000/\aac (AV.s false [aaa.v (Value.int IntKind.i64 (aaA k2 k3))]) k8)):=by kernel_rfl
def ayQ:abF
 |[.o (.s true [.v (.int .i64 a1),.m b1,.v (.int .i64 c1),.m d1,.v (.int .i64 e1),.m f1,.v (.int .i64 a2),.m b2,.v (.int .i64 c2),.m d2,.v (.int .i64 e2),.m f2]),.o (.s true [.v (.int .i64 a3),.m b3,.v (.int .i64 c3),.m d3,.v (.int .i64 e3),.m f3,.v (.int .i64 a4),.m b4,.v (.int .i64 c4),.m d4,.v (.int .i64 e4),.m f4])]=>some (.s false [.v (.int .i64 (aaV (rpv a1 b1 c1 d1 e1 f1,rpv a2 b2 c2 d2 e2 f2) (rpv a3 b3 c3 d3 e3 f3,rpv a4 b4 c4 d4 e4 f4)))],[JP a1 b1 c1 d1 e1 f1,JP a2 b2 c2 d2 e2 f2,JP a3 b3 c3 d3 e3 f3,JP a4 b4 c4 d4 e4 f4,SzR (rpv a1 b1 c1 d1 e1 f1) 1000,SzR (rpv a2 b2 c2 d2 e2 f2) 1000,SzR (rpv a3 b3 c3 d3 e3 f3) 1000,SzR (rpv a4 b4 c4 d4 e4 f4) 1000])
 |_=>none
set_option maxRecDepth 100000 in
theorem awO (D:Prop) (B:Nat):aai Tryz.prog D B 127 (aaF ayQ):=by
 refine aam (c:=Tryz.f127.body.getD .skip) (aau (avi D)) (by kernel_rfl) Tryz.func127 (by kernel_rfl) (by kernel_rfl) ?_ B;intro pvs av ps h hp;unfold ayQ at h;split at h
 ·rename_i a1 b1 c1 d1 e1 f1 a2 b2 c2 d2 e2 f2 a3 b3 c3 d3 e3 f3 a4 b4 c4 d4 e4 f4;cases h;obtain⟨j1,j2,j3,j4,z1,z2,z3,z4,_⟩:=hp;have q1:=aax j1;clear j1;generalize rpv a1 b1 c1 d1 e1 f1=a1 at *;have q2:=aax j2;clear j2;generalize rpv a2 b2 c2 d2 e2 f2=a2 at *;have q3:=aax j3;clear j3;generalize rpv a3 b3 c3 d3 e3 f3=a3 at *;have q4:=aax j4;clear j4;generalize rpv a4 b4 c4 d4 e4 f4=a4 at *;refine⟨[.s true [.v (.int .i64 (a1,a2).1.1.sign),.m (a1,a2).1.1.natAbs,.v (.int .i64 (a1,a2).1.2.1.sign),.m (a1,a2).1.2.1.natAbs,.v (.int .i64 (a1,a2).1.2.2.sign),.m (a1,a2).1.2.2.natAbs,.v (.int .i64 (a1,a2).2.1.sign),.m (a1,a2).2.1.natAbs,.v (.int .i64 (a1,a2).2.2.1.sign),.m (a1,a2).2.2.1.natAbs,.v (.int .i64 (a1,a2).2.2.2.sign),.m (a1,a2).2.2.2.natAbs],.s true [.v (.int .i64 (a3,a4).1.1.sign),.m (a3,a4).1.1.natAbs,.v (.int .i64 (a3,a4).1.2.1.sign),.m (a3,a4).1.2.1.natAbs,.v (.int .i64 (a3,a4).1.2.2.sign),.m (a3,a4).1.2.2.natAbs,.v (.int .i64 (a3,a4).2.1.sign),.m (a3,a4).2.1.natAbs,.v (.int .i64 (a3,a4).2.2.1.sign),.m (a3,a4).2.2.1.natAbs,.v (.int .i64 (a3,a4).2.2.2.sign),.m (a3,a4).2.2.2.natAbs]],[],aaj.cons (aac.cells (ado q1 q2)) (aaj.cons (aac.cells (ado q3 q4)) (aaj.nil)),by rw[Tryz.ntmps127];simp,?_⟩;clear q1 q2 q3 q4;rw[awN];simp only[agz,as3,true_and];obtain⟨x1,y1,w1⟩:=z1;obtain⟨x2,y2,w2⟩:=z2;obtain⟨x3,y3,w3⟩:=z3;obtain⟨x4,y4,w4⟩:=z4;have z1:SzR a1 1000:=⟨x1,y1,w1⟩
  have z2:SzR a2 1000:=⟨x2,y2,w2⟩
  have z3:SzR a3 1000:=⟨x3,y3,w3⟩
  have z4:SzR a4 1000:=⟨x4,y4,w4⟩
  refine⟨z1,z3,λh=> ?_,λh=>⟨z2,z4,?_⟩⟩
  ·have hne:aaA a1 a3≠0:=bne_iff_ne.1 h;unfold aaV;rw[if_pos hne];exact aac.refl _
  ·have he:¬ aaA a1 a3≠0:=λhh=>by
    have h:(aaA a1 a3 != 0)=false:=h;rw[bne_iff_ne.2 hh] at h;cases h
   unfold aaV;rw[if_neg he];exact aac.refl _
 ·cases h
end Go.Proofs.YtcmplpkmfbhpdaaGreat
namespace Go.Proofs.YtcmplpkmfbhpdaaGreat
open Go Go.RowKit
def rz (p:Rp):Rp:=rpv p.1.sign p.1.natAbs p.2.1.sign p.2.1.natAbs p.2.2.sign p.2.2.natAbs
theorem avT (p:Rp):rz p=p:=ail p
def JZ (p:Rp):Prop:=JP p.1.sign p.1.natAbs p.2.1.sign p.2.1.natAbs p.2.2.sign p.2.2.natAbs
theorem av6 (p:Rp):JZ p=True:=as3 p
def gMe:List (Nat × Run):=[(123,aaF amZ),(126,aaF ayR),(124,aaF as6),(125,aaF as7)]
theorem ax6 (D:Prop):∀ p∈gMe,∀ B,aai Tryz.prog D B p.1 p.2:=aad (ajF D) (aad (awQ D) (aad (atV D) (aad (at0 D) λp hp=>by cases hp)))
def rpE (l:List Rp):Nat->List aaa:=λi=>rpC (l.getD i (0,0,0))
def aa3 (s t:Rp × Rp) (j:Nat):List Rp:=([s.1,s.2,t.1,t.2].take j).foldl (rst s t) []
def meJ (s t:Rp × Rp) (j:Nat):abW:=⟨Unit,λ_=>True,λ_=>⟨[(2,.s false [.own 2 0]),(3,.s false [.own 3 0]),(6,.s false [.own 6 0]),(7,.s false [.hd 900]),(8,.s false [.v (.int .i64 (j:Nat))])],
 [(2,.st 64 (rsC s)),(3,.st 64 (rsC t)),(6,.st 183 (rpC s.1++(rpC s.2++(rpC t.1++rpC t.2)))),(900,.row 62 6 (aa3 s t j).length (rpE (aa3 s t j)))]⟩,λ_=>0,match j with | 0=>[.nil 7 900 62 6] | _=>[.ren 62 900],[],none⟩
def meU:abW:=⟨Unit,λ_=>True,λ_=>⟨[],[]⟩,λ_=>0,[.ren 0 0,.ren 0 0,.ren 0 0,.ren 0 0,.ren 0 0],[],none⟩
theorem ach (s t:Rp × Rp):∀ j,aa3 s t j=[]\/∃ a b,aa3 s t j=[a,b]:=by
 have step:∀ (p:Rp) (O:List Rp),(O=[]\/∃ a b,O=[a,b])->(rst s t O p=[]\/∃ a b,rst s t O p=[a,b]):=by
  intro p O h;unfold rst;split
  ·split
   ·exact .inr ⟨_,_,rfl⟩
   ·exact .inr ⟨_,_,rfl⟩
  ·exact h
 have all:∀ (l O:List Rp),(O=[]\/∃ a b,O=[a,b])->(l.foldl (rst s t) O=[]\/∃ a b,l.foldl (rst s t) O=[a,b]):=by
  intro l;induction l with
  |nil=>intro O h;exact h
  |cons p l ih=>intro O h;exact ih _ (step p O h)
 intro j;exact all _ _ (.inl rfl)
theorem adD {s t:Rp × Rp} {P:Rp->Prop} (h:∀ p∈[s.1,s.2,t.1,t.2],P p) (j:Nat):∀ p∈aa3 s t j,P p:=by
 have all:∀ (l O:List Rp),(∀ p∈O,P p)->(∀ p∈l,P p)->∀ p∈l.foldl (rst s t) O,P p:=by
  intro l;induction l with
  |nil=>intro O h _;exact h
  |cons q l ih=>
   intro O h1 h2;refine ih _ (λp hp=> ?_) (λp hp=>h2 p (List.mem_cons_of_mem _ hp));have hq:=h2 q List.mem_cons_self;unfold rst at hp;split at hp
   ·split at hp
    ·simp only[List.mem_cons,List.not_mem_nil,or_false] at hp;rcases hp with rfl | rfl
     ·split
      ·exact hq
      ·exact h1 _ (by simp)
     ·split
      ·exact hq
      ·exact h1 _ (by simp)
    ·simp only[List.mem_cons,List.not_mem_nil,or_false,or_self] at hp;rw[hp];exact hq
   ·exact h1 p hp
 exact all _ _ (λp hp=>by cases hp) (λp hp=>h p (List.mem_of_mem_take hp))
theorem ani (l:List Rp) (i:Nat):(rpE l i).all aaa.cl=true:=rfl
theorem aaf.rpx {T:TypeId} {l:List Rp} {n:Nat} {f:Nat->List aaa} (hn:n=l.length) (hf:∀ i,i<n->f i=rpE l i):aaf (.row T 6 n f) (.row T 6 l.length (rpE l)):=
 aaf.row hn (λi hi=>by rw[hf i hi];exact aan.refl _) (λi hi=>ani _ _)
theorem aaf.rp2 {T:TypeId} {l:List Rp} {x y:Rp} {f:Nat->List aaa} (hl:l=[x,y]) (h0:f 0=rpC x) (h1:f 1=rpC y):aaf (.row T 6 2 f) (.row T 6 l.length (rpE l)):=by
 subst hl;refine aaf.rpx rfl λi hi=> ?_;match i,hi with
 |0,_=>exact h0
 |1,_=>exact h1
theorem aac.rpx {l:List Rp} {n:Nat} {f:Nat->List aaa} (hn:n=l.length) (hf:∀ i,i<n->f i=rpE l i):aac (.s false [.row 6 n f]) (.s false [.row 6 l.length (rpE l)]):=
 aac.one (CLe.row hn (λi hi=>by rw[hf i hi];exact aan.refl _) (λi hi=>⟨by rw[hf i hi];exact ani _ _,ani _ _⟩))
theorem aac.rp1 {l:List Rp} {x:Rp} {f:Nat->List aaa} (hl:l=[x]) (h0:f 0=rpC x):aac (.s false [.row 6 1 f]) (.s false [.row 6 l.length (rpE l)]):=by
 subst hl;refine aac.rpx rfl λi hi=> ?_;match i,hi with
 |0,_=>exact h0
theorem abM {s t:Rp × Rp} {p:Rp} (h1:(!ron s p)=false) (h2:(!ron t p)=false):rst s t [] p=[p,p]/\∀ a b,rst s t [a,b] p=[if aaA p a<0 then p else a,if 0<aaA p b then p else b]:=by
 have h1:ron s p=true:=by simpa using h1
 have h2:ron t p=true:=by simpa using h2
 unfold rst;rw[if_pos (by rw[h1,h2];rfl)];refine⟨rfl,λa b=> ?_⟩;rw[if_pos (by rw[h1,h2];rfl)]
theorem aaS {s t:Rp × Rp} {p:Rp} {O:List Rp} (h:(!ron s p)=true\/(!ron t p)=true):rst s t O p=O:=by
 unfold rst;rw[if_neg];rcases h with h | h
 ·have:ron s p=false:=by simpa using h
  simp[this]
 ·have:ron t p=false:=by simpa using h
  simp[this]
theorem aco (p:Rp):aaA p p=0:=by
 have h:∀ x:Int,abe x x=0:=λx=>by unfold abe;simp
 unfold aaA;rw[h,h];rfl
theorem agW {s t:Rp × Rp} (h:(!ajs s t)=false):(aim s t=[]->acL s t=[])/\∀ a b,aim s t=[a,b]->acL s t=if aaA a b=0 then [a] else [a,b]:=by
 have h:ajs s t=true:=by simpa using h
 unfold acL;rw[if_pos h];exact⟨λe=>by rw[e],λa b e=>by rw[e]⟩
theorem agn {s t:Rp × Rp} (h:(!ajs s t)=true):acL s t=if (ron s (aa2 s t) && ron t (aa2 s t))=true then [aa2 s t] else []:=by
 have h:ajs s t=false:=by simpa using h
 unfold acL;rw[if_neg (by rw[h];decide)]
theorem avv {x y:Int} {k:Nat} (hx:Dec.dg x.natAbs<=k) (hy:Dec.dg y.natAbs<=k):Dec.dg (x-y).natAbs<=k+1:=by
 have one:∀ m:Nat,Dec.dg m<=k->m<10000 ^ k:=λm hm=>(Dec.limbs_len m k).1 hm;refine Dec.limbs_le _ (k+1) ?_;have h1:=one _ hx;have h2:=one _ hy;have h3:=Int.natAbs_sub_le x y;rw[Nat.pow_succ];omega
theorem aiI {a1 a2 a3 a4:Rp} (z1:SzR a1 100) (z2:SzR a2 100) (z3:SzR a3 100) (z4:SzR a4 100):SzR (aa2 (a1,a2) (a3,a4)) 1000:=by
 obtain⟨x1,y1,w1⟩:=z1;obtain⟨x2,y2,w2⟩:=z2;obtain⟨x3,y3,w3⟩:=z3;obtain⟨x4,y4,w4⟩:=z4;have l1:Dec.dg (rlA (a1,a2)).natAbs<=401:=Nat.le_trans (agK (a1,a2)) (by dsimp only;omega);have l2:Dec.dg (rlB (a1,a2)).natAbs<=401:=Nat.le_trans (agJ (a1,a2)) (by dsimp only;omega);have l3:Dec.dg (rlC (a1,a2)).natAbs<=401:=Nat.le_trans (akM (a1,a2)) (by dsimp only;omega);have l4:Dec.dg (rlA (a3,a4)).natAbs<=401:=Nat.le_trans (agK (a3,a4)) (by dsimp only;omega);have l5:Dec.dg (rlB (a3,a4)).natAbs<=401:=Nat.le_trans (agJ (a3,a4)) (by dsimp only;omega);have l6:Dec.dg (rlC (a3,a4)).natAbs<=401:=Nat.le_trans (akM (a3,a4)) (by dsimp only;omega);have two:∀ a b c d:Int,Dec.dg a.natAbs<=401->Dec.dg b.natAbs<=401->Dec.dg c.natAbs<=401->Dec.dg d.natAbs<=401->Dec.dg (a*b-c*d).natAbs<=1000:=λa b c d ha hb hc hd=>by
  have m1:=aaI a b;have m2:=aaI c d;have m3:=avv (x:=a*b) (y:=c*d) (k:=802) (by omega) (by omega);omega
 have q1:=two _ _ _ _ l1 l5 l2 l4;have q2:=two _ _ _ _ l3 l5 l2 l6;have q3:=two _ _ _ _ l1 l6 l3 l4;unfold aa2;split
 ·exact⟨by rw[Int.natAbs_neg];exact q2,by rw[Int.natAbs_neg];exact q3,by rw[Int.natAbs_neg];exact q1⟩
 ·exact⟨q2,q3,q1⟩
theorem aym:∀ {b:Bool},b=true->b=false->False:=λh k=>by rw[h] at k;cases k
theorem awT (s1:Rp × Rp) (s2:Rp × Rp):vc Tryz.prog (lk gMe) Tryz.f67.ntmps [(5000009,meU),(6000009,meJ s1 s2 0),(6001009,meJ s1 s2 1),(6002009,meJ s1 s2 2),(6003009,meJ s1 s2 3),(6004009,meJ s1 s2 4)] (Tryz.f67.body.getD .skip) ⟨aao [.s true [.v (.int .i64 s1.1.1.sign),.m s1.1.1.natAbs,.v (.int .i64 s1.1.2.1.sign),.m s1.1.2.1.natAbs,.v (.int .i64 s1.1.2.2.sign),.m s1.1.2.2.natAbs,.v (.int .i64 s1.2.1.sign),.m s1.2.1.natAbs,.v (.int .i64 s1.2.2.1.sign),.m s1.2.2.1.natAbs,.v (.int .i64 s1.2.2.2.sign),.m s1.2.2.2.natAbs],.s true [.v (.int .i64 s2.1.1.sign),.m s2.1.1.natAbs,.v (.int .i64 s2.1.2.1.sign),.m s2.1.2.1.natAbs,.v (.int .i64 s2.1.2.2.sign),.m s2.1.2.2.natAbs,.v (.int .i64 s2.2.1.sign),.m s2.2.1.natAbs,.v (.int .i64 s2.2.2.1.sign),.m s2.2.2.1.natAbs,.v (.int .i64 s2.2.2.2.sign),.m s2.2.2.2.natAbs]] 0,[]⟩ (aaH Tryz.prog Tryz.f67.results.toList (.s false [.row 6 (acL s1 s2).length (rpE (acL s1 s2))]))=(let k1:=(0:Int);let k3:=aae.st 64 (rsC s1);let k4:=aae.st 64 (rsC s2);let k5:=s1.1;let k6:=s1.2;let k7:=s2.1;let k8:=s2.2;let k9:=AV.s false [aaa.row 6 (acL s1 s2).length (rpE (acL s1 s2))];let k10:=aa3 s1 s2 1;let k11:=aa3 s1 s2 2;let k12:=aa3 s1 s2 3;let k13:=AV.s false [aaa.own 2 0];let k14:=AV.s false [aaa.own 3 0];let k15:=AV.s false [aaa.own 6 0];let k16:=AV.s false [aaa.hd 900];let k21:=aae.st 64 (rpC k5++rpC k6);let k22:=aae.st 64 (rpC k7++rpC k8);let k24:=aae.row 62 6 k10.length (rpE k10);let k25:=aae.row 62 6 k11.length (rpE k11);let k26:=aae.row 62 6 k12.length (rpE k12);let k27:=(k1,k1,k1);let k28:=(↑4:Int);let k29:=(1:Int);let k30:=(↑2:Int);let k34:=AV.s false [aaa.v (Value.int IntKind.i64 k30)];let k35:=AV.s false [aaa.v (Value.int IntKind.i64 k28)];let k36:=(↑0:Int);let k37:=(↑k10.length:Int);let k38:=(↑k11.length:Int);let k39:=(↑k12.length:Int);let k40:=aa3 s1 s2 4;let k41:=(↑1:Int);let k42:=(↑3:Int);let k43:=(rz k5,rz k6);let k44:=List.getD k10 1 k27;let k45:=List.getD k11 1 k27;let k46:=List.getD k12 1 k27;let k47:=aae.row 62 6 0 (rpE (aa3 s1 s2 0));let k48:=(↑k40.length:Int);let k49:=List.getD k10 0 k27;let k50:=List.getD k11 0 k27;let k51:=List.getD k12 0 k27;let k52:=(rz k7,rz k8);let k53:=(2:Int);let k54:=(k1,k1).1.sign;let k55:=(k1,k1).2.sign;let k56:=k27.1.sign;let k57:=aaA (rz k6) (rz k44)>k1;let k58:=aaA (rz k7) (rz k45)>k1;let k59:=aaA (rz k8) (rz k46)>k1;let k0:=aae.st 183 (rpC k5++(rpC k6++(rpC k7++(rpC k8))));let k2:=(jv k56 0,jv k54 0,jv k55 0);let k17:=AV.s false [aaa.v (Value.int IntKind.i64 (IntKind.wrap IntKind.i64 (k36+k29)))];let k18:=AV.s false [aaa.v (Value.int IntKind.i64 (IntKind.wrap IntKind.i64 (k41+k29)))];let k19:=AV.s false [aaa.v (Value.int IntKind.i64 (IntKind.wrap IntKind.i64 (k30+k29)))];let k20:=AV.s false [aaa.v (Value.int IntKind.i64 (IntKind.wrap IntKind.i64 (k42+k29)))];let k23:=aae.row 62 6 k40.length (rpE k40);let k31:=AV.s false [aaa.v (Value.int IntKind.i64 k41)];let k32:=AV.s false [aaa.v (Value.int IntKind.i64 k42)];let k33:=aa2 k43 k52;let p0:=λ(Z:Prop)=>SmA k13/\SmA k14/\SmA k15/\SmA k16/\Z;let p1:=λ(Z:Prop)=>aaf k21 k3/\aaf k22 k4/\SmB k0/\Z;let p2:=λ(Z:Prop)=>SmB k3/\SmB k4/\SmB k0/\Z;let p4:=λ(Z:Prop)=>(k1<=k29/\k29<k30)/\1<2/\Z;let p5:=λ(Z:Prop)=>True/\(p0 (aac k17 k31/\True))/\Z;let p6:=λ(Z:Prop)=>True/\(p0 (aac k18 k34/\True))/\Z;let p7:=λ(Z:Prop)=>True/\(p0 (aac k19 k32/\True))/\Z;let p8:=λ(Z:Prop)=>True/\(p0 (aac k20 k35/\True))/\Z;let p9:=k1<=k36/\k36<k28;let p10:=k1<=k41/\k41<k28;let p11:=k1<=k30/\k30<k28;let p12:=k1<=k42/\k42<k28;let p13:=λ(Z:Prop)=>SzR (rz k7) 1000/\Z;let p14:=λ(Z:Prop)=>SzR (rz k8) 1000/\Z;let p15:=λ(Z:Prop)=>SzR (rz k5) 1000/\Z;let p16:=λ(Z:Prop)=>SzR (rz k6) 1000/\Z;let p17:=λ(Z:Prop)=>(k1<=k29/\k29<k37)/\1<k10.length/\Z;let p18:=λ(Z:Prop)=>(k1<=k29/\k29<k38)/\1<k11.length/\Z;let p19:=λ(Z:Prop)=>(k1<=k29/\k29<k39)/\1<k12.length/\Z;let p20:=λ(Z:Prop)=>(k1<=k1/\k1<k30)/\0<2/\Z;let p22:=k1<=k29/\k29<k36;let p23:=λ(Z:Prop)=>JZ k5/\JZ k6/\Z;let p24:=λ(Z:Prop)=>JP k56 0 k54 0 k55 0/\Z;let p25:=λ(Z:Prop)=>(k1<=k1/\k1<k37)/\0<k10.length/\Z;let p26:=λ(Z:Prop)=>(k1<=k1/\k1<k38)/\0<k11.length/\Z;let p27:=λ(Z:Prop)=>(k1<=k1/\k1<k39)/\0<k12.length/\Z;let p28:=aaf k47 k24/\True;let p29:=aaf k24 k25/\True;let p30:=aaf k25 k26/\True;let p31:=aaf k26 k23/\True;let p32:=k1<=k1/\k1<k36;let p3:=λ(Z:Prop)=>p15 (p16 (Z));let p21:=λ(Z:Prop)=>p23 (JZ k7/\JZ k8/\SzR (rz k5) 100/\SzR (rz k6) 100/\SzR (rz k7) 100/\SzR (rz k8) 100/\Z);p21 (((!ajs k43 k52)=true->p21 ((ron k43 (rz k33)=true->p23 (JZ k33/\p3 (SzR (rz k33) 1000/\ron k43 (rz k33)=true/\JZ k7/\JZ k8/\JZ k33/\p13 (p14 (SzR (rz k33) 1000/\(ron k52 (rz k33)=true->aac (AV.s false [aaa.row 6 1 λ(i:Nat)=>List.getD [(rpC k33)] i []]) k9)/\(ron k52 (rz k33)=false->aac (AV.s false [aaa.v (Value.slice none 0 0)]) k9))))))/\(ron k43 (rz k33)=false->p23 (JZ k33/\p3 (SzR (rz k33) 1000/\ron k43 (rz k33)=false/\aac (AV.s false [aaa.v (Value.slice none 0 0)]) k9)))))/\((!ajs k43 k52)=false->(Exists λ(_i:Unit)=>True/\(p0 (aac (AV.s false [aaa.v (Value.int IntKind.i64 k1)]) (AV.s false [aaa.v (Value.int IntKind.i64 k36)])/\True))/\p1 (aaf (aae.row 62 6 0 λ(_x:Nat)=>[]) k47/\True))/\(∀ (_i:Unit),True->(decide (k36<(4:Int))=true->((!ron k43 (rz k5))=true->(p9)/\p23 (JZ k5/\p3 (p15 ((!ron k43 (rz k5))=true/\Exists λ(_i:Unit)=>p5 (p2 (p28))))))/\((!ron k43 (rz k5))=false->(p9)/\p23 (JZ k5/\p3 (p15 ((!ron k43 (rz k5))=false/\(p9)/\JZ k7/\JZ k8/\JZ k5/\p13 (p14 (p15 (((!ron k52 (rz k5))=true->Exists λ(_i:Unit)=>p5 (p2 (p28)))/\((!ron k52 (rz k5))=false->((k36 == k1)=true->(p9)/\(p9)/\(p9)/\p20 (JZ k5/\JZ k5/\p15 (p15 ((decide (aaA (rz k5) (rz k5)<k1)=true->(p9)/\p20 ((p9)/\p4 (JZ k5/\JZ k5/\p15 (p15 ((decide (aaA (rz k5) (rz k5)>k1)=true->(p9)/\p4 (Exists λ(_i:Unit)=>p5 (p1 (aaf (aae.row 62 6 2 λ(j:Nat)=>if j=1 then (rpC k5) else if j=0 then (rpC k5) else List.getD [(rpC k5),(rpC k5)] j []) k24/\True))))/\(decide (aaA (rz k5) (rz k5)>k1)=false->Exists λ(_i:Unit)=>p5 (p1 (aaf (aae.row 62 6 2 λ(j:Nat)=>if j=0 then (rpC k5) else List.getD [(rpC k5),(rpC k5)] j []) k24/\True))))))))/\(decide (aaA (rz k5) (rz k5)<k1)=false->(p9)/\p4 (JZ k5/\JZ k5/\p15 (p15 ((decide (aaA (rz k5) (rz k5)>k1)=true->(p9)/\p4 (Exists λ(_i:Unit)=>p5 (p1 (aaf (aae.row 62 6 2 λ(j:Nat)=>if j=1 then (rpC k5) else List.getD [(rpC k5),(rpC k5)] j []) k24/\True))))/\(decide (aaA (rz k5) (rz k5)>k1)=false->Exists λ(_i:Unit)=>p5 (p1 (aaf (aae.row 62 6 2 λ(i:Nat)=>List.getD [(rpC k5),(rpC k5)] i []) k24/\True)))))))))))/\((k36 == k1)=false->(p9)/\(p32)/\0<0/\JZ k5/\p24 (p15 (SzR k2 1000/\(decide (aaA (rz k5) k2<k1)=true->(p9)/\(p32)/\0<0/\(p9)/\(p22)/\1<0/\JZ k5/\p24 (p15 (SzR k2 1000/\(decide (aaA (rz k5) k2>k1)=true->(p9)/\(p22)/\1<0/\Exists λ(_i:Unit)=>p5 (p2 (aaf (aae.row 62 6 0 λ(j:Nat)=>if j=1 then (rpC k5) else if j=0 then (rpC k5) else rpE (aa3 s1 s2 0) j) k24/\True)))/\(decide (aaA (rz k5) k2>k1)=false->Exists λ(_i:Unit)=>p5 (p2 (aaf (aae.row 62 6 0 λ(j:Nat)=>if j=0 then (rpC k5) else rpE (aa3 s1 s2 0) j) k24/\True))))))/\(decide (aaA (rz k5) k2<k1)=false->(p9)/\(p22)/\1<0/\JZ k5/\p24 (p15 (SzR k2 1000/\(decide (aaA (rz k5) k2>k1)=true->(p9)/\(p22)/\1<0/\Exists λ(_i:Unit)=>p5 (p2 (aaf (aae.row 62 6 0 λ(j:Nat)=>if j=1 then (rpC k5) else rpE (aa3 s1 s2 0) j) k24/\True)))/\(decide (aaA (rz k5) k2>k1)=false->Exists λ(_i:Unit)=>p5 (p2 (p28))))))))))))))))))/\(decide (k36<(4:Int))=false->((k36 == k53)=true->(k36 == k53)=true/\(p32)/\0<0/\(p22)/\1<0/\p24 (p24 (SzR k2 1000/\SzR k2 1000/\((aaA k2 k2 == k1)=true->(k1<=k1/\k1<=k29/\k29<=k36)/\aac (AV.s false [aaa.row 6 1 λ(i:Nat)=>rpE (aa3 s1 s2 0) (i+k1.toNat)]) k9)/\((aaA k2 k2 == k1)=false->aac (AV.s false [aaa.row 6 0 (rpE (aa3 s1 s2 0))]) k9))))/\((k36 == k53)=false->(k36 == k53)=false/\aac (AV.s false [aaa.row 6 0 (rpE (aa3 s1 s2 0))]) k9)))/\(∀ (_i:Unit),True->(decide (k41<(4:Int))=true->((!ron k43 (rz k6))=true->(p10)/\p23 (JZ k6/\p3 (p16 ((!ron k43 (rz k6))=true/\Exists λ(_i:Unit)=>p6 (p2 (p29))))))/\((!ron k43 (rz k6))=false->(p10)/\p23 (JZ k6/\p3 (p16 ((!ron k43 (rz k6))=false/\(p10)/\JZ k7/\JZ k8/\JZ k6/\p13 (p14 (p16 (((!ron k52 (rz k6))=true->Exists λ(_i:Unit)=>p6 (p2 (p29)))/\((!ron k52 (rz k6))=false->((k37 == k1)=true->(p10)/\(p10)/\(p10)/\p20 (JZ k6/\JZ k6/\p16 (p16 ((decide (aaA (rz k6) (rz k6)<k1)=true->(p10)/\p20 ((p10)/\p4 (JZ k6/\JZ k6/\p16 (p16 ((decide (aaA (rz k6) (rz k6)>k1)=true->(p10)/\p4 (Exists λ(_i:Unit)=>p6 (p1 (aaf (aae.row 62 6 2 λ(j:Nat)=>if j=1 then (rpC k6) else if j=0 then (rpC k6) else List.getD [(rpC k6),(rpC k6)] j []) k25/\True))))/\(decide (aaA (rz k6) (rz k6)>k1)=false->Exists λ(_i:Unit)=>p6 (p1 (aaf (aae.row 62 6 2 λ(j:Nat)=>if j=0 then (rpC k6) else List.getD [(rpC k6),(rpC k6)] j []) k25/\True))))))))/\(decide (aaA (rz k6) (rz k6)<k1)=false->(p10)/\p4 (JZ k6/\JZ k6/\p16 (p16 ((decide (aaA (rz k6) (rz k6)>k1)=true->(p10)/\p4 (Exists λ(_i:Unit)=>p6 (p1 (aaf (aae.row 62 6 2 λ(j:Nat)=>if j=1 then (rpC k6) else List.getD [(rpC k6),(rpC k6)] j []) k25/\True))))/\(decide (aaA (rz k6) (rz k6)>k1)=false->Exists λ(_i:Unit)=>p6 (p1 (aaf (aae.row 62 6 2 λ(i:Nat)=>List.getD [(rpC k6),(rpC k6)] i []) k25/\True)))))))))))/\((k37 == k1)=false->(p10)/\p25 (JZ k6/\JZ k49/\p16 (SzR (rz k49) 1000/\(decide (aaA (rz k6) (rz k49)<k1)=true->(p10)/\p25 ((p10)/\p17 (JZ k6/\JZ k44/\p16 (SzR (rz k44) 1000/\(decide k57=true->(p10)/\p17 (Exists λ(_i:Unit)=>p6 (p2 (aaf (aae.row 62 6 k10.length λ(j:Nat)=>if j=1 then (rpC k6) else if j=0 then (rpC k6) else rpE k10 j) k25/\True))))/\(decide k57=false->Exists λ(_i:Unit)=>p6 (p2 (aaf (aae.row 62 6 k10.length λ(j:Nat)=>if j=0 then (rpC k6) else rpE k10 j) k25/\True)))))))/\(decide (aaA (rz k6) (rz k49)<k1)=false->(p10)/\p17 (JZ k6/\JZ k44/\p16 (SzR (rz k44) 1000/\(decide k57=true->(p10)/\p17 (Exists λ(_i:Unit)=>p6 (p2 (aaf (aae.row 62 6 k10.length λ(j:Nat)=>if j=1 then (rpC k6) else rpE k10 j) k25/\True))))/\(decide k57=false->Exists λ(_i:Unit)=>p6 (p2 (p29))))))))))))))))))/\(decide (k41<(4:Int))=false->((k37 == k53)=true->(k37 == k53)=true/\p25 (p17 (JZ k49/\JZ k44/\SzR (rz k49) 1000/\SzR (rz k44) 1000/\((aaA (rz k49) (rz k44) == k1)=true->(k1<=k1/\k1<=k29/\k29<=k37)/\aac (AV.s false [aaa.row 6 1 λ(i:Nat)=>rpE k10 (i+k1.toNat)]) k9)/\((aaA (rz k49) (rz k44) == k1)=false->aac (AV.s false [aaa.row 6 k10.length (rpE k10)]) k9))))/\((k37 == k53)=false->(k37 == k53)=false/\aac (AV.s false [aaa.row 6 k10.length (rpE k10)]) k9)))/\(∀ (_i:Unit),True->(decide (k30<(4:Int))=true->((!ron k43 (rz k7))=true->(p11)/\p23 (JZ k7/\p3 (p13 ((!ron k43 (rz k7))=true/\Exists λ(_i:Unit)=>p7 (p2 (p30))))))/\((!ron k43 (rz k7))=false->(p11)/\p23 (JZ k7/\p3 (p13 ((!ron k43 (rz k7))=false/\(p11)/\JZ k7/\JZ k8/\JZ k7/\p13 (p14 (p13 (((!ron k52 (rz k7))=true->Exists λ(_i:Unit)=>p7 (p2 (p30)))/\((!ron k52 (rz k7))=false->((k38 == k1)=true->(p11)/\(p11)/\(p11)/\p20 (JZ k7/\JZ k7/\p13 (p13 ((decide (aaA (rz k7) (rz k7)<k1)=true->(p11)/\p20 ((p11)/\p4 (JZ k7/\JZ k7/\p13 (p13 ((decide (aaA (rz k7) (rz k7)>k1)=true->(p11)/\p4 (Exists λ(_i:Unit)=>p7 (p1 (aaf (aae.row 62 6 2 λ(j:Nat)=>if j=1 then (rpC k7) else if j=0 then (rpC k7) else List.getD [(rpC k7),(rpC k7)] j []) k26/\True))))/\(decide (aaA (rz k7) (rz k7)>k1)=false->Exists λ(_i:Unit)=>p7 (p1 (aaf (aae.row 62 6 2 λ(j:Nat)=>if j=0 then (rpC k7) else List.getD [(rpC k7),(rpC k7)] j []) k26/\True))))))))/\(decide (aaA (rz k7) (rz k7)<k1)=false->(p11)/\p4 (JZ k7/\JZ k7/\p13 (p13 ((decide (aaA (rz k7) (rz k7)>k1)=true->(p11)/\p4 (Exists λ(_i:Unit)=>p7 (p1 (aaf (aae.row 62 6 2 λ(j:Nat)=>if j=1 then (rpC k7) else List.getD [(rpC k7),(rpC k7)] j []) k26/\True))))/\(decide (aaA (rz k7) (rz k7)>k1)=false->Exists λ(_i:Unit)=>p7 (p1 (aaf (aae.row 62 6 2 λ(i:Nat)=>List.getD [(rpC k7),(rpC k7)] i []) k26/\True)))))))))))/\((k38 == k1)=false->(p11)/\p26 (JZ k7/\JZ k50/\p13 (SzR (rz k50) 1000/\(decide (aaA (rz k7) (rz k50)<k1)=true->(p11)/\p26 ((p11)/\p18 (JZ k7/\JZ k45/\p13 (SzR (rz k45) 1000/\(decide k58=true->(p11)/\p18 (Exists λ(_i:Unit)=>p7 (p2 (aaf (aae.row 62 6 k11.length λ(j:Nat)=>if j=1 then (rpC k7) else if j=0 then (rpC k7) else rpE k11 j) k26/\True))))/\(decide k58=false->Exists λ(_i:Unit)=>p7 (p2 (aaf (aae.row 62 6 k11.length λ(j:Nat)=>if j=0 then (rpC k7) else rpE k11 j) k26/\True)))))))/\(decide (aaA (rz k7) (rz k50)<k1)=false->(p11)/\p18 (JZ k7/\JZ k45/\p13 (SzR (rz k45) 1000/\(decide k58=true->(p11)/\p18 (Exists λ(_i:Unit)=>p7 (p2 (aaf (aae.row 62 6 k11.length λ(j:Nat)=>if j=1 then (rpC k7) else rpE k11 j) k26/\True))))/\(decide k58=false->Exists λ(_i:Unit)=>p7 (p2 (p30))))))))))))))))))/\(decide (k30<(4:Int))=false->((k38 == k53)=true->(k38 == k53)=true/\p26 (p18 (JZ k50/\JZ k45/\SzR (rz k50) 1000/\SzR (rz k45) 1000/\((aaA (rz k50) (rz k45) == k1)=true->(k1<=k1/\k1<=k29/\k29<=k38)/\aac (AV.s false [aaa.row 6 1 λ(i:Nat)=>rpE k11 (i+k1.toNat)]) k9)/\((aaA (rz k50) (rz k45) == k1)=false->aac (AV.s false [aaa.row 6 k11.length (rpE k11)]) k9))))/\((k38 == k53)=false->(k38 == k53)=false/\aac (AV.s false [aaa.row 6 k11.length (rpE k11)]) k9)))/\(∀ (_i:Unit),True->(decide (k42<(4:Int))=true->((!ron k43 (rz k8))=true->(p12)/\p23 (JZ k8/\p3 (p14 ((!ron k43 (rz k8))=true/\Exists λ(_i:Unit)=>p8 (p2 (p31))))))/\((!ron k43 (rz k8))=false->(p12)/\p23 (JZ k8/\p3 (p14 ((!ron k43 (rz k8))=false/\(p12)/\JZ k7/\JZ k8/\JZ k8/\p13 (p14 (p14 (((!ron k52 (rz k8))=true->Exists λ(_i:Unit)=>p8 (p2 (p31)))/\((!ron k52 (rz k8))=false->((k39 == k1)=true->(p12)/\(p12)/\(p12)/\p20 (JZ k8/\JZ k8/\p14 (p14 ((decide (aaA (rz k8) (rz k8)<k1)=true->(p12)/\p20 ((p12)/\p4 (JZ k8/\JZ k8/\p14 (p14 ((decide (aaA (rz k8) (rz k8)>k1)=true->(p12)/\p4 (Exists λ(_i:Unit)=>p8 (p1 (aaf (aae.row 62 6 2 λ(j:Nat)=>if j=1 then (rpC k8) else if j=0 then (rpC k8) else List.getD [(rpC k8),(rpC k8)] j []) k23/\True))))/\(decide (aaA (rz k8) (rz k8)>k1)=false->Exists λ(_i:Unit)=>p8 (p1 (aaf (aae.row 62 6 2 λ(j:Nat)=>if j=0 then (rpC k8) else List.getD [(rpC k8),(rpC k8)] j []) k23/\True))))))))/\(decide (aaA (rz k8) (rz k8)<k1)=false->(p12)/\p4 (JZ k8/\JZ k8/\p14 (p14 ((decide (aaA (rz k8) (rz k8)>k1)=true->(p12)/\p4 (Exists λ(_i:Unit)=>p8 (p1 (aaf (aae.row 62 6 2 λ(j:Nat)=>if j=1 then (rpC k8) else List.getD [(rpC k8),(rpC k8)] j []) k23/\True))))/\(decide (aaA (rz k8) (rz k8)>k1)=false->Exists λ(_i:Unit)=>p8 (p1 (aaf (aae.row 62 6 2 λ(i:Nat)=>List.getD [(rpC k8),(rpC k8)] i []) k23/\True)))))))))))/\((k39 == k1)=false->(p12)/\p27 (JZ k8/\JZ k51/\p14 (SzR (rz k51) 1000/\(decide (aaA (rz k8) (rz k51)<k1)=true->(p12)/\p27 ((p12)/\p19 (JZ k8/\JZ k46/\p14 (SzR (rz k46) 1000/\(decide k59=true->(p12)/\p19 (Exists λ(_i:Unit)=>p8 (p2 (aaf (aae.row 62 6 k12.length λ(j:Nat)=>if j=1 then (rpC k8) else if j=0 then (rpC k8) else rpE k12 j) k23/\True))))/\(decide k59=false->Exists λ(_i:Unit)=>p8 (p2 (aaf (aae.row 62 6 k12.length λ(j:Nat)=>if j=0 then (rpC k8) else rpE k12 j) k23/\True)))))))/\(decide (aaA (rz k8) (rz k51)<k1)=false->(p12)/\p19 (JZ k8/\JZ k46/\p14 (SzR (rz k46) 1000/\(decide k59=true->(p12)/\p19 (Exists λ(_i:Unit)=>p8 (p2 (aaf (aae.row 62 6 k12.length λ(j:Nat)=>if j=1 then (rpC k8) else rpE k12 j) k23/\True))))/\(decide k59=false->Exists λ(_i:Unit)=>p8 (p2 (p31))))))))))))))))))/\(decide (k42<(4:Int))=false->((k39 == k53)=true->(k39 == k53)=true/\p27 (p19 (JZ k51/\JZ k46/\SzR (rz k51) 1000/\SzR (rz k46) 1000/\((aaA (rz k51) (rz k46) == k1)=true->(k1<=k1/\k1<=k29/\k29<=k39)/\aac (AV.s false [aaa.row 6 1 λ(i:Nat)=>rpE k12 (i+k1.toNat)]) k9)/\((aaA (rz k51) (rz k46) == k1)=false->aac (AV.s false [aaa.row 6 k12.length (rpE k12)]) k9))))/\((k39 == k53)=false->(k39 == k53)=false/\aac (AV.s false [aaa.row 6 k12.length (rpE k12)]) k9)))/\(∀ (_i:Unit),True->(decide (k28<(4:Int))=true->False)/\(decide (k28<(4:Int))=false->((k48 == k53)=true->(k48 == k53)=true/\(k1<=k1/\k1<k48)/\0<k40.length/\(k1<=k29/\k29<k48)/\1<k40.length/\JZ (List.getD k40 0 k27)/\JZ (List.getD k40 1 k27)/\SzR (rz (List.getD k40 0 k27)) 1000/\SzR (rz (List.getD k40 1 k27)) 1000/\((aaA (rz (List.getD k40 0 k27)) (rz (List.getD k40 1 k27)) == k1)=true->(k1<=k1/\k1<=k29/\k29<=k48)/\aac (AV.s false [aaa.row 6 1 λ(i:Nat)=>rpE k40 (i+k1.toNat)]) k9)/\((aaA (rz (List.getD k40 0 k27)) (rz (List.getD k40 1 k27)) == k1)=false->aac (AV.s false [aaa.row 6 k40.length (rpE k40)]) k9))/\((k48 == k53)=false->(k48 == k53)=false/\aac (AV.s false [aaa.row 6 k40.length (rpE k40)]) k9)))/\True))):=by kernel_rfl
def ayT:abF
 |[.o (.s true [.v (.int .i64 a1),.m b1,.v (.int .i64 c1),.m d1,.v (.int .i64 e1),.m f1,.v (.int .i64 a2),.m b2,.v (.int .i64 c2),.m d2,.v (.int .i64 e2),.m f2]),.o (.s true [.v (.int .i64 a3),.m b3,.v (.int .i64 c3),.m d3,.v (.int .i64 e3),.m f3,.v (.int .i64 a4),.m b4,.v (.int .i64 c4),.m d4,.v (.int .i64 e4),.m f4])]=>some (.s false [.row 6 (acL (rpv a1 b1 c1 d1 e1 f1,rpv a2 b2 c2 d2 e2 f2) (rpv a3 b3 c3 d3 e3 f3,rpv a4 b4 c4 d4 e4 f4)).length (rpE (acL (rpv a1 b1 c1 d1 e1 f1,rpv a2 b2 c2 d2 e2 f2) (rpv a3 b3 c3 d3 e3 f3,rpv a4 b4 c4 d4 e4 f4)))],[JP a1 b1 c1 d1 e1 f1,JP a2 b2 c2 d2 e2 f2,JP a3 b3 c3 d3 e3 f3,JP a4 b4 c4 d4 e4 f4,SzR (rpv a1 b1 c1 d1 e1 f1) 100,SzR (rpv a2 b2 c2 d2 e2 f2) 100,SzR (rpv a3 b3 c3 d3 e3 f3) 100,SzR (rpv a4 b4 c4 d4 e4 f4) 100])
 |_=>none
set_option maxRecDepth 100000 in
theorem awU (D:Prop) (B:Nat):aai Tryz.prog D B 67 (aaF ayT):=by
 refine aam (c:=Tryz.f67.body.getD .skip) (aau (ax6 D)) (by kernel_rfl) Tryz.func67 (by kernel_rfl) (by kernel_rfl) ?_ B;intro pvs av ps h hp;unfold ayT at h;split at h
 ·rename_i a1 b1 c1 d1 e1 f1 a2 b2 c2 d2 e2 f2 a3 b3 c3 d3 e3 f3 a4 b4 c4 d4 e4 f4;cases h;obtain⟨j1,j2,j3,j4,z1,z2,z3,z4,_⟩:=hp;have q1:=aax j1;clear j1;generalize rpv a1 b1 c1 d1 e1 f1=a1 at *;have q2:=aax j2;clear j2;generalize rpv a2 b2 c2 d2 e2 f2=a2 at *;have q3:=aax j3;clear j3;generalize rpv a3 b3 c3 d3 e3 f3=a3 at *;have q4:=aax j4;clear j4;generalize rpv a4 b4 c4 d4 e4 f4=a4 at *;refine⟨[.s true [.v (.int .i64 (a1,a2).1.1.sign),.m (a1,a2).1.1.natAbs,.v (.int .i64 (a1,a2).1.2.1.sign),.m (a1,a2).1.2.1.natAbs,.v (.int .i64 (a1,a2).1.2.2.sign),.m (a1,a2).1.2.2.natAbs,.v (.int .i64 (a1,a2).2.1.sign),.m (a1,a2).2.1.natAbs,.v (.int .i64 (a1,a2).2.2.1.sign),.m (a1,a2).2.2.1.natAbs,.v (.int .i64 (a1,a2).2.2.2.sign),.m (a1,a2).2.2.2.natAbs],.s true [.v (.int .i64 (a3,a4).1.1.sign),.m (a3,a4).1.1.natAbs,.v (.int .i64 (a3,a4).1.2.1.sign),.m (a3,a4).1.2.1.natAbs,.v (.int .i64 (a3,a4).1.2.2.sign),.m (a3,a4).1.2.2.natAbs,.v (.int .i64 (a3,a4).2.1.sign),.m (a3,a4).2.1.natAbs,.v (.int .i64 (a3,a4).2.2.1.sign),.m (a3,a4).2.2.1.natAbs,.v (.int .i64 (a3,a4).2.2.2.sign),.m (a3,a4).2.2.2.natAbs]],[(5000009,meU),(6000009,meJ (a1,a2) (a3,a4) 0),(6001009,meJ (a1,a2) (a3,a4) 1),(6002009,meJ (a1,a2) (a3,a4) 2),(6003009,meJ (a1,a2) (a3,a4) 3),(6004009,meJ (a1,a2) (a3,a4) 4)],aaj.cons (aac.cells (ado q1 q2)) (aaj.cons (aac.cells (ado q3 q4)) (aaj.nil)),by rw[Tryz.ntmps67];simp,?_⟩;clear q1 q2 q3 q4;rw[awT];simp only[avT,av6,true_and,and_true];obtain⟨x1,y1,w1⟩:=z1;obtain⟨x2,y2,w2⟩:=z2;obtain⟨x3,y3,w3⟩:=z3;obtain⟨x4,y4,w4⟩:=z4;have z1:SzR a1 100:=⟨x1,y1,w1⟩
  have z2:SzR a2 100:=⟨x2,y2,w2⟩
  have z3:SzR a3 100:=⟨x3,y3,w3⟩
  have z4:SzR a4 100:=⟨x4,y4,w4⟩
  have y1:SzR a1 1000:=z1.mono (by decide);have y2:SzR a2 1000:=z2.mono (by decide);have y3:SzR a3 1000:=z3.mono (by decide);have y4:SzR a4 1000:=z4.mono (by decide);have zz:∀ p∈[(a1,a2).1,(a1,a2).2,(a3,a4).1,(a3,a4).2],SzR p 1000:=λp hp=>by
   simp only[List.mem_cons,List.not_mem_nil,or_false] at hp;rcases hp with rfl | rfl | rfl | rfl<;>assumption
  refine⟨z1,z2,z3,z4,λhp=> ?_,λhp=>⟨?_,?_,?_,?_,?_,?_⟩⟩
  ·have zc:=aiI z1 z2 z3 z4;rw[agn hp];(repeat' (first | assumption | apply And.intro | intro _))<;>first
    |assumption
    |(rw[if_pos (by rw[show ron (a1,a2) (aa2 (a1,a2) (a3,a4))=true by assumption,show ron (a3,a4) (aa2 (a1,a2) (a3,a4))=true by assumption];rfl)];exact aac.rp1 rfl rfl)
    |(rw[if_neg (by rw[show ron (a3,a4) (aa2 (a1,a2) (a3,a4))=false by assumption];simp)];exact aac.one (CLe.nilrow (n:=([]:List Rp).length) rfl))
    |(rw[if_neg (by rw[show ron (a1,a2) (aa2 (a1,a2) (a3,a4))=false by assumption];simp)];exact aac.one (CLe.nilrow (n:=([]:List Rp).length) rfl))
  ·(repeat' (first | assumption | apply And.intro | apply Exists.intro ()))<;>first | exact aac.refl _ | exact aaf.refl _ | exact aaf.row rfl (λi hi=>absurd hi (Nat.not_lt_zero _)) (λi hi=>absurd hi (Nat.not_lt_zero _))
  ·-- a round
   have b00:(((0:Nat):Int) == 0)=true:=rfl;have b20:(((2:Nat):Int) == 0)=false:=rfl;have dlt0:(((0:Nat):Int)<4)=True:=by simp
   have step:aa3 (a1,a2) (a3,a4) 1=rst (a1,a2) (a3,a4) (aa3 (a1,a2) (a3,a4) 0) a1:=rfl;have zm:=adD zz 0;have hs:=ach (a1,a2) (a3,a4) 0;rw[step];have h0:aa3 (a1,a2) (a3,a4) 0=[]:=rfl;rw[h0] at zm ⊢;clear step hs h0;simp only[false_implies,forall_const,true_and,decide_eq_true_eq,decide_eq_false_iff_not,gt_iff_lt,aco,Int.lt_irrefl,not_false_eq_true,Int.toNat_zero];(repeat' (first | assumption | apply And.intro | apply Exists.intro () | intro _))<;>first
     |assumption
     |exact aac.refl _
     |exact aaf.refl _
     |exact aac.one (CLe.v (congrArg _ (by decide)))
     |omega
     |exact absurd (show ((0:Int) == 0)=false by assumption) (by decide)
     |exact absurd (show (((2:Nat):Int) == 0)=true by assumption) (by decide)
     |(exfalso;simp_all;done)
     |(rw[aaS (.inl (by assumption))];exact aaf.refl _)
     |(rw[aaS (.inr (by assumption))];exact aaf.refl _)
     |(rw[aaS (.inr (by assumption))];exact aaf.rpx rfl (λ_ _=>rfl))
     |(rw[aaS (.inl (by assumption))];exact aaf.rpx rfl (λ_ _=>rfl))
     |(rw[(abM (by assumption) (by assumption)).1];exact aaf.rp2 rfl rfl rfl)
  ·-- a round
   have b00:(((0:Nat):Int) == 0)=true:=rfl;have b20:(((2:Nat):Int) == 0)=false:=rfl;have dlt1:(((1:Nat):Int)<4)=True:=by simp
   have step:aa3 (a1,a2) (a3,a4) 2=rst (a1,a2) (a3,a4) (aa3 (a1,a2) (a3,a4) 1) a2:=rfl;have zm:=adD zz 1;have hs:=ach (a1,a2) (a3,a4) 1;rw[step];generalize aa3 (a1,a2) (a3,a4) 1=O at zm hs ⊢;clear step;rcases hs with rfl | ⟨a,b,rfl⟩
   ·simp only[Bool.true_eq_false,false_implies,forall_const,and_true,true_and,decide_eq_true_eq,decide_eq_false_iff_not,gt_iff_lt,aco,Int.lt_irrefl,not_false_eq_true,List.length_nil,b00,Int.toNat_zero];(repeat' (first | assumption | apply And.intro | apply Exists.intro () | intro _))<;>first
     |assumption
     |exact aac.refl _
     |exact aaf.refl _
     |exact aac.one (CLe.v (congrArg _ (by decide)))
     |omega
     |exact absurd (show ((0:Int) == 0)=false by assumption) (by decide)
     |exact absurd (show (((2:Nat):Int) == 0)=true by assumption) (by decide)
     |(exfalso;simp_all;done)
     |(rw[aaS (.inl (by assumption))];exact aaf.refl _)
     |(rw[aaS (.inr (by assumption))];exact aaf.refl _)
     |(rw[aaS (.inr (by assumption))];exact aaf.rpx rfl (λ_ _=>rfl))
     |(rw[aaS (.inl (by assumption))];exact aaf.rpx rfl (λ_ _=>rfl))
     |(rw[(abM (by assumption) (by assumption)).1];exact aaf.rp2 rfl rfl rfl)
   ·simp only[Bool.false_eq_true,false_implies,forall_const,true_and,decide_eq_true_eq,decide_eq_false_iff_not,gt_iff_lt,aco,Int.lt_irrefl,not_false_eq_true,List.length_nil,List.length_cons,b20,List.getD_cons_zero,List.getD_cons_succ,Nat.reduceAdd,Int.toNat_zero];(repeat' (first | assumption | apply And.intro | apply Exists.intro () | intro _))<;>first
     |assumption
     |exact aac.refl _
     |exact aaf.refl _
     |exact aac.one (CLe.v (congrArg _ (by decide)))
     |omega
     |exact zm _ (by simp)
     |exact absurd (show ((0:Int) == 0)=false by assumption) (by decide)
     |exact absurd (show (((2:Nat):Int) == 0)=true by assumption) (by decide)
     |(exfalso;simp_all;done)
     |(rw[aaS (.inl (by assumption))];exact aaf.refl _)
     |(rw[aaS (.inr (by assumption))];exact aaf.refl _)
     |(rw[aaS (.inr (by assumption))];exact aaf.rpx rfl (λ_ _=>rfl))
     |(rw[aaS (.inl (by assumption))];exact aaf.rpx rfl (λ_ _=>rfl))
     |(rw[(abM (by assumption) (by assumption)).1];exact aaf.rp2 rfl rfl rfl)
     |(rw[(abM (by assumption) (by assumption)).2,if_pos (show aaA a2 a<0 by assumption),if_pos (show 0<aaA a2 b by assumption)];exact aaf.rp2 rfl rfl rfl)
     |(rw[(abM (by assumption) (by assumption)).2,if_pos (show aaA a2 a<0 by assumption),if_neg (show ¬ 0<aaA a2 b by assumption)];exact aaf.rp2 rfl rfl rfl)
     |(rw[(abM (by assumption) (by assumption)).2,if_neg (show ¬ aaA a2 a<0 by assumption),if_pos (show 0<aaA a2 b by assumption)];exact aaf.rp2 rfl rfl rfl)
     |(rw[(abM (by assumption) (by assumption)).2,if_neg (show ¬ aaA a2 a<0 by assumption),if_neg (show ¬ 0<aaA a2 b by assumption)];exact aaf.rp2 rfl rfl rfl)
  ·-- a round
   have b00:(((0:Nat):Int) == 0)=true:=rfl;have b20:(((2:Nat):Int) == 0)=false:=rfl;have dlt2:(((2:Nat):Int)<4)=True:=by simp
   have step:aa3 (a1,a2) (a3,a4) 3=rst (a1,a2) (a3,a4) (aa3 (a1,a2) (a3,a4) 2) a3:=rfl;have zm:=adD zz 2;have hs:=ach (a1,a2) (a3,a4) 2;rw[step];generalize aa3 (a1,a2) (a3,a4) 2=O at zm hs ⊢;clear step;rcases hs with rfl | ⟨a,b,rfl⟩
   ·simp only[Bool.true_eq_false,false_implies,forall_const,and_true,true_and,decide_eq_true_eq,decide_eq_false_iff_not,gt_iff_lt,aco,Int.lt_irrefl,not_false_eq_true,List.length_nil,b00,Int.toNat_zero];(repeat' (first | assumption | apply And.intro | apply Exists.intro () | intro _))<;>first
     |assumption
     |exact aac.refl _
     |exact aaf.refl _
     |exact aac.one (CLe.v (congrArg _ (by decide)))
     |omega
     |exact absurd (show ((0:Int) == 0)=false by assumption) (by decide)
     |exact absurd (show (((2:Nat):Int) == 0)=true by assumption) (by decide)
     |(exfalso;simp_all;done)
     |(rw[aaS (.inl (by assumption))];exact aaf.refl _)
     |(rw[aaS (.inr (by assumption))];exact aaf.refl _)
     |(rw[aaS (.inr (by assumption))];exact aaf.rpx rfl (λ_ _=>rfl))
     |(rw[aaS (.inl (by assumption))];exact aaf.rpx rfl (λ_ _=>rfl))
     |(rw[(abM (by assumption) (by assumption)).1];exact aaf.rp2 rfl rfl rfl)
   ·simp only[Bool.false_eq_true,false_implies,forall_const,true_and,decide_eq_true_eq,decide_eq_false_iff_not,gt_iff_lt,aco,Int.lt_irrefl,not_false_eq_true,List.length_nil,List.length_cons,b20,List.getD_cons_zero,List.getD_cons_succ,Nat.reduceAdd,Int.toNat_zero];(repeat' (first | assumption | apply And.intro | apply Exists.intro () | intro _))<;>first
     |assumption
     |exact aac.refl _
     |exact aaf.refl _
     |exact aac.one (CLe.v (congrArg _ (by decide)))
     |omega
     |exact zm _ (by simp)
     |exact absurd (show ((0:Int) == 0)=false by assumption) (by decide)
     |exact absurd (show (((2:Nat):Int) == 0)=true by assumption) (by decide)
     |(exfalso;simp_all;done)
     |(rw[aaS (.inl (by assumption))];exact aaf.refl _)
     |(rw[aaS (.inr (by assumption))];exact aaf.refl _)
     |(rw[aaS (.inr (by assumption))];exact aaf.rpx rfl (λ_ _=>rfl))
     |(rw[aaS (.inl (by assumption))];exact aaf.rpx rfl (λ_ _=>rfl))
     |(rw[(abM (by assumption) (by assumption)).1];exact aaf.rp2 rfl rfl rfl)
     |(rw[(abM (by assumption) (by assumption)).2,if_pos (show aaA a3 a<0 by assumption),if_pos (show 0<aaA a3 b by assumption)];exact aaf.rp2 rfl rfl rfl)
     |(rw[(abM (by assumption) (by assumption)).2,if_pos (show aaA a3 a<0 by assumption),if_neg (show ¬ 0<aaA a3 b by assumption)];exact aaf.rp2 rfl rfl rfl)
     |(rw[(abM (by assumption) (by assumption)).2,if_neg (show ¬ aaA a3 a<0 by assumption),if_pos (show 0<aaA a3 b by assumption)];exact aaf.rp2 rfl rfl rfl)
     |(rw[(abM (by assumption) (by assumption)).2,if_neg (show ¬ aaA a3 a<0 by assumption),if_neg (show ¬ 0<aaA a3 b by assumption)];exact aaf.rp2 rfl rfl rfl)
  ·-- a round
   have b00:(((0:Nat):Int) == 0)=true:=rfl;have b20:(((2:Nat):Int) == 0)=false:=rfl;have dlt3:(((3:Nat):Int)<4)=True:=by simp
   have step:aa3 (a1,a2) (a3,a4) 4=rst (a1,a2) (a3,a4) (aa3 (a1,a2) (a3,a4) 3) a4:=rfl;have zm:=adD zz 3;have hs:=ach (a1,a2) (a3,a4) 3;rw[step];generalize aa3 (a1,a2) (a3,a4) 3=O at zm hs ⊢;clear step;rcases hs with rfl | ⟨a,b,rfl⟩
   ·simp only[Bool.true_eq_false,false_implies,forall_const,and_true,true_and,decide_eq_true_eq,decide_eq_false_iff_not,gt_iff_lt,aco,Int.lt_irrefl,not_false_eq_true,List.length_nil,b00,Int.toNat_zero];(repeat' (first | assumption | apply And.intro | apply Exists.intro () | intro _))<;>first
     |assumption
     |exact aac.refl _
     |exact aaf.refl _
     |exact aac.one (CLe.v (congrArg _ (by decide)))
     |omega
     |exact absurd (show ((0:Int) == 0)=false by assumption) (by decide)
     |exact absurd (show (((2:Nat):Int) == 0)=true by assumption) (by decide)
     |(exfalso;simp_all;done)
     |(rw[aaS (.inl (by assumption))];exact aaf.refl _)
     |(rw[aaS (.inr (by assumption))];exact aaf.refl _)
     |(rw[aaS (.inr (by assumption))];exact aaf.rpx rfl (λ_ _=>rfl))
     |(rw[aaS (.inl (by assumption))];exact aaf.rpx rfl (λ_ _=>rfl))
     |(rw[(abM (by assumption) (by assumption)).1];exact aaf.rp2 rfl rfl rfl)
   ·simp only[Bool.false_eq_true,false_implies,forall_const,true_and,decide_eq_true_eq,decide_eq_false_iff_not,gt_iff_lt,aco,Int.lt_irrefl,not_false_eq_true,List.length_nil,List.length_cons,b20,List.getD_cons_zero,List.getD_cons_succ,Nat.reduceAdd,Int.toNat_zero];(repeat' (first | assumption | apply And.intro | apply Exists.intro () | intro _))<;>first
     |assumption
     |exact aac.refl _
     |exact aaf.refl _
     |exact aac.one (CLe.v (congrArg _ (by decide)))
     |omega
     |exact zm _ (by simp)
     |exact absurd (show ((0:Int) == 0)=false by assumption) (by decide)
     |exact absurd (show (((2:Nat):Int) == 0)=true by assumption) (by decide)
     |(exfalso;simp_all;done)
     |(rw[aaS (.inl (by assumption))];exact aaf.refl _)
     |(rw[aaS (.inr (by assumption))];exact aaf.refl _)
     |(rw[aaS (.inr (by assumption))];exact aaf.rpx rfl (λ_ _=>rfl))
     |(rw[aaS (.inl (by assumption))];exact aaf.rpx rfl (λ_ _=>rfl))
     |(rw[(abM (by assumption) (by assumption)).1];exact aaf.rp2 rfl rfl rfl)
     |(rw[(abM (by assumption) (by assumption)).2,if_pos (show aaA a4 a<0 by assumption),if_pos (show 0<aaA a4 b by assumption)];exact aaf.rp2 rfl rfl rfl)
     |(rw[(abM (by assumption) (by assumption)).2,if_pos (show aaA a4 a<0 by assumption),if_neg (show ¬ 0<aaA a4 b by assumption)];exact aaf.rp2 rfl rfl rfl)
     |(rw[(abM (by assumption) (by assumption)).2,if_neg (show ¬ aaA a4 a<0 by assumption),if_pos (show 0<aaA a4 b by assumption)];exact aaf.rp2 rfl rfl rfl)
     |(rw[(abM (by assumption) (by assumption)).2,if_neg (show ¬ aaA a4 a<0 by assumption),if_neg (show ¬ 0<aaA a4 b by assumption)];exact aaf.rp2 rfl rfl rfl)
  ·-- the end
   have hs:=ach (a1,a2) (a3,a4) 4;have zm:=adD zz 4;have hm:=agW hp;have he:aim (a1,a2) (a3,a4)=aa3 (a1,a2) (a3,a4) 4:=rfl;rw[he] at hm;clear he;generalize aa3 (a1,a2) (a3,a4) 4=O at zm hs hm ⊢;rcases hs with rfl | ⟨a,b,rfl⟩
   ·rw[hm.1 rfl];(repeat' (first | assumption | apply And.intro | intro _))<;>first
     |assumption
     |exact aac.rpx rfl (λ_ _=>rfl)
     |exact absurd (show decide (((4:Nat):Int)<4)=true by assumption) (by decide)
     |exact absurd (show decide ((4:Int)<4)=true by assumption) (by decide)
     |exact absurd (show (((0:Nat):Int) == 2)=true by assumption) (by decide)
     |exact absurd (show ((0:Int) == 2)=true by assumption) (by decide)
   ·rw[hm.2 a b rfl];have za:=zm a (by simp);have zb:=zm b (by simp);(repeat' (first | assumption | apply And.intro | intro _))<;>first
     |assumption
     |omega
     |(simp only[List.length_cons,List.length_nil];omega)
     |decide
     |exact absurd (show decide (((4:Nat):Int)<4)=true by assumption) (by decide)
     |exact absurd (show decide ((4:Int)<4)=true by assumption) (by decide)
     |exact absurd (show (((2:Nat):Int) == 2)=false by assumption) (by decide)
     |(rw[if_pos (beq_iff_eq.1 (show (aaA a b == 0)=true by assumption))];exact aac.rp1 rfl rfl)
     |(rw[if_neg (λh=>aym (beq_iff_eq.2 h) (show (aaA a b == 0)=false by assumption))];exact aac.rpx rfl (λ_ _=>rfl))
 ·cases h
end Go.Proofs.YtcmplpkmfbhpdaaGreat
