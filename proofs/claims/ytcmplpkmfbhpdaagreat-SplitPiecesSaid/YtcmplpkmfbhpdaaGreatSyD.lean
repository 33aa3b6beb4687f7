import Derived.Test.YtcmplpkmfbhpdaaGreatSyC
import Derived.Test.YtcmplpkmfbhpdaaGreatGX
import Derived.Test.YtcmplpkmfbhpdaaGreatRfN
namespace Go.Proofs.YtcmplpkmfbhpdaaGreat
open Go Go.RowKit
def qC (x:Rat) (s:Nat):List aaa:=[.q x s 0,.q x s 1,.q x s 2,.q x s 3]
def zC (x:Int) (s:Nat):List aaa:=[.z x s 0,.z x s 1]
section
variable {G:Nat->GV} {F:Nat->Prop} {w:World}
theorem avY {v:Value} {x:Rat} {s:Nat} (h:RIs w v x) (hs:rl x<=s):AV.ok (GOk G F w) (.s true (qC x s)) v:=by
 obtain⟨cs,rfl,c1,c2,D,rfl,⟨a,rfl,h1⟩,⟨b,rfl,h2⟩,h3⟩:=h;refine⟨_,rfl,rfl,λi c v h4 h5=> ?_⟩;have hD:D.natAbs=x.den\/(D.natAbs=0/\x.den=1):=by
  rcases h3 with rfl | ⟨rfl,h⟩
  ·exact .inl (Int.natAbs_natCast _)
  ·exact .inr ⟨rfl,h⟩
 have hneg:decide (D<0)=false:=by
  rcases h3 with rfl | ⟨rfl,_⟩
  ·simp
  ·rfl
 match i,h4,h5 with
 |0,h4,h5=>cases h4;cases h5;exact GOk.of (.q ⟨a,rfl,h1⟩ hs)
 |1,h4,h5=>cases h4;cases h5;exact GOk.of (.q rfl hs)
 |2,h4,h5=>cases h4;cases h5;exact GOk.of (.q ⟨b,D.natAbs,rfl,h2,hD⟩ hs)
 |3,h4,h5=>cases h4;cases h5;rw[hneg];exact GOk.of (.q rfl hs)
theorem apS {v:Value} {x:Rat} {s:Nat} (h:AV.ok (GOk G F w) (.s true (qC x s)) v):RIs w v x/\rl x<=s:=by
 obtain⟨cs,rfl,h1,h2⟩:=h;match cs,h1 with
 |[v0,v1,v2,v3],_=>
  have k0:COk F w (.q x s 0) v0:=h2 0 _ _ rfl rfl;have k1:COk F w (.q x s 1) v1:=h2 1 _ _ rfl rfl;have k2:COk F w (.q x s 2) v2:=h2 2 _ _ rfl rfl;have k3:COk F w (.q x s 3) v3:=h2 3 _ _ rfl rfl;cases k0 with
  |q k0 hs=>cases k1 with
   |q k1 _=>cases k2 with
    |q k2 _=>cases k3 with
     |q k3 _=>
      obtain⟨a,rfl,q0⟩:=k0;have k1':v1= .bool (decide (x.num<0)):=k1;obtain⟨b,D,rfl,q2,q3⟩:=k2;have k3':v3= .bool false:=k3;subst k1' k3';refine⟨⟨_,rfl,[_,_],[_,_],(D:Int),rfl,⟨a,rfl,q0⟩,⟨b,?_,by simpa using q2⟩,?_⟩,hs⟩
      ·simp
      ·rcases q3 with rfl | ⟨rfl,h⟩
       ·exact .inl rfl
       ·exact .inr ⟨rfl,h⟩
theorem aAc {v:Value} {x:Int} {s:Nat} (h:ZIs w v x) (hs:(limbs x.natAbs).length<=s):AV.ok (GOk G F w) (.s true (zC x s)) v:=by
 obtain⟨cs,rfl,a,rfl,h1⟩:=h;refine⟨_,rfl,rfl,λi c v h4 h5=> ?_⟩;match i,h4,h5 with
 |0,h4,h5=>cases h4;cases h5;exact GOk.of (.z ⟨a,rfl,h1⟩ hs)
 |1,h4,h5=>cases h4;cases h5;exact GOk.of (.z rfl hs)
theorem ayL {v:Value} {x:Int} {s:Nat} (h:AV.ok (GOk G F w) (.s true (zC x s)) v):ZIs w v x/\(limbs x.natAbs).length<=s:=by
 obtain⟨cs,rfl,h1,h2⟩:=h;match cs,h1 with
 |[v0,v1],_=>
  have k0:COk F w (.z x s 0) v0:=h2 0 _ _ rfl rfl;have k1:COk F w (.z x s 1) v1:=h2 1 _ _ rfl rfl;cases k0 with
  |z k0 hs=>cases k1 with
   |z k1 _=>
    obtain⟨a,rfl,q0⟩:=k0;have k1':v1= .bool (decide (x<0)):=k1;subst k1';exact⟨⟨_,rfl,a,rfl,q0⟩,hs⟩
end
def asQ:AV->Option (Rat × Nat × Prop)
 | .s true l=>match l with
  |[.q x s _,.q _ _ _,.q _ _ _,.q _ _ _]=>some (x,s,aan l (qC x s))
  |[.v (.slice none 0 0),.f,.v (.slice none 0 0),.f]=>some (0,1,aan l (qC 0 1))
  |_=>none
 |_=>none
def asZ:AV->Option (Int × Nat × Prop)
 | .s true l=>match l with
  |[.z x s _,.z _ _ _]=>some (x,s,aan l (zC x s))
  |_=>none
 |_=>none
theorem adn {av:AV} {x:Rat} {s:Nat} {p:Prop} (h:asQ av=some (x,s,p)) (hp:p):aac av (.s true (qC x s)):=by
 unfold asQ at h;split at h
 ·split at h
  ·cases h;exact aac.s hp
  ·cases h;exact aac.s hp
  ·cases h
 ·cases h
theorem anN {av:AV} {x:Int} {s:Nat} {p:Prop} (h:asZ av=some (x,s,p)) (hp:p):aac av (.s true (zC x s)):=by
 unfold asZ at h;split at h
 ·split at h
  ·cases h;exact aac.s hp
  ·cases h
 ·cases h
theorem aa6 {P:Program} {D:Prop} {B:Nat} {f:FuncId} {run:List AV->Option (AV × List Prop)} (hc:abQ P f=true)
  (H:∀ (avs:List AV) (spec:AV) (ps:List Prop),run avs=some (spec,ps)->aca ps->∀ (G:Nat->GV) (F:Nat->Prop) (w:World) (vs:List Value),aed (GOk G F w) avs vs->
   Calls P f vs.toArray w λe w'=>∃ r,e= .returned r/\(∀ F',spec.ok (GOk G F' w') r)/\av5 D w.heap.size w w') :
  aai P D B f λ_ avs _=>match run avs with
   |some (av,ps)=>some { val:=some av,ps:=ps }
   |none=>none:=by
 refine⟨hc,λb avs t e hr hp G F w vs V hvs=> ?_⟩;simp only at hr;split at hr
 ·rename_i av ps hav;cases hr;refine (H avs av ps hav hp G F w vs hvs).mono ?_;rintro en w' ⟨r,rfl,h1,h2⟩;refine⟨r,rfl,G,F,λ_ _=>rfl,λ_ _=>rfl,λ_ h=>h,λ_ h=> .inl h,λg hg=>Nat.lt_of_lt_of_le (V.fl g hg) h2.b.size,h2.b.os,h2.b.tape,h2.b.output,h2.b.size,h2.d,aaC (aar h2.b none),λg hg _=>h2.b.block g hg,λav' hav'=> ?_,λk b' hs=>(by cases hs),λk k' b' b2 hs=>by cases hs⟩;cases hav';exact h1 F
 ·cases hr
def qq (f:Rat->Rat->Rat) (g:Nat->Nat->Nat) (k:Nat):Run:=λ_ avs _=>match (match avs with
  |[u,v]=>match asQ u,asQ v with
   |some (x,s,p),some (y,t,q)=>some (AV.s true (qC (f x y) (g s t)),[p,q,s<=k/\t<=k])
   |_,_=>none
  |_=>none:Option (AV × List Prop)) with
   |some (av,ps)=>some { val:=some av,ps:=ps }
   |none=>none
theorem atj {P:Program} {D:Prop} {B:Nat} {fn:FuncId} {f:Rat->Rat->Rat} {g:Nat->Nat->Nat} {k:Nat} (hc:abQ P fn=true)
  (hg:∀ x y s t,rl x<=s->rl y<=t->rl (f x y)<=g s t)
  (H:∀ (x y:Rat) (v u:Value) (w:World),RIs w v x->RIs w u y->rl x<=k->rl y<=k->Calls P fn #[v,u] w λe w'=>∃ r,e= .returned r/\RIs w' r (f x y)/\av5 D w.heap.size w w'):aai P D B fn (qq f g k):=by
 refine aa6 hc λavs spec ps hr hp G F w vs hvs=> ?_;split at hr
 ·rename_i u v;split at hr
  ·rename_i x s p y t q hx hy;cases hr;obtain⟨h1,h2,h3,_⟩:=hp;match vs,hvs with
   |[a,b],hvs=>
    obtain⟨k1,k2⟩:=apS ((adn hx h1).h _ _ _ _ (hvs.2 0 _ a rfl rfl));obtain⟨k3,k4⟩:=apS ((adn hy h2).h _ _ _ _ (hvs.2 1 _ b rfl rfl));refine (H x y a b w k1 k3 (Nat.le_trans k2 h3.1) (Nat.le_trans k4 h3.2)).mono ?_;rintro e w' ⟨r,rfl,h5,h6⟩;exact⟨r,rfl,λF'=>avY h5 (hg x y s t k2 k4),h6⟩
   |[],hvs=>cases hvs.1
   |[_],hvs=>cases hvs.1
   |_::_::_::_,hvs=>cases hvs.1
  ·cases hr
 ·cases hr
end Go.Proofs.YtcmplpkmfbhpdaaGreat
namespace Go.Proofs.YtcmplpkmfbhpdaaGreat
open Go Go.RowKit
theorem aAK {q:Rat} (w w':World) (v:Value) (k:KK w w'):(∃ r,v= .tuple #[r,.int .i64 0]/\RIs w r q)->∃ r,v= .tuple #[r,.int .i64 0]/\RIs w' r q:=by
 rintro⟨r,rfl,h⟩;exact⟨r,rfl,h.keep k.1⟩
theorem azw {w:World} {cs:List Value} {q:Rat} (h:RIs w (.agg cs.toArray) q):∃ (a:Option Addr) (n:Nat) (b:Bool) (c:Option Addr) (m:Nat) (d:Bool),cs=[.slice a n n,.bool b,.slice c m m,.bool d]:=by
 obtain⟨a,n,b,c,m,d,e⟩:=h.parts;simp only[Value.agg.injEq] at e;exact⟨a,n,b,c,m,d,congrArg Array.toList e⟩
set_option maxHeartbeats 8000000 in
set_option maxRecDepth 100000 in
set_option maxHeartbeats 4000000 in
set_option maxRecDepth 100000 in
theorem arC (q p:Rat) (v u:Value) (w:World) (hv:RIs w v q) (hu:RIs w u p) (hq:acr q<=100000) (hp:acr p<=100000) (hp0:p≠0) :
  Calls Tryz.prog 93 #[v,u] w λe w'=>∃ r,e= .returned (.tuple #[r,.int .i64 0])/\RIs w' r (q/p)/\Below w.heap.size w w':=by
 obtain⟨a1,n1,b1,c1,m1,d1,rfl⟩:=hv.parts;obtain⟨a2,n2,b2,c2,m2,d2,rfl⟩:=hu.parts;have HV:=Lib.hid hv;have HU:=Lib.hid hu;have HN1:=Lib.hid (acl hv).1;have HN2:=Lib.hid (acl hu).1;have HDP:Hid ((limbs p.den).length<=1000000):=Lib.hid (by unfold acr at hp;omega);have HDQ:Hid ((limbs q.den).length<=1000000):=Lib.hid (by unfold acr at hq;omega);have HL1:Hid ((limbs q.num.natAbs).length<=400000):=Lib.hid (by unfold acr at hq;omega);have HL2:Hid ((limbs ((p.den:Nat):Int).natAbs).length<=400000):=Lib.hid (by rw[Int.natAbs_natCast];unfold acr at hp;omega);have HL3:Hid ((limbs ((q.den:Nat):Int).natAbs).length<=400000):=Lib.hid (by rw[Int.natAbs_natCast];unfold acr at hq;omega);have HL4:Hid ((limbs p.num.natAbs).length<=400000):=Lib.hid (by unfold acr at hp;omega);have HL5:Hid ((limbs (q.num*(p.den:Int)).natAbs).length<=800000):=Lib.hid (by have h:=aaM q.num (p.den:Int);have:=HL1.out;have:=HL2.out;omega);have HL6:Hid ((limbs ((q.den:Int)*p.num).natAbs).length<=800000):=Lib.hid (by have h:=aaM (q.den:Int) p.num;have:=HL3.out;have:=HL4.out;omega);have HNZ:Hid ((q.den:Int)*p.num≠0):=Lib.hid (Int.mul_ne_zero (acN q) (λe=>hp0 (Rat.num_eq_zero.1 e)));have HB0:Hid (aak 39 (((w.alloc (.cells #[.slice a1 n1 n1,.bool b1,.slice c1 m1 m1,.bool d1] 39)).alloc (.cells #[.slice a2 n2 n2,.bool b2,.slice c2 m2 m2,.bool d2] 39)).alloc (.cells #[.slice none 0 0,.bool false,.slice none 0 0,.bool false] 39)) w.heap.size [.slice a1 n1 n1,.bool b1,.slice c1 m1 m1,.bool d1]):=((aak.new _ w [.slice a1 n1 n1,.bool b1,.slice c1 m1 m1,.bool d1]).still (aab _ _ none)).still (aab _ _ none);have HB1:Hid (aak 39 (((w.alloc (.cells #[.slice a1 n1 n1,.bool b1,.slice c1 m1 m1,.bool d1] 39)).alloc (.cells #[.slice a2 n2 n2,.bool b2,.slice c2 m2 m2,.bool d2] 39)).alloc (.cells #[.slice none 0 0,.bool false,.slice none 0 0,.bool false] 39)) (w.heap.size+1) [.slice a2 n2 n2,.bool b2,.slice c2 m2 m2,.bool d2]):=(aaN (cs:=[.slice a2 n2 n2,.bool b2,.slice c2 m2 m2,.bool d2]) (by simp)).still (aab _ _ none);have HB2:Hid (aak 39 (((w.alloc (.cells #[.slice a1 n1 n1,.bool b1,.slice c1 m1 m1,.bool d1] 39)).alloc (.cells #[.slice a2 n2 n2,.bool b2,.slice c2 m2 m2,.bool d2] 39)).alloc (.cells #[.slice none 0 0,.bool false,.slice none 0 0,.bool false] 39)) (w.heap.size+1+1) [.slice none 0 0,.bool false,.slice none 0 0,.bool false]):=aaN (cs:=[.slice none 0 0,.bool false,.slice none 0 0,.bool false]) (by simp);have HG:Hid (Own w.heap.size w (((w.alloc (.cells #[.slice a1 n1 n1,.bool b1,.slice c1 m1 m1,.bool d1] 39)).alloc (.cells #[.slice a2 n2 n2,.bool b2,.slice c2 m2 m2,.bool d2] 39)).alloc (.cells #[.slice none 0 0,.bool false,.slice none 0 0,.bool false] 39))):=((aap _ _).alloc (by simp) _).alloc (by simp;omega) _;clear hv hu hq hp hp0;have mixed:Tryz.prog.follows .mixedOrders=true:=by kernel_rfl
 go_enter Tryz.func93,Tryz.ntmps93
 go_wp2_with fail
 refine ao1 (by kernel_rfl) (by kernel_rfl) rfl (KK) (fun | 0=> .is (.pointer (some ⟨w.heap.size,0,none⟩)) | 1=> .is (.agg #[.slice a1 n1 n1,.bool b1]) | 2=> .is (.agg #[.slice a2 n2 n2,.bool b2,.slice c2 m2 m2,.bool d2]) | 3=> .p ((λW v=>ZIs W v ((p.den:Int)))) kkz | 4=> .p ((λW v=>ZIs W v (q.num*(p.den:Int)))) kkz | 5=> .is (.agg #[.slice a1 n1 n1,.bool b1,.slice c1 m1 m1,.bool d1]) | 6=> .p ((λW v=>ZIs W v ((q.den:Int)))) kkz | 7=> .is (.pointer (some ⟨(w.heap.size+1),0,none⟩)) | 8=> .is (.agg #[.slice a2 n2 n2,.bool b2]) | 9=> .p ((λW v=>ZIs W v ((q.den:Int)*p.num))) kkz | 10=> .p ((λW v=>∃ r,v= .tuple #[r,.int .i64 0]/\RIs W r (q/p))) aAK | 11=> .p ((λW v=>RIs W v (q/p))) kkr | 12=> .is (.int .i64 0) | 13=> .any | 14=> .is (.int .i64 0) | _=> .any) (MK w.heap.size w w [(39,w.heap.size,[.slice a1 n1 n1,.bool b1,.slice c1 m1 m1,.bool d1]),(39,(w.heap.size+1),[.slice a2 n2 n2,.bool b2,.slice c2 m2 m2,.bool d2])] [tgK 4 none 13 39 4 (λW v=>RIs W v (q/p)) kkr]) (λf g a w hn h=>MK.ext (n:=15) (by simp) hn h) ?_ ?_ ?_
 ·refine⟨HG.out.b.drew,adC HG.out.b.drew,HG.out.size,(by intro q hq;simp only[List.mem_cons,List.not_mem_nil,or_false] at hq;rcases hq with rfl | rfl;exact HB0.out;exact HB1.out),?_,?_⟩
  ·intro t ht h;simp only[List.mem_cons,List.not_mem_nil,or_false] at ht;rcases ht with rfl
   ·exact⟨(w.heap.size+1+1),_,rfl,by omega,HB2.out,rfl,by intro q hq;simp only[List.mem_cons,List.not_mem_nil,or_false] at hq;rcases hq with rfl | rfl<;>(simp<;>omega)⟩
  ·intro t u ht hu hd h h';simp only[List.mem_cons,List.not_mem_nil,or_false] at ht hu;subst ht;subst hu;exact absurd rfl hd
 ·intro i o f A W hi hJ hf hdep hdn hcl hfr hsz;rcases i with _ | _ | _ | _ | _ | _ | _ | _ | _ | _ | _ | _ | _ | _ | _ | i
  all_goals (simp at hi)
  all_goals (try subst hi)
  ·have t2:=hfr 2 (by simp);refine aag (v:= .pointer (some ⟨w.heap.size,0,none⟩)) (w':=W) ?_ ⟨KK.refl _,hJ.same _ _ _ (by simp),rfl⟩;simp[go_sem,Act.eval,t2]
  ·have t6:A.tmps.getD 6 undef= .pointer (some ⟨w.heap.size,0,none⟩):=hdep 0 _ 6 rfl (by kernel_rfl) rfl;have hb0:aak 39 W w.heap.size [.slice a1 n1 n1,.bool b1,.slice c1 m1 m1,.bool d1]:=hJ.kept (39,w.heap.size,[.slice a1 n1 n1,.bool b1,.slice c1 m1 m1,.bool d1]) (by simp);have x00:W.cell? ⟨w.heap.size,0,none⟩=some (.slice a1 n1 n1):=by rw[hb0.cell 0];rfl
   have x01:W.cell? ⟨w.heap.size,1,none⟩=some (.bool b1):=by rw[hb0.cell 1];rfl
   have x02:W.cell? ⟨w.heap.size,2,none⟩=some (.slice c1 m1 m1):=by rw[hb0.cell 2];rfl
   have x03:W.cell? ⟨w.heap.size,3,none⟩=some (.bool d1):=by rw[hb0.cell 3];rfl
   refine aag (v:= .agg #[.slice a1 n1 n1,.bool b1]) (w':=W) ?_ ⟨KK.refl _,hJ.same _ _ _ (by simp),rfl⟩;simp[go_sem,Act.eval,t6,x00,x01]
  ·have t3:=hfr 3 (by simp);have hb1:aak 39 W (w.heap.size+1) [.slice a2 n2 n2,.bool b2,.slice c2 m2 m2,.bool d2]:=hJ.kept (39,(w.heap.size+1),[.slice a2 n2 n2,.bool b2,.slice c2 m2 m2,.bool d2]) (by simp);have x10:W.cell? ⟨(w.heap.size+1),0,none⟩=some (.slice a2 n2 n2):=by rw[hb1.cell 0];rfl
   have x11:W.cell? ⟨(w.heap.size+1),1,none⟩=some (.bool b2):=by rw[hb1.cell 1];rfl
   have x12:W.cell? ⟨(w.heap.size+1),2,none⟩=some (.slice c2 m2 m2):=by rw[hb1.cell 2];rfl
   have x13:W.cell? ⟨(w.heap.size+1),3,none⟩=some (.bool d2):=by rw[hb1.cell 3];rfl
   refine aag (v:= .agg #[.slice a2 n2 n2,.bool b2,.slice c2 m2 m2,.bool d2]) (w':=W) ?_ ⟨KK.refl _,hJ.same _ _ _ (by simp),rfl⟩;simp[go_sem,Act.eval,t3,x10,x11,x12,x13]
  ·have t8:A.tmps.getD 8 undef= .agg #[.slice a2 n2 n2,.bool b2,.slice c2 m2 m2,.bool d2]:=hdep 2 _ 8 rfl (by kernel_rfl) rfl;refine aat (w':=W) (f:=61) (xs:= #[Value.agg #[.slice a2 n2 n2,.bool b2,.slice c2 m2 m2,.bool d2]]) (by simp[go_sem,Act.eval,t8]) ?_;refine (acm p _ _ (kkr _ _ _ hJ.k HU.out) HDP.out).mono ?_;rintro e w1 ⟨r,rfl,hr,hg1⟩;exact⟨r,rfl,adC hg1.b,hJ.gr hg1.b _ _ _ (by simp),hr⟩
  ·have t7:A.tmps.getD 7 undef= .agg #[.slice a1 n1 n1,.bool b1]:=hdep 1 _ 7 rfl (by kernel_rfl) rfl;have t9:(λW v=>ZIs W v ((p.den:Int))) W (A.tmps.getD 9 undef):=hdep 3 _ 9 rfl (by kernel_rfl) rfl;refine aat (w':=W) (f:=60) (xs:= #[Value.agg #[.slice a1 n1 n1,.bool b1],A.tmps.getD 9 undef]) (by simp[go_sem,Act.eval,t7]) ?_;refine (acd q.num (p.den:Int) _ _ _ (kkz _ _ _ hJ.k HN1.out) t9 HL1.out HL2.out).mono ?_;rintro e w1 ⟨r,rfl,hr,hg1⟩;exact⟨r,rfl,adC hg1.b,hJ.gr hg1.b _ _ _ (by simp),hr⟩
  ·have t2:=hfr 2 (by simp);have hb0:aak 39 W w.heap.size [.slice a1 n1 n1,.bool b1,.slice c1 m1 m1,.bool d1]:=hJ.kept (39,w.heap.size,[.slice a1 n1 n1,.bool b1,.slice c1 m1 m1,.bool d1]) (by simp);have x00:W.cell? ⟨w.heap.size,0,none⟩=some (.slice a1 n1 n1):=by rw[hb0.cell 0];rfl
   have x01:W.cell? ⟨w.heap.size,1,none⟩=some (.bool b1):=by rw[hb0.cell 1];rfl
   have x02:W.cell? ⟨w.heap.size,2,none⟩=some (.slice c1 m1 m1):=by rw[hb0.cell 2];rfl
   have x03:W.cell? ⟨w.heap.size,3,none⟩=some (.bool d1):=by rw[hb0.cell 3];rfl
   refine aag (v:= .agg #[.slice a1 n1 n1,.bool b1,.slice c1 m1 m1,.bool d1]) (w':=W) ?_ ⟨KK.refl _,hJ.same _ _ _ (by simp),rfl⟩;simp[go_sem,Act.eval,t2,x00,x01,x02,x03]
  ·have t11:A.tmps.getD 11 undef= .agg #[.slice a1 n1 n1,.bool b1,.slice c1 m1 m1,.bool d1]:=hdep 5 _ 11 rfl (by kernel_rfl) rfl;refine aat (w':=W) (f:=61) (xs:= #[Value.agg #[.slice a1 n1 n1,.bool b1,.slice c1 m1 m1,.bool d1]]) (by simp[go_sem,Act.eval,t11]) ?_;refine (acm q _ _ (kkr _ _ _ hJ.k HV.out) HDQ.out).mono ?_;rintro e w1 ⟨r,rfl,hr,hg1⟩;exact⟨r,rfl,adC hg1.b,hJ.gr hg1.b _ _ _ (by simp),hr⟩
  ·have t3:=hfr 3 (by simp);refine aag (v:= .pointer (some ⟨(w.heap.size+1),0,none⟩)) (w':=W) ?_ ⟨KK.refl _,hJ.same _ _ _ (by simp),rfl⟩;simp[go_sem,Act.eval,t3]
  ·have t13:A.tmps.getD 13 undef= .pointer (some ⟨(w.heap.size+1),0,none⟩):=hdep 7 _ 13 rfl (by kernel_rfl) rfl;have hb1:aak 39 W (w.heap.size+1) [.slice a2 n2 n2,.bool b2,.slice c2 m2 m2,.bool d2]:=hJ.kept (39,(w.heap.size+1),[.slice a2 n2 n2,.bool b2,.slice c2 m2 m2,.bool d2]) (by simp);have x10:W.cell? ⟨(w.heap.size+1),0,none⟩=some (.slice a2 n2 n2):=by rw[hb1.cell 0];rfl
   have x11:W.cell? ⟨(w.heap.size+1),1,none⟩=some (.bool b2):=by rw[hb1.cell 1];rfl
   have x12:W.cell? ⟨(w.heap.size+1),2,none⟩=some (.slice c2 m2 m2):=by rw[hb1.cell 2];rfl
   have x13:W.cell? ⟨(w.heap.size+1),3,none⟩=some (.bool d2):=by rw[hb1.cell 3];rfl
   refine aag (v:= .agg #[.slice a2 n2 n2,.bool b2]) (w':=W) ?_ ⟨KK.refl _,hJ.same _ _ _ (by simp),rfl⟩;simp[go_sem,Act.eval,t13,x10,x11]
  ·have t12:(λW v=>ZIs W v ((q.den:Int))) W (A.tmps.getD 12 undef):=hdep 6 _ 12 rfl (by kernel_rfl) rfl;have t14:A.tmps.getD 14 undef= .agg #[.slice a2 n2 n2,.bool b2]:=hdep 8 _ 14 rfl (by kernel_rfl) rfl;refine aat (w':=W) (f:=60) (xs:= #[A.tmps.getD 12 undef,Value.agg #[.slice a2 n2 n2,.bool b2]]) (by simp[go_sem,Act.eval,t14]) ?_;refine (acd (q.den:Int) p.num _ _ _ t12 (kkz _ _ _ hJ.k HN2.out) HL3.out HL4.out).mono ?_;rintro e w1 ⟨r,rfl,hr,hg1⟩;exact⟨r,rfl,adC hg1.b,hJ.gr hg1.b _ _ _ (by simp),hr⟩
  ·have t10:(λW v=>ZIs W v (q.num*(p.den:Int))) W (A.tmps.getD 10 undef):=hdep 4 _ 10 rfl (by kernel_rfl) rfl;have t15:(λW v=>ZIs W v ((q.den:Int)*p.num)) W (A.tmps.getD 15 undef):=hdep 9 _ 15 rfl (by kernel_rfl) rfl;refine aat (w':=W) (f:=57) (xs:= #[A.tmps.getD 10 undef,A.tmps.getD 15 undef]) (by simp[go_sem,Act.eval]) ?_;refine (alA (q.num*(p.den:Int)) ((q.den:Int)*p.num) _ _ _ t10 t15 HL5.out HL6.out HNZ.out).mono ?_;rintro e w1 ⟨r,rfl,hr,hg1⟩;exact⟨_,rfl,adC hg1,hJ.gr hg1 _ _ _ (by simp),⟨r,rfl,(alW q p) ▸ hr⟩⟩
  ·have t16:(λW v=>∃ r,v= .tuple #[r,.int .i64 0]/\RIs W r (q/p)) W (A.tmps.getD 16 undef):=hdep 10 _ 16 rfl (by kernel_rfl) rfl;obtain⟨r0,e0,h0⟩:=t16;refine aag (v:=r0) (w':=W) ?_ ⟨KK.refl _,hJ.same _ _ _ (by simp),h0⟩;simp[go_sem,Act.eval,e0]
  ·have t16:(λW v=>∃ r,v= .tuple #[r,.int .i64 0]/\RIs W r (q/p)) W (A.tmps.getD 16 undef):=hdep 10 _ 16 rfl (by kernel_rfl) rfl;obtain⟨r0,e0,h0⟩:=t16;refine aag (v:= .int .i64 0) (w':=W) ?_ ⟨KK.refl _,hJ.same _ _ _ (by simp),rfl⟩;simp[go_sem,Act.eval,e0]
  ·have t17:(λW v=>RIs W v (q/p)) W (A.tmps.getD 17 undef):=hdep 11 _ 17 rfl (by kernel_rfl) rfl;obtain⟨g9,cs9,hp9,hb9,hk9⟩:=hJ.ahead (t0:=tgK 4 none 13 39 4 (λW v=>RIs W v (q/p)) kkr) (by simp) (λj hj=>by cases hj) hf;obtain⟨y0,y1,y2,y3,rfl⟩:=aAJ hk9;obtain⟨a8,n8,b8,c8,m8,d8,e8⟩:=t17.parts;have hv8:=t17;rw[e8] at hv8;have hst:StK 39 W g9 _ [.slice a8 n8 n8,.bool b8,.slice c8 m8 m8,.bool d8]:=(((StK.one (T:=39) hb9 ⟨by decide,by decide⟩ 0 (.slice a8 n8 n8)).more ⟨by decide,by decide⟩ 1 (.bool b8)).more ⟨by decide,by decide⟩ 2 (.slice c8 m8 m8)).more ⟨by decide,by decide⟩ 3 (.bool d8);have hcell:=hb9.cell;have hfree:=hb9.free;refine abp ?_ ⟨hst.kk,hJ.put 13 undef (by simp) (λj hj=>by cases hj) rfl hp9 hst.gr hst.kk hst.bb (kkr _ _ _ hst.kk hv8) (by simp) (by simp),trivial⟩;simp[go_sem,Act.eval,hp9,e8,hcell,hfree]
  ·have t18:A.tmps.getD 18 undef= .int .i64 0:=hdep 12 _ 18 rfl (by kernel_rfl) rfl;refine aag (v:= .int .i64 0) (w':=W) ?_ ⟨KK.refl _,hJ.same _ _ _ (by simp),rfl⟩;simp[go_sem,Act.eval,t18]
 ·intro vs W hJ hs;obtain⟨gA,csA,pA,_,bA,kA,_⟩:=hJ.at' (tgK 4 none 13 39 4 (λW v=>RIs W v (q/p)) kkr) (by simp) (λj hj=>by cases hj);have eA:gA=(w.heap.size+1+1):=adR (by simpa[aaK,Act.put] using pA);subst eA;have kA':RIs W (.agg csA.toArray) (q/p):=kA;obtain⟨a8,n8,b8,c8,m8,d8,rfl⟩:=azw kA';have HB9:Hid (aak 39 W (w.heap.size+1+1) _):=bA;have HR9:Hid (RIs W (.agg _) (q/p)):=kA';have HL9:Hid (Below w.heap.size w W):=hJ.b;have e5:vs 5= .int .i64 0:=hs 14 _ _ rfl rfl;clear pA bA kA kA' hJ hs;simp only[aaK,List.foldl_cons,List.foldl_nil,Act.put,List.setIfInBounds_toArray,List.set_cons_succ,List.set_cons_zero];rw[e5];go_wp2_with fail
  exact acA (T:=39) rfl (by kernel_rfl) rfl rfl HB9.out ⟨_,rfl,HR9.out,HL9.out⟩
end Go.Proofs.YtcmplpkmfbhpdaaGreat
namespace Go.Proofs.YtcmplpkmfbhpdaaGreat
open Go Go.RowKit
theorem aet {w w':World} (h:Below w.heap.size w w'):av5 False w.heap.size w w':=⟨h,λh=>h.elim⟩
theorem acV {D:Prop} {w w':World} (h:Own w.heap.size w w'):av5 D w.heap.size w w':=⟨h.b,λ_=>h.d⟩
def acq (s t:Nat):Nat:=s+t
def aa1 (s t:Nat):Nat:=s+t+1
def aAl:Run:=qq (λx y=>x*y) acq 50000
def aAx:Run:=qq (λx y=>x+y) aa1 50000
def aAe:Run:=qq (λx y=>x-y) aa1 50000
theorem auK (B:Nat):aai Tryz.prog False B 19 aAl:=by
 refine atj (by kernel_rfl) (λx y s t hs ht=> ?_) λx y v u w h1 h2 h3 h4=>(aqJ x y v u w h1 h2 (by have:=adQ h3;omega) (by have:=adQ h4;omega)).mono ?_
 ·have:=aw3 x y;unfold acq;omega
 ·rintro e w' ⟨r,h5,h6,h7⟩;exact⟨r,h5,h6,aet h7⟩
theorem avG (B:Nat):aai Tryz.prog False B 17 aAx:=by
 refine atj (by kernel_rfl) (λx y s t hs ht=> ?_) λx y v u w h1 h2 h3 h4=>(aoD x y v u w h1 h2 (by have:=adQ h3;omega) (by have:=adQ h4;omega)).mono ?_
 ·have:=asa x y;unfold aa1;omega
 ·rintro e w' ⟨r,h5,h6,h7⟩;exact⟨r,h5,h6,aet h7⟩
theorem at6 (B:Nat):aai Tryz.prog False B 18 aAe:=by
 refine atj (by kernel_rfl) (λx y s t hs ht=> ?_) λx y v u w h1 h2 h3 h4=>(aqG x y v u w h1 h2 (by have:=adQ h3;omega) (by have:=adQ h4;omega)).mono ?_
 ·have:=aw2 x y;unfold aa1;omega
 ·rintro e w' ⟨r,h5,h6,h7⟩;exact⟨r,h5,h6,aet h7⟩
def aeb (run:List AV->Option (AV × List Prop)):Run:=λ_ avs _=>match run avs with
 |some (av,ps)=>some { val:=some av,ps:=ps }
 |none=>none
def ayG:Run:=aeb λavs=>match avs with
 |[u,v]=>match asQ u,asQ v with
  |some (x,s,p),some (y,t,q)=>some (.s false [.v (.int .i64 (abg x y))],[p,q,s<=50000/\t<=50000])
  |_,_=>none
 |_=>none
theorem akT {G:Nat->GV} {F:Nat->Prop} {w:World} {k:IntKind} {n:Int} : AV.ok (GOk G F w) (.s false [.v (.int k n)]) (.int k n):=aaG (GOk.of (.v _ rfl))
theorem akf (D:Prop) (B:Nat):aai Tryz.prog D B 47 ayG:=by
 refine aa6 (by kernel_rfl) λavs spec ps hr hp G F w vs hvs=> ?_;split at hr
 ·rename_i u v;split at hr
  ·rename_i x s p y t q hx hy;cases hr;obtain⟨h1,h2,h3,_⟩:=hp;match vs,hvs with
   |[a,b],hvs=>
    obtain⟨k1,k2⟩:=apS ((adn hx h1).h _ _ _ _ (hvs.2 0 _ a rfl rfl));obtain⟨k3,k4⟩:=apS ((adn hy h2).h _ _ _ _ (hvs.2 1 _ b rfl rfl));refine (arD x y a b w k1 k3 (show acr x<=400000 by have:=adQ k2;omega) (show acr y<=400000 by have:=adQ k4;omega)).mono ?_;rintro e w' ⟨rfl,h5⟩;exact⟨_,rfl,λF'=>akT,acV h5⟩
   |[],hvs=>cases hvs.1
   |[_],hvs=>cases hvs.1
   |_::_::_::_,hvs=>cases hvs.1
  ·cases hr
 ·cases hr
def ata:Run:=aeb λavs=>match avs with
 |[u]=>match asQ u with
  |some (x,s,p)=>some (.s false [.v (.int .i64 (abT x.num))],[p,s<=50000])
  |_=>none
 |_=>none
theorem ak8 (D:Prop) (B:Nat):aai Tryz.prog D B 42 ata:=by
 refine aa6 (by kernel_rfl) λavs spec ps hr hp G F w vs hvs=> ?_;split at hr
 ·rename_i u;split at hr
  ·rename_i x s p hx;cases hr;obtain⟨h1,h3,_⟩:=hp;match vs,hvs with
   |[a],hvs=>
    obtain⟨k1,k2⟩:=apS ((adn hx h1).h _ _ _ _ (hvs.2 0 _ a rfl rfl));refine (apx x a w k1 (by unfold rl at k2;omega)).mono ?_;rintro e w' ⟨rfl,h5⟩;exact⟨_,rfl,λF'=>akT,acV h5⟩
   |[],hvs=>cases hvs.1
   |_::_::_,hvs=>cases hvs.1
  ·cases hr
 ·cases hr
def azd:Run:=aeb λavs=>match avs with
 |[u]=>match asQ u with
  |some (x,s,p)=>some (.s true (qC (-x) s),[p,s<=50000])
  |_=>none
 |_=>none
theorem an8 (D:Prop) (B:Nat):aai Tryz.prog D B 63 azd:=by
 refine aa6 (by kernel_rfl) λavs spec ps hr hp G F w vs hvs=> ?_;split at hr
 ·rename_i u;split at hr
  ·rename_i x s p hx;cases hr;obtain⟨h1,h3,_⟩:=hp;match vs,hvs with
   |[a],hvs=>
    obtain⟨k1,k2⟩:=apS ((adn hx h1).h _ _ _ _ (hvs.2 0 _ a rfl rfl));refine (alR x a w k1 (by unfold rl at k2;omega)).mono ?_;rintro e w' ⟨r,rfl,h4,h5⟩;exact⟨_,rfl,λF'=>avY h4 (by rw[ar9];exact k2),acV h5⟩
   |[],hvs=>cases hvs.1
   |_::_::_,hvs=>cases hvs.1
  ·cases hr
 ·cases hr
def aAt:Run:=aeb λavs=>match avs with
 |[u,v]=>match asQ u,asQ v with
  |some (x,s,p),some (y,t,q)=>some (.tup [(true,qC (x/y) (acq s t)),(false,[.v (.int .i64 0)])],[p,q,s<=50000/\t<=50000,y≠0])
  |_,_=>none
 |_=>none
theorem ajH {ok:aaa->Value->Prop} {p q:Bool × List aaa} {u v:Value} (h1:SOk ok p.1 p.2 u) (h2:SOk ok q.1 q.2 v):AV.ok ok (.tup [p,q]) (.tuple #[u,v]):=
 ⟨[u,v],rfl,rfl,λi c x h3 h4=>by
  match i,h3,h4 with
  |0,h3,h4=>cases h3;cases h4;exact h1
  |1,h3,h4=>cases h3;cases h4;exact h2⟩
theorem avu (B:Nat):aai Tryz.prog False B 93 aAt:=by
 refine aa6 (by kernel_rfl) λavs spec ps hr hp G F w vs hvs=> ?_;split at hr
 ·rename_i u v;split at hr
  ·rename_i x s p y t q hx hy;cases hr;obtain⟨h1,h2,h3,h4,_⟩:=hp;match vs,hvs with
   |[a,b],hvs=>
    obtain⟨k1,k2⟩:=apS ((adn hx h1).h _ _ _ _ (hvs.2 0 _ a rfl rfl));obtain⟨k3,k4⟩:=apS ((adn hy h2).h _ _ _ _ (hvs.2 1 _ b rfl rfl));refine (arC x y a b w k1 k3 (by have:=adQ k2;omega) (by have:=adQ k4;omega) h4).mono ?_;rintro e w' ⟨r,rfl,h5,h6⟩;exact⟨_,rfl,λF'=>ajH (avY h5 (by have:=aw4 x y h4;unfold acq;omega)) akT,aet h6⟩
   |[],hvs=>cases hvs.1
   |[_],hvs=>cases hvs.1
   |_::_::_::_,hvs=>cases hvs.1
  ·cases hr
 ·cases hr
def abB (n:Int):Prop:= -9223372036854775808<=n/\n<=9223372036854775807
theorem aga {n:Int} (h:abB n):(limbs n.natAbs).length<=2:=by
 have h2:n.natAbs<=9223372036854775808:=by have:=h.1;have:=h.2;omega
 have h3:=limbs_mono h2;have h4:(limbs 9223372036854775808).length=2:=by
  unfold limbs;rw[dif_neg (by decide)];unfold limbs;rw[dif_neg (by decide)];unfold limbs;rw[dif_pos (by decide)];rfl
 omega
def ayx:Run:=aeb λavs=>match avs with
 |[.s false [.v (.int .i64 n)]]=>some (.s true (zC n 2),[abB n])
 |_=>none
theorem ajC (D:Prop) (B:Nat):aai Tryz.prog D B 58 ayx:=by
 refine aa6 (by kernel_rfl) λavs spec ps hr hp G F w vs hvs=> ?_;split at hr
 ·rename_i n;cases hr;obtain⟨h1,_⟩:=hp;match vs,hvs with
  |[a],hvs=>
   have e:=(abm (aal (hvs.2 0 _ a rfl rfl))).1;subst e;refine (adr n w h1.1 h1.2).mono ?_;rintro e w' ⟨r,rfl,h4,h5⟩;exact⟨_,rfl,λF'=>aAc h4 (aga h1),acV h5⟩
  |[],hvs=>cases hvs.1
  |_::_::_,hvs=>cases hvs.1
 ·cases hr
def anb:Run:=aeb λavs=>match avs with
 |[u]=>match asZ u with
  |some (x,s,p)=>some (.s true (qC x (s+1)),[p])
  |_=>none
 |_=>none
theorem ai3:(limbs 1).length=1:=by
 unfold limbs;rw[dif_neg (by decide)];unfold limbs;rw[dif_pos (by decide)];rfl
theorem aqL {x:Int} {s:Nat} (h:(limbs x.natAbs).length<=s):rl (x:Rat)<=s+1:=by
 unfold rl;rw[Rat.num_intCast,Rat.den_intCast,ai3];omega
theorem aiB (D:Prop) (B:Nat):aai Tryz.prog D B 94 anb:=by
 refine aa6 (by kernel_rfl) λavs spec ps hr hp G F w vs hvs=> ?_;split at hr
 ·rename_i u;split at hr
  ·rename_i x s p hx;cases hr;obtain⟨h1,_⟩:=hp;match vs,hvs with
   |[a],hvs=>
    obtain⟨k1,k2⟩:=ayL ((anN hx h1).h _ _ _ _ (hvs.2 0 _ a rfl rfl));refine (aoJ x a w k1).mono ?_;rintro e w' ⟨r,rfl,h4,h5⟩;exact⟨_,rfl,λF'=>avY h4 (aqL k2),acV h5⟩
   |[],hvs=>cases hvs.1
   |_::_::_,hvs=>cases hvs.1
  ·cases hr
 ·cases hr
end Go.Proofs.YtcmplpkmfbhpdaaGreat
namespace Go.Proofs.YtcmplpkmfbhpdaaGreat
open Go Go.RowKit
inductive Pv where
 |q (l:List (Rat × Nat))
 |i (z:Int)
 |o (av:AV)
def qsC:List (Rat × Nat)->List aaa
 |[]=>[]
 |(x,s)::l=> .q x s 0 :: .q x s 1 :: .q x s 2 :: .q x s 3::qsC l
def apX:List aaa->Option (List (Rat × Nat))
 |[]=>some []
 | .q x s _ :: .q _ _ _ :: .q _ _ _ :: .q _ _ _::l=>match apX l with
  |some xs=>some ((x,s)::xs)
  |none=>none
 | .v (.slice none 0 0) :: .f :: .v (.slice none 0 0) :: .f::l=>match apX l with
  |some xs=>some ((0,1)::xs)
  |none=>none
 |_=>none
def Pv.av:Pv->AV
 | .q l=> .s true (qsC l)
 | .i z=> .s false [.v (.int .i64 z)]
 | .o av=>av
def ait (av:AV):Pv × List Prop:=
 match av with
 | .s true l=>match apX l with
  |some xs=>(.q xs,[aan l (qsC xs)])
  |none=>(.o av,[])
 | .s false [.v (.int .i64 z)]=>(.i z,[])
 |_=>(.o av,[])
def adS:List AV->List Pv × List Prop
 |[]=>([],[])
 |av::l=>match ait av,adS l with
  |(p,q),(ps,qs)=>(p::ps,q++qs)
theorem ao7 {av:AV} (h:aca (ait av).2):aac av (ait av).1.av:=by
 unfold ait at h ⊢;split
 ·split
  ·rename_i l xs hx;simp only[hx] at h;exact aac.s h.1
  ·exact aac.refl _
 ·exact aac.refl _
 ·exact aac.refl _
theorem af6:∀ {l:List AV},aca (adS l).2->(adS l).1.length=l.length/\∀ (i:Nat) (av:AV) (p:Pv),l[i]? =some av->(adS l).1[i]? =some p->aac av p.av
 |[],_=>⟨rfl,λi av p h=>by simp at h⟩
 |av::l,h=>by
  obtain⟨h1,h2⟩:=ac8 (show aca ((ait av).2++(adS l).2) from h);obtain⟨h3,h4⟩:=af6 h2;refine⟨by show (adS l).1.length+1=_;simp[h3],λi a p h5 h6=> ?_⟩;match i,h5,h6 with
  |0,h5,h6=>cases h5;cases h6;exact ao7 h1
  |i+1,h5,h6=>exact h4 i a p (by simpa using h5) h6
abbrev abF:=List Pv->Option (AV × List Prop)
def aaF (S:abF):Run:=aeb λavs=>match adS avs with
 |(pvs,pps)=>match S pvs with
  |some (av,ps)=>some (av,pps++ps)
  |none=>none
theorem aj9 {P:Program} {D:Prop} {Γ : FuncId->Option Run} {f:FuncId} {fn:Func} {c:Code} {S:abF} (inv:List Pv->List (Nat × abW)) (hΓ : ∀ B f run,Γ f=some run->aai P D B f run) (hx:P.follows .mixedOrders=true) (hf:P.funcs[f]? =some fn) (hb:fn.body=some c) (hc:abQ P f=true)
  (H:∀ (pvs:List Pv) (av:AV) (ps:List Prop),S pvs=some (av,ps)->aca ps->pvs.length<=fn.ntmps/\vc P Γ fn.ntmps (inv pvs) c ⟨aao (pvs.map Pv.av) 0,[]⟩ (aaH P fn.results.toList av)) (B:Nat):aai P D B f (aaF S):=by
 refine aeM hΓ hx hf hb hc (λb avs t e hr hp=> ?_) B;unfold aaF aeb at hr;simp only at hr;split at hr
 ·rename_i av ps hS;cases hr;split at hS
  ·rename_i av' ps' hS';cases hS;obtain⟨h1,h2⟩:=ac8 hp;obtain⟨h3,h4⟩:=af6 h1;obtain⟨k2,k3⟩:=H _ _ _ hS' h2;refine⟨rfl,_,(adS avs).1.map Pv.av,_,rfl,⟨by rw[List.length_map,h3],λi a v h5 h6=> ?_⟩,by rw[List.length_map];exact k2,k3⟩;rw[List.getElem?_map] at h6;cases hq:(adS avs).1[i]? with
   |none=>rw[hq] at h6;cases h6
   |some p=>
    rw[hq] at h6;cases h6;exact h4 i a p h5 hq
  ·cases hS
 ·cases hr
theorem aau {P:Program} {D:Prop} : ∀ {l:List (Nat × Run)},(∀ p∈l,∀ B,aai P D B p.1 p.2)->∀ B f run,lk l f=some run->aai P D B f run
 |[],_,B,f,run,h=>by cases h
 |(f',r)::l,hl,B,f,run,h=>by
  simp only[lk] at h;split at h
  ·rename_i e;cases h;rw[<- aaq e];exact hl _ List.mem_cons_self B
  ·exact aau (λp hp=>hl p (List.mem_cons_of_mem _ hp)) B f run h
end Go.Proofs.YtcmplpkmfbhpdaaGreat
namespace Go.Proofs.YtcmplpkmfbhpdaaGreat
open Go Go.RowKit
def gA:List (Nat × Run):=[(19,aAl),(17,aAx),(18,aAe),(47,ayG),(42,ata),(63,azd),(93,aAt),(58,ayx),(94,anb)]
theorem atD:∀ p∈gA,∀ B,aai Tryz.prog False B p.1 p.2:=by
 intro p hp B;simp only[gA,List.mem_cons,List.not_mem_nil,or_false] at hp;rcases hp with rfl | rfl | rfl | rfl | rfl | rfl | rfl | rfl | rfl
 ·exact auK B
 ·exact avG B
 ·exact at6 B
 ·exact akf False B
 ·exact ak8 False B
 ·exact an8 False B
 ·exact avu B
 ·exact ajC False B
 ·exact aiB False B
theorem aad {P:Program} {D:Prop} {l:List (Nat × Run)} {f:Nat} {r:Run} (h:∀ B,aai P D B f r) (hl:∀ p∈l,∀ B,aai P D B p.1 p.2):∀ p∈((f,r)::l),∀ B,aai P D B p.1 p.2:=by
 intro p hp B;rcases List.mem_cons.1 hp with rfl | hp
 ·exact h B
 ·exact hl p hp B
def atw:abF
 |[.q [(x1,s1),(y1,t1)],.q [(x2,s2),(y2,t2)]]=>some (.s true (qsC [(x1-x2,aa1 s1 s2),(y1-y2,aa1 t1 t2)]),[s1<=50000/\s2<=50000/\t1<=50000/\t2<=50000])
 |_=>none
theorem au0 (x1 y1 x2 y2:Rat) (s1 t1 s2 t2:Nat):vc Tryz.prog (lk gA) Tryz.f90.ntmps ([]) (Tryz.f90.body.getD .skip) ⟨aao (([.q [(x1,s1),(y1,t1)],.q [(x2,s2),(y2,t2)]]:List Pv).map Pv.av) 0,[]⟩ (aaH Tryz.prog Tryz.f90.results.toList (.s true (qsC [(x1-x2,aa1 s1 s2),(y1-y2,aa1 t1 t2)])))=(aan (qsC [(x1,s1)]) (qsC [(x1,s1)])/\aan (qsC [(x2,s2)]) (qsC [(x2,s2)])/\(s1<=50000/\s2<=50000)/\aan (qsC [(y1,t1)]) (qsC [(y1,t1)])/\aan (qsC [(y2,t2)]) (qsC [(y2,t2)])/\(t1<=50000/\t2<=50000)/\aac (AV.s true (qsC [(x1-x2,aa1 s1 s2),(y1-y2,aa1 t1 t2)])) (AV.s true (qsC [(x1-x2,aa1 s1 s2),(y1-y2,aa1 t1 t2)]))):=by kernel_rfl
theorem au1 (B:Nat):aai Tryz.prog False B 90 (aaF atw):=by
 refine aj9 (c:=Tryz.f90.body.getD .skip) (λ_=>[]) (aau (atD)) (by kernel_rfl) Tryz.func90 (by kernel_rfl) (by kernel_rfl) ?_ B;intro pvs av ps h hp;unfold atw at h;split at h
 ·rename_i x1 s1 y1 t1 x2 s2 y2 t2;cases h;refine⟨by rw[Tryz.ntmps90];simp,?_⟩;rw[au0 x1 y1 x2 y2 s1 t1 s2 t2];simp only[aca,and_true] at hp;simp only[aaZ,aaP,true_and,and_true];(try simp only[acq,aa1])
  omega
 ·cases h
def gB:List (Nat × Run):=(90,aaF atw)::gA
theorem atC:∀ p∈gB,∀ B,aai Tryz.prog False B p.1 p.2:=aad au1 atD
def atb:abF
 |[.q [(x1,s1),(y1,t1)],.q [(x2,s2),(y2,t2)],.q [(x3,s3),(y3,t3)]]=>some (.s false [.v (.int .i64 (abg ((x2-x1)*(y3-y1)) ((y2-y1)*(x3-x1))))],[s1<=10000/\t1<=10000/\s2<=10000/\t2<=10000/\s3<=10000/\t3<=10000])
 |_=>none
theorem at7 (x1 y1 x2 y2 x3 y3:Rat) (s1 t1 s2 t2 s3 t3:Nat):vc Tryz.prog (lk gB) Tryz.f38.ntmps ([]) (Tryz.f38.body.getD .skip) ⟨aao (([.q [(x1,s1),(y1,t1)],.q [(x2,s2),(y2,t2)],.q [(x3,s3),(y3,t3)]]:List Pv).map Pv.av) 0,[]⟩ (aaH Tryz.prog Tryz.f38.results.toList (.s false [.v (.int .i64 (abg ((x2-x1)*(y3-y1)) ((y2-y1)*(x3-x1))))]))=(let p0:=λ(Z:Prop)=>aan (qsC [(x1,s1),(y1,t1)]) (qsC [(x1,s1),(y1,t1)])/\Z;aan (qsC [(x2,s2),(y2,t2)]) (qsC [(x2,s2),(y2,t2)])/\p0 ((s2<=50000/\s1<=50000/\t2<=50000/\t1<=50000)/\aan (qsC [(x3,s3),(y3,t3)]) (qsC [(x3,s3),(y3,t3)])/\p0 ((s3<=50000/\s1<=50000/\t3<=50000/\t1<=50000)/\aan (qsC [(x2-x1,aa1 s2 s1)]) (qsC [(x2-x1,aa1 s2 s1)])/\aan (qsC [(y3-y1,aa1 t3 t1)]) (qsC [(y3-y1,aa1 t3 t1)])/\(aa1 s2 s1<=50000/\aa1 t3 t1<=50000)/\aan (qsC [(y2-y1,aa1 t2 t1)]) (qsC [(y2-y1,aa1 t2 t1)])/\aan (qsC [(x3-x1,aa1 s3 s1)]) (qsC [(x3-x1,aa1 s3 s1)])/\(aa1 t2 t1<=50000/\aa1 s3 s1<=50000)/\aan (qsC [((x2-x1)*(y3-y1),acq (aa1 s2 s1) (aa1 t3 t1))]) (qsC [((x2-x1)*(y3-y1),acq (aa1 s2 s1) (aa1 t3 t1))])/\aan (qsC [((y2-y1)*(x3-x1),acq (aa1 t2 t1) (aa1 s3 s1))]) (qsC [((y2-y1)*(x3-x1),acq (aa1 t2 t1) (aa1 s3 s1))])/\(acq (aa1 s2 s1) (aa1 t3 t1)<=50000/\acq (aa1 t2 t1) (aa1 s3 s1)<=50000)/\aac (AV.s false [aaa.v (Value.int IntKind.i64 (abg ((x2-x1)*(y3-y1)) ((y2-y1)*(x3-x1))))]) (AV.s false [aaa.v (Value.int IntKind.i64 (abg ((x2-x1)*(y3-y1)) ((y2-y1)*(x3-x1))))])))):=by kernel_rfl
theorem at8 (B:Nat):aai Tryz.prog False B 38 (aaF atb):=by
 refine aj9 (c:=Tryz.f38.body.getD .skip) (λ_=>[]) (aau (atC)) (by kernel_rfl) Tryz.func38 (by kernel_rfl) (by kernel_rfl) ?_ B;intro pvs av ps h hp;unfold atb at h;split at h
 ·rename_i x1 s1 y1 t1 x2 s2 y2 t2 x3 s3 y3 t3;cases h;refine⟨by rw[Tryz.ntmps38];simp,?_⟩;rw[at7 x1 y1 x2 y2 x3 y3 s1 t1 s2 t2 s3 t3];simp only[aca,and_true] at hp;simp only[aaZ,aaP,true_and,and_true];(try simp only[acq,aa1])
  omega
 ·cases h
def atS:abF
 |[.q [(x1,s1),(y1,t1),(x2,s2),(y2,t2)],.q [(k,sk)]]=>some (.s true (qsC [(x1+(x2-x1)*k,aa1 s1 (acq (aa1 s2 s1) sk)),(y1+(y2-y1)*k,aa1 t1 (acq (aa1 t2 t1) sk))]),[s1<=10000/\t1<=10000/\s2<=10000/\t2<=10000/\sk<=25000])
 |_=>none
theorem az5 (x1 y1 x2 y2 k:Rat) (s1 t1 s2 t2 sk:Nat):vc Tryz.prog (lk gB) Tryz.f95.ntmps ([]) (Tryz.f95.body.getD .skip) ⟨aao (([.q [(x1,s1),(y1,t1),(x2,s2),(y2,t2)],.q [(k,sk)]]:List Pv).map Pv.av) 0,[]⟩ (aaH Tryz.prog Tryz.f95.results.toList (.s true (qsC [(x1+(x2-x1)*k,aa1 s1 (acq (aa1 s2 s1) sk)),(y1+(y2-y1)*k,aa1 t1 (acq (aa1 t2 t1) sk))])))=(aan (qsC [(x2,s2),(y2,t2)]) (qsC [(x2,s2),(y2,t2)])/\aan (qsC [(x1,s1),(y1,t1)]) (qsC [(x1,s1),(y1,t1)])/\(s2<=50000/\s1<=50000/\t2<=50000/\t1<=50000)/\aan (qsC [(x2-x1,aa1 s2 s1)]) (qsC [(x2-x1,aa1 s2 s1)])/\aan (qsC [(k,sk)]) (qsC [(k,sk)])/\(aa1 s2 s1<=50000/\sk<=50000)/\aan (qsC [(x1,s1)]) (qsC [(x1,s1)])/\aan (qsC [((x2-x1)*k,acq (aa1 s2 s1) sk)]) (qsC [((x2-x1)*k,acq (aa1 s2 s1) sk)])/\(s1<=50000/\acq (aa1 s2 s1) sk<=50000)/\aan (qsC [(y2-y1,aa1 t2 t1)]) (qsC [(y2-y1,aa1 t2 t1)])/\aan (qsC [(k,sk)]) (qsC [(k,sk)])/\(aa1 t2 t1<=50000/\sk<=50000)/\aan (qsC [(y1,t1)]) (qsC [(y1,t1)])/\aan (qsC [((y2-y1)*k,acq (aa1 t2 t1) sk)]) (qsC [((y2-y1)*k,acq (aa1 t2 t1) sk)])/\(t1<=50000/\acq (aa1 t2 t1) sk<=50000)/\aac (AV.s true (qsC [(x1+(x2-x1)*k,aa1 s1 (acq (aa1 s2 s1) sk)),(y1+(y2-y1)*k,aa1 t1 (acq (aa1 t2 t1) sk))])) (AV.s true (qsC [(x1+(x2-x1)*k,aa1 s1 (acq (aa1 s2 s1) sk)),(y1+(y2-y1)*k,aa1 t1 (acq (aa1 t2 t1) sk))]))):=by kernel_rfl
theorem az6 (B:Nat):aai Tryz.prog False B 95 (aaF atS):=by
 refine aj9 (c:=Tryz.f95.body.getD .skip) (λ_=>[]) (aau (atC)) (by kernel_rfl) Tryz.func95 (by kernel_rfl) (by kernel_rfl) ?_ B;intro pvs av ps h hp;unfold atS at h;split at h
 ·rename_i x1 s1 y1 t1 x2 s2 y2 t2 k sk;cases h;refine⟨by rw[Tryz.ntmps95];simp,?_⟩;rw[az5 x1 y1 x2 y2 k s1 t1 s2 t2 sk];simp only[aca,and_true] at hp;simp only[aaZ,aaP,true_and,and_true];(try simp only[acq,aa1])
  omega
 ·cases h
end Go.Proofs.YtcmplpkmfbhpdaaGreat
namespace Go.Proofs.YtcmplpkmfbhpdaaGreat
open Go Go.RowKit
def aaa.flat:aaa->Bool
 | .v _ | .t | .f | .q .. | .z .. =>true
 |_=>false
def awH:AV->Bool
 | .s _ l=>l.all aaa.flat
 | .tup l=>l.all λp=>p.2.all aaa.flat
def ae3 (b:Nat->Option aae) (c:aaa):aaa:=
 match c with
 | .hd k=>match b k with
  |some (.row _ sz n e)=> .row sz n e
  |_=>c
 | .pt k sz a n=>match b k with
  |some (.row _ sz' _ e)=>match Nat.beq sz sz' with
   |true=> .row sz n λi=>e (i+a)
   |false=>c
  |_=>c
 |c=>c
def am1 (b:Nat->Option aae) (c:aaa):aaa:=
 match c with
 | .own k off=>match b k with
  |some (.st _ l)=>match (l.map (ae3 b)).all aaa.cl with
   |true=> .el l.length 1 (λ_=>l.map (ae3 b)) 0 off
   |false=>c
  |_=>c
 |c=>ae3 b c
def aip (b:Nat->Option aae):AV->AV
 | .s a l=> .s a (l.map (am1 b))
 |av=>av
def ain (run:Run):Run:=λb avs t=>match run (λ_=>none) (avs.map (aip b)) t with
 |some e=>match e.set,e.val with
  |[],some av=>match awH av with
   |true=>some { val:=some av,ps:=e.ps }
   |false=>none
  |_,_=>none
 |none=>none
section
variable {B:Nat} {G G':Nat->GV} {F F':Nat->Prop} {w:World}
theorem ahD {c:aaa} {v:Value} (h:GOk G F w c v) (hc:c.flat=true):GOk G' F' w c v:=by
 cases c with
 |v | t | f | q | z=>
  simp only[GOk,abw] at h ⊢;cases h with
  |_=>first | exact .v _ (by assumption) | exact .t | exact .f | exact .q (by assumption) (by assumption) | exact .z (by assumption) (by assumption)
 |_=>cases hc
theorem ary {av:AV} {v:Value} (h:av.ok (GOk G F w) v) (hc:awH av=true):av.ok (GOk G' F' w) v:=by
 cases av with
 |s a l=>exact SOk.mono h λc hm v hv=>ahD hv (List.all_eq_true.1 hc c hm)
 |tup l=>
  obtain⟨vs,h1,h2,h3⟩:=h;exact⟨vs,h1,h2,λi p u hp hu=>(h3 i p u hp hu).mono λc hm v hv=>ahD hv (List.all_eq_true.1 (List.all_eq_true.1 hc p (List.mem_of_getElem? hp)) c hm)⟩
theorem ah0 {b:Nat->Option aae} {a:Act} (V:ad6 B ⟨λ_=>none,b⟩ G F a w) (hF:∀ g,F g->F' g) (hF':∀ k g,b k≠none->(G k).o g->F' g) {av:AV} {v:Value} (h:av.ok (GOk G F w) v):(aip b av).ok (GOk G F' w) v:=by
 have hst:ae9 G F w G F' w (λ_=>False):=⟨λ_ _=>rfl,hF,aaR.refl _,λ_ _=>rfl⟩
 have one1:∀ {c:aaa} {v:Value},GOk G F w c v->GOk G F' w (ae3 b c) v:=by
  intro c v hc;have row:∀ {k:Nat} {T:TypeId} {sz n:Nat} {e:Nat->List aaa},b k=some (.row T sz n e)->COk F' w (.row sz n e) (G k).v:=λ{k T sz n e} hb=>by
   obtain⟨v0,ev,hok⟩:=V.bk k _ hb;rw[ev];exact acZ hok hF (λg hg=>hF' k g (by rw[show b k=_ from hb];simp) (by rw[ev];exact hg))
  unfold ae3;split
  ·rename_i k;split
   ·rename_i T sz n e hb;have hk:v=(G k).v:=(hc:abw G F w (.hd k) v).1;rw[hk];exact GOk.of (row hb)
   ·exact hc.stay hst (λ_ _ hh=>hh)
  ·rename_i k sz a n;split
   ·rename_i T sz' m e hb;split
    ·rename_i e2;have:=aaq e2;subst this;have h3:=ae2 (k:=k) (x:= .row sz m e) (F':=F') hF (λ_=>row hb) (show abw G F w (.pt k sz a n) v from hc);simp only[abv,Nat.beq_refl] at h3;exact GOk.of (show COk F' w (.row sz n λi=>e (i+a)) v from h3)
    ·exact hc.stay hst (λ_ _ hh=>hh)
   ·exact hc.stay hst (λ_ _ hh=>hh)
  ·exact hc.stay hst (λ_ _ hh=>hh)
 have one:∀ {c:aaa} {v:Value},GOk G F w c v->GOk G F' w (am1 b c) v:=by
  intro c v hc;unfold am1;split
  ·rename_i k off;split
   ·rename_i T l hb;split
    ·rename_i hcl;obtain⟨g,e1,rfl⟩:=hc;obtain⟨g',cs,e2,_,_,h2,h3⟩:=V.bk k _ hb;rw[e2] at e1;cases e1;have hfl:∀ (j:Nat) (c:aaa) (u:Value),(l.map (ae3 b))[j]? =some c->cs[j]? =some u->COk F' w c u:=λj c u h4 h5=>by
      have hm:=List.mem_of_getElem? h4;rw[List.getElem?_map] at h4;cases hq:l[j]? with
      |none=>rw[hq] at h4;cases h4
      |some c0=>
       rw[hq] at h4;cases h4;exact COk.of (one1 (h3.2 j c0 u hq h5)) (List.all_eq_true.1 hcl _ hm)
     have hgF:F' g:=hF' k g (by rw[show b k=_ from hb];simp) (by rw[e2];rfl);have:=COk.el (F:=F') (w:=w) (sz:=l.length) (n:=1) (e:=λ_=>l.map (ae3 b)) (g:=g) (o:=0) (k:=0) (off:=off) (λ_ j=>cs.getD j undef) hgF (by omega) (λi _=>by simp) (λi j hi hj=>by
      have:i=0:=by omega
      subst this;rw[show 0+0*l.length+j=j by omega,h2.cell];rw[h3.1] at hj;simp[List.getD,List.getElem?_eq_getElem hj]) (λi j c hi hc=>by
      have hj:j<cs.length:=by rw[<- h3.1];have:=(List.getElem?_eq_some_iff.1 hc).1;simpa using this
      rw[show cs.getD j undef=cs[j] by simp[List.getD,List.getElem?_eq_getElem hj]];exact hfl j c _ hc (List.getElem?_eq_getElem hj))
     rw[show 0+0*l.length+off=off by omega] at this;exact GOk.of this
    ·exact hc.stay hst (λ_ _ hh=>hh)
   ·exact hc.stay hst (λ_ _ hh=>hh)
  ·exact one1 hc
 cases av with
 |tup l=>exact AV.ok.stay h hst (λ_ _ hh=>hh)
 |s ag l=>
  cases ag with
  |true=>
   obtain⟨cs,h1,h2,h3⟩:=h;refine⟨cs,h1,by simpa using h2,λi c u h4 h5=> ?_⟩;rw[List.getElem?_map] at h4;cases hc:l[i]? with
   |none=>rw[hc] at h4;cases h4
   |some c'=>
    rw[hc] at h4;cases h4;exact one (h3 i c' u hc h5)
  |false=>
   obtain⟨c,rfl,h2⟩:=h;exact⟨_,rfl,one h2⟩
end
theorem aek {P:Program} {D:Prop} {f:FuncId} {run:Run} (h:∀ B,aai P D B f run) (B:Nat):aai P D B f (ain run):=by
 refine⟨(h B).1,λb avs t e hr hp G F w vs V hvs=> ?_⟩;unfold ain at hr;split at hr
 ·rename_i e0 he0;split at hr
  ·rename_i av hset hval;split at hr
   ·rename_i hfl;cases hr;have hF':∀ g,(λg=>F g\/∃ k,b k≠none/\(G k).o g) g->g<w.heap.size:=by
     rintro g (hg | ⟨k,h1,h2⟩)
     ·exact V.fl g hg
     ·obtain⟨b',hb'⟩:=Option.ne_none_iff_exists'.1 h1;exact ((V.bk k b' hb').lt g h2).2
    have V':ad6 B ⟨λ_=>none,λ_=>none⟩ G (λg=>F g\/∃ k,b k≠none/\(G k).o g) ⟨#[],[]⟩ w:=
     ⟨V.bs,hF',λk b h=>(by cases h),λk k' h=>absurd rfl h,λk g h=>absurd rfl h,λt av h=>(by cases h)⟩
    have hvs':aed (GOk G (λg=>F g\/∃ k,b k≠none/\(G k).o g) w) (avs.map (aip b)) vs:=by
     refine⟨by simpa using hvs.1,λi a v h1 h2=> ?_⟩;rw[List.getElem?_map] at h1;cases hc:avs[i]? with
     |none=>rw[hc] at h1;cases h1
     |some a'=>
      rw[hc] at h1;cases h1;exact ah0 V (λg hg=> .inl hg) (λk g h3 h4=> .inr ⟨k,h3,h4⟩) (hvs.2 i a' v hc h2)
    refine ((h B).2 _ _ t e0 he0 hp _ _ w vs V' hvs').mono ?_;rintro en w' ⟨v,rfl,G',F'',p⟩;refine⟨v,rfl,G,F,λ_ _=>rfl,λ_ _=>rfl,λ_ h=>h,λ_ h=> .inl h,λg hg=>Nat.lt_of_lt_of_le (V.fl g hg) p.sz,p.os,p.tape,p.out,p.sz,p.dr,p.k,λg hg _=>p.h g hg (λk _ hk=>absurd rfl hk),λav' hav'=> ?_,λk b' hs=>(by cases hs),λk k' b' b2 hs=>by cases hs⟩;cases hav';exact ary (p.v av hval) hfl
   ·cases hr
  ·cases hr
 ·cases hr
theorem aam {P:Program} {D:Prop} {Γ : FuncId->Option Run} {f:FuncId} {fn:Func} {c:Code} {S:abF} (hΓ : ∀ B f run,Γ f=some run->aai P D B f run) (hx:P.follows .mixedOrders=true) (hf:P.funcs[f]? =some fn) (hb:fn.body=some c) (hc:abQ P f=true)
  (H:∀ (pvs:List Pv) (av:AV) (ps:List Prop),S pvs=some (av,ps)->aca ps->∃ (avs:List AV) (inv:List (Nat × abW)),aaj (pvs.map Pv.av) avs/\avs.length<=fn.ntmps/\vc P Γ fn.ntmps inv c ⟨aao avs 0,[]⟩ (aaH P fn.results.toList av)) (B:Nat):aai P D B f (aaF S):=by
 refine aeM hΓ hx hf hb hc (λb avs t e hr hp=> ?_) B;unfold aaF aeb at hr;simp only at hr;split at hr
 ·rename_i av ps hS;cases hr;split at hS
  ·rename_i av' ps' hS';cases hS;obtain⟨h1,h2⟩:=ac8 hp;obtain⟨h3,h4⟩:=af6 h1;obtain⟨avs',inv,k1,k2,k3⟩:=H _ _ _ hS' h2;refine⟨rfl,_,avs',inv,rfl,⟨by rw[k1.1,List.length_map,h3],λi a v h5 h6=> ?_⟩,k2,k3⟩;have hi:i<avs.length:=(List.getElem?_eq_some_iff.1 h5).1;have hip:i<(adS avs).1.length:=by rw[h3];exact hi
   have hq:=List.getElem?_eq_getElem hip;have q1:=h4 i a _ h5 hq;have q2:=k1.2 i _ v (by rw[List.getElem?_map,hq];rfl) h6;exact⟨λG F w v hv=>q2.h G F w v (q1.h G F w v hv)⟩
  ·cases hS
 ·cases hr
def awz (e:Nat->List aaa) (i:Nat):Int:=match e i with
 |[.v (.int .i64 z)]=>z
 |_=>0
def afz (l:List Int):Nat->List aaa:=λi=>[.v (.int .i64 (l.getD i 0))]
def awn (e:Nat->List aaa) (i:Nat):Rat × Nat:=match e i with
 |[.q x s _,_,_,_]=>(x,s)
 |_=>(0,1)
def afb (l:List Rat) (s:Nat):Nat->List aaa:=λi=>qsC [(l.getD i 0,s)]
theorem aaj.cons {a b:AV} {l m:List AV} (h:aac a b) (k:aaj l m):aaj (a::l) (b::m):=
 ⟨by simp[k.1],λi x y h1 h2=>by
  match i,h1,h2 with
  |0,h1,h2=>cases h1;cases h2;exact h
  |i+1,h1,h2=>exact k.2 i x y (by simpa using h1) (by simpa using h2)⟩
theorem aaj.nil:aaj [] []:=⟨rfl,λi x y h=>by simp at h⟩
end Go.Proofs.YtcmplpkmfbhpdaaGreat
namespace Go.Proofs.YtcmplpkmfbhpdaaGreat
open Go Go.RowKit
theorem aac.int {x y:Int} (h:x=y):aac (.s false [.v (.int .i64 x)]) (.s false [.v (.int .i64 y)]):=by subst h;exact aac.refl _
theorem aac.bool {x y:Bool} (h:x=y):aac (.s false [.v (.bool x)]) (.s false [.v (.bool y)]):=by subst h;exact aac.refl _
theorem aac.wrap {i n:Nat} (h:i<n) (hn:n<=1000000000):aac (.s false [.v (.int .i64 (IntKind.i64.wrap ((i:Int)+1)))]) (.s false [.v (.int .i64 ((i+1:Nat):Int))]):=
 aac.int (by rw[IntWalk.i64_in _ (by omega)];omega)
theorem aac.tt {b:Bool} (h:b=true):aac (.s false [.t]) (.s false [.v (.bool b)]):=aac.one (CLe.tv h)
theorem aac.ff {b:Bool} (h:b=false):aac (.s false [.f]) (.s false [.v (.bool b)]):=aac.one (CLe.fv h)
theorem aan.qs {l m:List (Rat × Nat)} (h:l.length=m.length) (k:∀ (i:Nat) p q,l[i]? =some p->m[i]? =some q->p.1=q.1/\p.2<=q.2):aan (qsC l) (qsC m):=by
 induction l generalizing m with
 |nil=>
  cases m with
  |nil=>exact aan.refl _
  |cons b m=>cases h
 |cons a l ih=>
  cases m with
  |nil=>cases h
  |cons b m=>
   obtain⟨h1,h2⟩:=k 0 a b rfl rfl;have:=ih (m:=m) (by simpa using h) (λi p q h3 h4=>k (i+1) p q (by simpa using h3) (by simpa using h4));obtain⟨x,s⟩:=a;obtain⟨y,t⟩:=b;exact aan.cons (CLe.q h1 h2) (aan.cons (CLe.q h1 h2) (aan.cons (CLe.q h1 h2) (aan.cons (CLe.q h1 h2) this)))
theorem ais:∀ l:List (Rat × Nat),(qsC l).all aaa.cl=true
 |[]=>rfl
 |(x,s)::l=>by simp[qsC,aaa.cl,ais l]
theorem aan.q1 {x:Rat} {s t:Nat} (h:s<=t):aan (qsC [(x,s)]) (qsC [(x,t)]):=aan.qs rfl λi p q h1 h2=>by
 match i,h1,h2 with
 |0,h1,h2=>cases h1;cases h2;exact⟨rfl,h⟩
def gO:List (Nat × Run):=[(47,ayG),(42,ata),(63,azd),(58,ayx),(94,anb)]
theorem aio (D:Prop):∀ p∈gO,∀ B,aai Tryz.prog D B p.1 p.2:=by
 intro p hp B;simp only[gO,List.mem_cons,List.not_mem_nil,or_false] at hp;rcases hp with rfl | rfl | rfl | rfl | rfl
 ·exact akf D B
 ·exact ak8 D B
 ·exact an8 D B
 ·exact ajC D B
 ·exact aiB D B
def acw:List Int->Int
 |[]=>0
 |a::l=>if a≠0 then a else acw l
def ajb (l:List Int):abW:=⟨Nat,λi=>i<=l.length/\acw (l.drop i)=acw l,λi=>⟨[(2,.s false [.v (.int .i64 0)]),(5,.s false [.row 1 l.length (afz l)]),(6,.s false [.v (.int .i64 l.length)]),(7,.s false [.v (.int .i64 i)])],[]⟩,λi=>l.length-i,[],[],none⟩
theorem arz (l:List Int):vc Tryz.prog (lk gO) Tryz.f65.ntmps [(2,ajb l)] (Tryz.f65.body.getD .skip) ⟨aao [.s false [.row 1 l.length (afz l)]] 0,[]⟩ (aaH Tryz.prog Tryz.f65.results.toList (.s false [.v (.int .i64 (acw l))]))=(let p0:=λ(Z:Prop)=>SmA (AV.s false [aaa.v (Value.int IntKind.i64 (0:Int))])/\SmA (AV.s false [aaa.row 1 l.length λ(a:Nat)=>[aaa.v (Value.int IntKind.i64 (List.getD l a (0:Int)))]])/\SmA (AV.s false [aaa.v (Value.int IntKind.i64 (↑l.length:Int))])/\Z;let p1:=λ(i:Nat)=>i<=l.length/\acw (List.drop i l)=acw l;(Exists λ(i:Nat)=>((p1 i))/\(p0 (aac (AV.s false [aaa.v (Value.int IntKind.i64 (0:Int))]) (AV.s false [aaa.v (Value.int IntKind.i64 (↑i:Int))])/\True))/\True)/\∀ (i:Nat),(p1 i)->(decide ((↑i:Int)<(↑l.length:Int))=true->((0:Int)<=(↑i:Int)/\(↑i:Int)<(↑l.length:Int))/\((List.getD l (↑i:Int).toNat (0:Int) != (0:Int))=true->aac (AV.s false [aaa.v (Value.int IntKind.i64 (List.getD l (↑i:Int).toNat (0:Int)))]) (AV.s false [aaa.v (Value.int IntKind.i64 (acw l))]))/\((List.getD l (↑i:Int).toNat (0:Int) != (0:Int))=false->Exists λ(i':Nat)=>(i'<=l.length/\acw (List.drop i' l)=acw l)/\l.length-i'<l.length-i/\(p0 (aac (AV.s false [aaa.v (Value.int IntKind.i64 (IntKind.wrap IntKind.i64 ((↑i:Int)+(1:Int))))]) (AV.s false [aaa.v (Value.int IntKind.i64 (↑i':Int))])/\True))/\True))/\(decide ((↑i:Int)<(↑l.length:Int))=false->aac (AV.s false [aaa.v (Value.int IntKind.i64 (0:Int))]) (AV.s false [aaa.v (Value.int IntKind.i64 (acw l))]))):=by kernel_rfl
def acU (n:Nat) (e:Nat->List aaa):List Int:=(List.range n).map (awz e)
def anD:abF
 |[.o (.s false [.row 1 n e])]=>some (.s false [.v (.int .i64 (acw (acU n e)))],[aac (.s false [.row 1 n e]) (.s false [.row 1 (acU n e).length (afz (acU n e))]),n<=1000000])
 |_=>none
theorem arA (D:Prop) (B:Nat):aai Tryz.prog D B 65 (aaF anD):=by
 refine aam (c:=Tryz.f65.body.getD .skip) (aau (aio D)) (by kernel_rfl) Tryz.func65 (by kernel_rfl) (by kernel_rfl) ?_ B;intro pvs av ps h hp;unfold anD at h;split at h
 ·rename_i n e;cases h;obtain⟨hp1,hp2,-⟩:=hp;refine⟨[.s false [.row 1 (acU n e).length (afz (acU n e))]],[(2,ajb (acU n e))],aaj.cons hp1 aaj.nil,by rw[Tryz.ntmps65];simp,?_⟩;rw[arz];simp only[SmA,aaP,true_and,and_true];have hlen:(acU n e).length<=1000000:=by simpa[acU] using hp2
  generalize acU n e=l at *;refine⟨⟨0,⟨Nat.zero_le _,rfl⟩,aac.refl _⟩,λi ⟨h1,h2⟩=>⟨λhb=> ?_,λhb=> ?_⟩⟩
  ·have hi:i<l.length:=by simpa using hb
   have hd:l.drop i=l.getD i 0::l.drop (i+1):=by
    rw[List.drop_eq_getElem_cons hi];simp[List.getD,hi]
   rw[hd] at h2;simp only[acw] at h2;refine⟨by omega,λhn=> ?_,λhn=>⟨i+1,⟨hi,?_⟩,?_,aac.wrap hi (by omega)⟩⟩
   ·simp only[Int.toNat_natCast,bne_iff_ne] at hn;rw[if_pos hn] at h2;exact aac.int h2
   ·simp only[Int.toNat_natCast,bne_eq_false_iff_eq] at hn;rw[if_neg (by simpa using hn)] at h2;exact h2
   ·show l.length-(i+1)<l.length-i;omega
  ·have hi:l.length<=i:=by simpa using hb
   rw[List.drop_eq_nil_of_le hi] at h2;exact aac.int h2
 ·cases h
def aaW (x1 y1 x2 y2:Rat):Int:=if abg x1 x2≠0 then abg x1 x2 else abg y1 y2
def gP:List (Nat × Run):=(65,ain (aaF anD))::gO
theorem azV (D:Prop):∀ p∈gP,∀ B,aai Tryz.prog D B p.1 p.2:=aad (aek (arA D)) (aio D)
theorem auu (x1 y1 x2 y2:Rat) (s1 t1 s2 t2:Nat):vc Tryz.prog (lk gP) Tryz.f22.ntmps [] (Tryz.f22.body.getD .skip) ⟨aao [.s true (qsC [(x1,s1),(y1,t1)]),.s true (qsC [(x2,s2),(y2,t2)])] 0,[]⟩ (aaH Tryz.prog Tryz.f22.results.toList (.s false [.v (.int .i64 (aaW x1 y1 x2 y2))]))=(SmC (qsC [(x1,s1)])/\SmC (qsC [(x2,s2)])/\(s1<=50000/\s2<=50000)/\SmC (qsC [(y1,t1)])/\SmC (qsC [(y2,t2)])/\(t1<=50000/\t2<=50000)/\aac (AV.s false [aaa.row 1 2 λ(i:Nat)=>List.getD [[aaa.v (Value.int IntKind.i64 (abg x1 x2))],[aaa.v (Value.int IntKind.i64 (abg y1 y2))]] i []]) (AV.s false [aaa.row 1 2 λ(a:Nat)=>[aaa.v (Value.int IntKind.i64 (List.getD [abg x1 x2,abg y1 y2] a (0:Int)))]])/\2<=1000000/\aac (AV.s false [aaa.v (Value.int IntKind.i64 (acw [abg x1 x2,abg y1 y2]))]) (AV.s false [aaa.v (Value.int IntKind.i64 (aaW x1 y1 x2 y2))])):=by kernel_rfl
def ama:abF
 |[.q [(x1,s1),(y1,t1)],.q [(x2,s2),(y2,t2)]]=>some (.s false [.v (.int .i64 (aaW x1 y1 x2 y2))],[s1<=50000/\s2<=50000/\t1<=50000/\t2<=50000])
 |_=>none
theorem aac.ints (l:List Int):aac (.s false [.row 1 l.length λi=>(l.map λz=>[aaa.v (.int .i64 z)]).getD i []]) (.s false [.row 1 l.length (afz l)]):=by
 refine aac.one (CLe.row rfl (λi hi=> ?_) (λi hi=>⟨?_,rfl⟩))
 ·simp only[List.getD,List.getElem?_map,afz,List.getElem?_eq_getElem hi,Option.map_some,Option.getD_some];exact aan.refl _
 ·simp[List.getD,List.getElem?_map,List.getElem?_eq_getElem hi,aaa.cl]
theorem aac.rats {l:List (Rat × Nat)} {S:Nat} (h:∀ p∈l,p.2<=S):aac (.s false [.row 4 l.length λi=>(l.map λp=>qsC [p]).getD i []]) (.s false [.row 4 l.length (afb (l.map (·.1)) S)]):=by
 refine aac.one (CLe.row rfl (λi hi=> ?_) (λi hi=>⟨?_,ais _⟩))
 ·simp only[List.getD,List.getElem?_map,afb,List.getElem?_eq_getElem hi,Option.map_some,Option.getD_some];exact aan.q1 (h _ (List.getElem_mem hi))
 ·simp only[List.getD,List.getElem?_map,List.getElem?_eq_getElem hi,Option.map_some,Option.getD_some];exact ais _
theorem afL (D:Prop) (B:Nat):aai Tryz.prog D B 22 (aaF ama):=by
 refine aam (c:=Tryz.f22.body.getD .skip) (aau (azV D)) (by kernel_rfl) Tryz.func22 (by kernel_rfl) (by kernel_rfl) ?_ B;intro pvs av ps h hp;unfold ama at h;split at h
 ·rename_i x1 s1 y1 t1 x2 s2 y2 t2;cases h;refine⟨[.s true (qsC [(x1,s1),(y1,t1)]),.s true (qsC [(x2,s2),(y2,t2)])],[],aaj.refl _,by rw[Tryz.ntmps22];simp,?_⟩;rw[auu];simp only[aca,and_true] at hp;simp only[SmC,aaZ,true_and];refine⟨by omega,by omega,aac.ints [abg x1 x2,abg y1 y2],by omega,aac.int ?_⟩;simp only[acw,aaW];split
  ·rfl
  ·split
   ·rfl
   ·rename_i h;simp at h;rw[h]
 ·cases h
def gQ:List (Nat × Run):=(22,aaF ama)::gO
theorem atB (D:Prop):∀ p∈gQ,∀ B,aai Tryz.prog D B p.1 p.2:=aad (afL D) (aio D)
def ac9 (x1 y1 x2 y2 a b:Rat):Rat:=if 0<aaW x1 y1 x2 y2 then b else a
theorem aoW (x1 y1 x2 y2:Rat) (s1 t1 s2 t2:Nat):vc Tryz.prog (lk gQ) Tryz.f122.ntmps [] (Tryz.f122.body.getD .skip) ⟨aao [.s true (qsC [(x1,s1),(y1,t1),(x2,s2),(y2,t2)])] 0,[]⟩ (aaH Tryz.prog Tryz.f122.results.toList (.s true (qsC [(ac9 x1 y1 x2 y2 x1 x2,max s1 s2),(ac9 x1 y1 x2 y2 y1 y2,max t1 t2),(ac9 x1 y1 x2 y2 x2 x1,max s1 s2),(ac9 x1 y1 x2 y2 y2 y1,max t1 t2)])))=(SmC (qsC [(x1,s1),(y1,t1)])/\SmC (qsC [(x2,s2),(y2,t2)])/\(s1<=50000/\s2<=50000/\t1<=50000/\t2<=50000)/\(decide (aaW x1 y1 x2 y2>(0:Int))=true->aac (AV.s true (qsC [(x2,s2),(y2,t2),(x1,s1),(y1,t1)])) (AV.s true (qsC [(ac9 x1 y1 x2 y2 x1 x2,max s1 s2),(ac9 x1 y1 x2 y2 y1 y2,max t1 t2),(ac9 x1 y1 x2 y2 x2 x1,max s1 s2),(ac9 x1 y1 x2 y2 y2 y1,max t1 t2)])))/\(decide (aaW x1 y1 x2 y2>(0:Int))=false->aac (AV.s true (qsC [(x1,s1),(y1,t1),(x2,s2),(y2,t2)])) (AV.s true (qsC [(ac9 x1 y1 x2 y2 x1 x2,max s1 s2),(ac9 x1 y1 x2 y2 y1 y2,max t1 t2),(ac9 x1 y1 x2 y2 x2 x1,max s1 s2),(ac9 x1 y1 x2 y2 y2 y1,max t1 t2)])))):=by kernel_rfl
theorem aan.q4 {x1 x2 x3 x4 y1 y2 y3 y4:Rat} {s1 s2 s3 s4 t1 t2 t3 t4:Nat} (h:(x1=y1/\s1<=t1)/\(x2=y2/\s2<=t2)/\(x3=y3/\s3<=t3)/\(x4=y4/\s4<=t4)):aan (qsC [(x1,s1),(x2,s2),(x3,s3),(x4,s4)]) (qsC [(y1,t1),(y2,t2),(y3,t3),(y4,t4)]):=aan.qs rfl λi p q h1 h2=>by
 match i,h1,h2 with
 |0,h1,h2=>cases h1;cases h2;exact h.1
 |1,h1,h2=>cases h1;cases h2;exact h.2.1
 |2,h1,h2=>cases h1;cases h2;exact h.2.2.1
 |3,h1,h2=>cases h1;cases h2;exact h.2.2.2
theorem aan.q2 {x1 x2 y1 y2:Rat} {s1 s2 t1 t2:Nat} (h:(x1=y1/\s1<=t1)/\(x2=y2/\s2<=t2)):aan (qsC [(x1,s1),(x2,s2)]) (qsC [(y1,t1),(y2,t2)]):=aan.qs rfl λi p q h1 h2=>by
 match i,h1,h2 with
 |0,h1,h2=>cases h1;cases h2;exact h.1
 |1,h1,h2=>cases h1;cases h2;exact h.2
def ajQ:abF
 |[.q [(x1,s1),(y1,t1),(x2,s2),(y2,t2)]]=>some (.s true (qsC [(ac9 x1 y1 x2 y2 x1 x2,max s1 s2),(ac9 x1 y1 x2 y2 y1 y2,max t1 t2),(ac9 x1 y1 x2 y2 x2 x1,max s1 s2),(ac9 x1 y1 x2 y2 y2 y1,max t1 t2)]),[s1<=50000/\s2<=50000/\t1<=50000/\t2<=50000])
 |_=>none
theorem aoX (D:Prop) (B:Nat):aai Tryz.prog D B 122 (aaF ajQ):=by
 refine aam (c:=Tryz.f122.body.getD .skip) (aau (atB D)) (by kernel_rfl) Tryz.func122 (by kernel_rfl) (by kernel_rfl) ?_ B;intro pvs av ps h hp;unfold ajQ at h;split at h
 ·rename_i x1 s1 y1 t1 x2 s2 y2 t2;cases h;refine⟨[.s true (qsC [(x1,s1),(y1,t1),(x2,s2),(y2,t2)])],[],aaj.refl _,by rw[Tryz.ntmps122];simp,?_⟩;rw[aoW];simp only[aca,and_true] at hp;simp only[SmC,aaZ,true_and];refine⟨by omega,λhb=>aac.s (aan.q4 ?_),λhb=>aac.s (aan.q4 ?_)⟩
  ·have h:0<aaW x1 y1 x2 y2:=of_decide_eq_true hb;simp only[ac9,if_pos h,true_and];omega
  ·have h:¬ 0<aaW x1 y1 x2 y2:=of_decide_eq_false hb;simp only[ac9,if_neg h,true_and];omega
 ·cases h
def gR:List (Nat × Run):=(122,aaF ajQ)::gQ
theorem azU (D:Prop):∀ p∈gR,∀ B,aai Tryz.prog D B p.1 p.2:=aad (aoX D) (atB D)
def abY (x1 y1 x2 y2 x y:Rat):Bool:=decide (aaW (ac9 x1 y1 x2 y2 x1 x2) (ac9 x1 y1 x2 y2 y1 y2) x y<=0) && decide (aaW x y (ac9 x1 y1 x2 y2 x2 x1) (ac9 x1 y1 x2 y2 y2 y1)<=0)
theorem aoH (x1 y1 x2 y2 x y:Rat) (s1 t1 s2 t2 s t:Nat):vc Tryz.prog (lk gR) Tryz.f64.ntmps [] (Tryz.f64.body.getD .skip) ⟨aao [.s true (qsC [(x1,s1),(y1,t1),(x2,s2),(y2,t2)]),.s true (qsC [(x,s),(y,t)])] 0,[]⟩ (aaH Tryz.prog Tryz.f64.results.toList (.s false [.v (.bool (abY x1 y1 x2 y2 x y))]))=(let p0:=λ(Z:Prop)=>SmC (qsC [(ac9 x1 y1 x2 y2 x1 x2,max s1 s2),(ac9 x1 y1 x2 y2 y1 y2,max t1 t2)])/\SmC (qsC [(x,s),(y,t)])/\(max s1 s2<=50000/\s<=50000/\max t1 t2<=50000/\t<=50000)/\Z;SmC (qsC [(x1,s1),(y1,t1),(x2,s2),(y2,t2)])/\(s1<=50000/\s2<=50000/\t1<=50000/\t2<=50000)/\(decide (aaW (ac9 x1 y1 x2 y2 x1 x2) (ac9 x1 y1 x2 y2 y1 y2) x y<=(0:Int))=true->p0 (decide (aaW (ac9 x1 y1 x2 y2 x1 x2) (ac9 x1 y1 x2 y2 y1 y2) x y<=(0:Int))=true/\SmC (qsC [(x,s),(y,t)])/\SmC (qsC [(ac9 x1 y1 x2 y2 x2 x1,max s1 s2),(ac9 x1 y1 x2 y2 y2 y1,max t1 t2)])/\(s<=50000/\max s1 s2<=50000/\t<=50000/\max t1 t2<=50000)/\aac (AV.s false [aaa.v (Value.bool (decide (aaW x y (ac9 x1 y1 x2 y2 x2 x1) (ac9 x1 y1 x2 y2 y2 y1)<=(0:Int))))]) (AV.s false [aaa.v (Value.bool (abY x1 y1 x2 y2 x y))])))/\(decide (aaW (ac9 x1 y1 x2 y2 x1 x2) (ac9 x1 y1 x2 y2 y1 y2) x y<=(0:Int))=false->p0 (decide (aaW (ac9 x1 y1 x2 y2 x1 x2) (ac9 x1 y1 x2 y2 y1 y2) x y<=(0:Int))=false/\aac (AV.s false [aaa.f]) (AV.s false [aaa.v (Value.bool (abY x1 y1 x2 y2 x y))])))):=by kernel_rfl
def ajE:abF
 |[.q [(x1,s1),(y1,t1),(x2,s2),(y2,t2)],.q [(x,s),(y,t)]]=>some (.s false [.v (.bool (abY x1 y1 x2 y2 x y))],[s1<=50000/\s2<=50000/\t1<=50000/\t2<=50000/\s<=50000/\t<=50000])
 |_=>none
theorem aoI (D:Prop) (B:Nat):aai Tryz.prog D B 64 (aaF ajE):=by
 refine aam (c:=Tryz.f64.body.getD .skip) (aau (azU D)) (by kernel_rfl) Tryz.func64 (by kernel_rfl) (by kernel_rfl) ?_ B;intro pvs av ps h hp;unfold ajE at h;split at h
 ·rename_i x1 s1 y1 t1 x2 s2 y2 t2 x s y t;cases h;refine⟨[.s true (qsC [(x1,s1),(y1,t1),(x2,s2),(y2,t2)]),.s true (qsC [(x,s),(y,t)])],[],aaj.refl _,by rw[Tryz.ntmps64];simp,?_⟩;rw[aoH];simp only[aca,and_true] at hp;simp only[SmC,aaZ,true_and];refine⟨by omega,λhb=>⟨by omega,hb,by omega,aac.bool ?_⟩,λhb=>⟨by omega,hb,aac.ff ?_⟩⟩
  ·rw[abY,hb,Bool.true_and]
  ·rw[abY,hb,Bool.false_and]
 ·cases h
def gS:List (Nat × Run):=(64,aaF ajE)::(38,aaF atb)::(22,aaF ama)::gB
theorem awD:∀ p∈gS,∀ B,aai Tryz.prog False B p.1 p.2:=aad (aoI False) (aad at8 (aad (afL False) atC))
def onB (x1 y1 x2 y2 x y:Rat):Bool:=abY x1 y1 x2 y2 x y && (abg ((x2-x1)*(y-y1)) ((y2-y1)*(x-x1)) == 0)
theorem azK (x1 y1 x2 y2 x y:Rat) (s1 t1 s2 t2 s t:Nat):vc Tryz.prog (lk gS) Tryz.f21.ntmps [] (Tryz.f21.body.getD .skip) ⟨aao [.s true (qsC [(x1,s1),(y1,t1),(x2,s2),(y2,t2)]),.s true (qsC [(x,s),(y,t)])] 0,[]⟩ (aaH Tryz.prog Tryz.f21.results.toList (.s false [.v (.bool (onB x1 y1 x2 y2 x y))]))=((abY x1 y1 x2 y2 x y=true->SmC (qsC [(x1,s1),(y1,t1),(x2,s2),(y2,t2)])/\SmC (qsC [(x,s),(y,t)])/\(s1<=50000/\s2<=50000/\t1<=50000/\t2<=50000/\s<=50000/\t<=50000)/\abY x1 y1 x2 y2 x y=true/\SmC (qsC [(x1,s1),(y1,t1)])/\SmC (qsC [(x2,s2),(y2,t2)])/\SmC (qsC [(x,s),(y,t)])/\(s1<=10000/\t1<=10000/\s2<=10000/\t2<=10000/\s<=10000/\t<=10000)/\aac (AV.s false [aaa.v (Value.bool (abg ((x2-x1)*(y-y1)) ((y2-y1)*(x-x1)) == (0:Int)))]) (AV.s false [aaa.v (Value.bool (onB x1 y1 x2 y2 x y))]))/\(abY x1 y1 x2 y2 x y=false->SmC (qsC [(x1,s1),(y1,t1),(x2,s2),(y2,t2)])/\SmC (qsC [(x,s),(y,t)])/\(s1<=50000/\s2<=50000/\t1<=50000/\t2<=50000/\s<=50000/\t<=50000)/\abY x1 y1 x2 y2 x y=false/\aac (AV.s false [aaa.f]) (AV.s false [aaa.v (Value.bool (onB x1 y1 x2 y2 x y))]))):=by kernel_rfl
def onS:abF
 |[.q [(x1,s1),(y1,t1),(x2,s2),(y2,t2)],.q [(x,s),(y,t)]]=>some (.s false [.v (.bool (onB x1 y1 x2 y2 x y))],[s1<=10000/\s2<=10000/\t1<=10000/\t2<=10000/\s<=10000/\t<=10000])
 |_=>none
theorem azL (B:Nat):aai Tryz.prog False B 21 (aaF onS):=by
 refine aam (c:=Tryz.f21.body.getD .skip) (aau (awD)) (by kernel_rfl) Tryz.func21 (by kernel_rfl) (by kernel_rfl) ?_ B;intro pvs av ps h hp;unfold onS at h;split at h
 ·rename_i x1 s1 y1 t1 x2 s2 y2 t2 x s y t;cases h;refine⟨[.s true (qsC [(x1,s1),(y1,t1),(x2,s2),(y2,t2)]),.s true (qsC [(x,s),(y,t)])],[],aaj.refl _,by rw[Tryz.ntmps21];simp,?_⟩;rw[azK];simp only[aca,and_true] at hp;simp only[SmC,aaZ,true_and];refine⟨λhb=>⟨by omega,hb,by omega,aac.bool ?_⟩,λhb=>⟨by omega,hb,aac.ff ?_⟩⟩
  ·rw[onB,hb,Bool.true_and]
  ·rw[onB,hb,Bool.false_and]
 ·cases h
end Go.Proofs.YtcmplpkmfbhpdaaGreat
namespace Go.Proofs.YtcmplpkmfbhpdaaGreat
open Go Go.RowKit
def zQ:List aaa:=[.v (.slice none 0 0),.f,.v (.slice none 0 0),.f]
def ade (n:Nat) (e:Nat->List aaa):List Rat:=(List.range n).map λi=>(awn e i).1
def akB (n:Nat) (e:Nat->List aaa):Nat:=(List.range n).foldl (λm i=>max m (awn e i).2) 1
def aAY (lt:Rat->Rat->Bool) (l:List Rat) (s i:Nat):List (Rat × Nat):=[(abn lt (l.take i),s)]
def afs (lt:Rat->Rat->Bool) (l:List Rat) (s:Nat):abW:=⟨Nat,λi=>i<=l.length,λi=>⟨[(2,.s false [.own 2 0]),(3,.s false [.own 3 0]),(6,.s false [.row 4 l.length (afb l s)]),(7,.s false [.v (.int .i64 l.length)]),(8,.s false [.v (.int .i64 i)])],[(2,.st 39 zQ),(3,.st 39 (qsC (aAY lt l s i)))]⟩,λi=>l.length-i,[],[],none⟩
def ltR:Rat->Rat->Bool:=λy o=>decide (y<o)
def gtR:Rat->Rat->Bool:=λy o=>decide (o<y)
theorem aan.zero {s:Nat} (h:1<=s):aan zQ (qsC [(0,s)]):=by
 have hz:rl 0<=s:=by
  have:rl 0=1:=by
   unfold rl;rw[show ((0:Rat).num.natAbs)=0 from rfl,show ((0:Rat).den)=1 from rfl,ai3];unfold limbs;rw[dif_pos rfl];rfl
  omega
 have l0:limbs 0=[]:=by unfold limbs;rw[dif_pos rfl]
 refine aan.cons ⟨λG F w v h=> ?_⟩ (aan.cons ⟨λG F w v h=> ?_⟩ (aan.cons ⟨λG F w v h=> ?_⟩ (aan.cons ⟨λG F w v h=> ?_⟩ aan.nil)))
 ·obtain⟨rfl,_⟩:=abm h;refine GOk.of (.q ⟨none,?_,.inl ?_⟩ hz)
  ·rw[show ((0:Rat).num.natAbs)=0 from rfl,l0];rfl
  ·rw[show ((0:Rat).num.natAbs)=0 from rfl,l0]
 ·have:=abE (b:=false) h (.inl rfl);rw[this];exact GOk.of (.q (show _=_ by rfl) hz)
 ·obtain⟨rfl,_⟩:=abm h;refine GOk.of (.q ⟨none,0,?_,.inl l0,.inr ⟨rfl,rfl⟩⟩ hz);rw[l0];rfl
 ·have:=abE (b:=false) h (.inl rfl);rw[this];exact GOk.of (.q (show _=_ by rfl) hz)
theorem alZ (x y:Rat):decide (abg x y<0)=ltR x y:=by
 unfold abg ltR;by_cases h:x<y
 ·simp[h]
 ·by_cases h2:y<x
  ·simp[h,h2]
  ·simp[h,h2]
theorem al1 (x y:Rat):decide (abg x y>0)=gtR x y:=by
 unfold abg gtR;by_cases h:x<y
 ·simp[h,Rat.not_lt.2 (Rat.le_of_lt h)]
 ·by_cases h2:y<x
  ·simp[h,h2]
  ·simp[h,h2]
theorem acQ {lt:Rat->Rat->Bool} {l:List Rat} {i:Nat} (hi:i<l.length):abn lt (l.take (i+1))=if i=0 then l.getD i 0 else if lt (l.getD i 0) (abn lt (l.take i)) then l.getD i 0 else abn lt (l.take i):=by
 have:l[i]? =some (l.getD i 0):=by simp[List.getD,hi]
 rw[amO lt l i _ this]
theorem arn (l:List Rat) (s:Nat):vc Tryz.prog (lk gO) Tryz.f101.ntmps [(3,afs ltR l s)] (Tryz.f101.body.getD .skip) ⟨aao [.s false [.row 4 l.length (afb l s)]] 0,[]⟩ (aaH Tryz.prog Tryz.f101.results.toList (.s true (qsC [(abn ltR l,s)])))=(let p1:=λ(Z:Prop)=>SmA (AV.s false [aaa.own 2 0])/\SmA (AV.s false [aaa.own 3 0])/\SmA (AV.s false [aaa.row 4 l.length λ(a:Nat)=>(qsC [(List.getD l a (0:Rat),s)])])/\SmA (AV.s false [aaa.v (Value.int IntKind.i64 (↑l.length:Int))])/\Z;let p2:=λ(i:Nat)(i':Nat)=>aaf (aae.st 39 (qsC [(List.getD l (↑i:Int).toNat (0:Rat),s)])) (aae.st 39 (qsC [(abn (λ(a a_1:Rat)=>ltR a a_1) (List.take i' l),s)]))/\True;let p3:=λ(Z:Prop)=>SmB (aae.st 39 [aaa.v (Value.slice none 0 0),aaa.f,aaa.v (Value.slice none 0 0),aaa.f])/\Z;let p0:=λ(i:Nat)(i':Nat)(Z:Prop)=>i'<=l.length/\l.length-i'<l.length-i/\(p1 (aac (AV.s false [aaa.v (Value.int IntKind.i64 (IntKind.wrap IntKind.i64 ((↑i:Int)+(1:Int))))]) (AV.s false [aaa.v (Value.int IntKind.i64 (↑i':Int))])/\True))/\p3 (Z);(Exists λ(i:Nat)=>i<=l.length/\(p1 (aac (AV.s false [aaa.v (Value.int IntKind.i64 (0:Int))]) (AV.s false [aaa.v (Value.int IntKind.i64 (↑i:Int))])/\True))/\p3 (aaf (aae.st 39 [aaa.v (Value.slice none 0 0),aaa.f,aaa.v (Value.slice none 0 0),aaa.f]) (aae.st 39 (qsC [(abn (λ(a a_1:Rat)=>ltR a a_1) (List.take i l),s)]))/\True))/\∀ (i:Nat),i<=l.length->(decide ((↑i:Int)<(↑l.length:Int))=true->((0:Int)<=(↑i:Int)/\(↑i:Int)<(↑l.length:Int))/\(((↑i:Int) == (0:Int))=true->((↑i:Int) == (0:Int))=true/\Exists λ(i':Nat)=>p0 i i' ((p2 i i')))/\(((↑i:Int) == (0:Int))=false->((↑i:Int) == (0:Int))=false/\SmC (qsC [(List.getD l (↑i:Int).toNat (0:Rat),s)])/\SmC (qsC [(abn (λ(a a_1:Rat)=>ltR a a_1) (List.take i l),s)])/\(s<=50000/\s<=50000)/\(decide (abg (List.getD l (↑i:Int).toNat (0:Rat)) (abn (λ(a a_1:Rat)=>ltR a a_1) (List.take i l))<(0:Int))=true->Exists λ(i':Nat)=>p0 i i' ((p2 i i')))/\(decide (abg (List.getD l (↑i:Int).toNat (0:Rat)) (abn (λ(a a_1:Rat)=>ltR a a_1) (List.take i l))<(0:Int))=false->Exists λ(i':Nat)=>p0 i i' (aaf (aae.st 39 (qsC [(abn (λ(a a_1:Rat)=>ltR a a_1) (List.take i l),s)])) (aae.st 39 (qsC [(abn (λ(a a_1:Rat)=>ltR a a_1) (List.take i' l),s)]))/\True))))/\(decide ((↑i:Int)<(↑l.length:Int))=false->aac (AV.s true (qsC [(abn (λ(a a_1:Rat)=>ltR a a_1) (List.take i l),s)])) (AV.s true (qsC [(abn (λ(a a_1:Rat)=>ltR a a_1) l,s)])))):=by kernel_rfl
def anw:abF
 |[.o (.s false [.row 4 n e])]=>some (.s true (qsC [(abn ltR (ade n e),akB n e)]),[aac (.s false [.row 4 n e]) (.s false [.row 4 (ade n e).length (afb (ade n e) (akB n e))]),n<=1000000/\1<=akB n e/\akB n e<=50000])
 |_=>none
theorem aro (D:Prop) (B:Nat):aai Tryz.prog D B 101 (aaF anw):=by
 refine aam (c:=Tryz.f101.body.getD .skip) (aau (aio D)) (by kernel_rfl) Tryz.func101 (by kernel_rfl) (by kernel_rfl) ?_ B;intro pvs av ps h hp;unfold anw at h;split at h
 ·rename_i n e;cases h;obtain⟨hp1,⟨hp2,hp3,hp4⟩,-⟩:=hp;refine⟨[.s false [.row 4 (ade n e).length (afb (ade n e) (akB n e))]],[(3,afs ltR (ade n e) (akB n e))],aaj.cons hp1 aaj.nil,by rw[Tryz.ntmps101];simp,?_⟩;rw[arn];have hlen:(ade n e).length<=1000000:=by simpa[ade] using hp2
  generalize ade n e=l at *;generalize akB n e=s at *;simp only[SmA,SmC,SmB,aaZ,aaP,abj,true_and,and_true];refine⟨⟨0,Nat.zero_le _,aac.refl _,aaf.st (aan.zero hp3)⟩,λi hi'=>⟨λhb=> ?_,λhb=> ?_⟩⟩
  ·have hi:i<l.length:=by simpa using hb
   simp only[Int.toNat_natCast];refine⟨by omega,λh0=>⟨h0,i+1,hi,by omega,aac.wrap hi (by omega),?_⟩,λh0=>⟨h0,by omega,λhc=>⟨i+1,hi,by omega,aac.wrap hi (by omega),?_⟩,λhc=>⟨i+1,hi,by omega,aac.wrap hi (by omega),?_⟩⟩⟩
   ·have:i=0:=by simpa using h0
    rw[show (λa b=>ltR a b)=ltR from rfl,acQ hi,if_pos this];exact aaf.refl _
   ·have h0':¬ i=0:=by simpa using h0
    rw[alZ] at hc;rw[show (λa b=>ltR a b)=ltR from rfl,acQ hi,if_neg h0',if_pos hc];exact aaf.refl _
   ·have h0':¬ i=0:=by simpa using h0
    rw[alZ] at hc;rw[show (λa b=>ltR a b)=ltR from rfl,acQ hi,if_neg h0',if_neg (by rw[show (λa b=>ltR a b)=ltR from rfl] at hc;rw[hc];simp)];exact aaf.refl _
  ·have hi:l.length<=i:=by simpa using hb
   rw[List.take_of_length_le hi];exact aac.refl _
 ·cases h
theorem auL (l:List Rat) (s:Nat):vc Tryz.prog (lk gO) Tryz.f102.ntmps [(3,afs gtR l s)] (Tryz.f102.body.getD .skip) ⟨aao [.s false [.row 4 l.length (afb l s)]] 0,[]⟩ (aaH Tryz.prog Tryz.f102.results.toList (.s true (qsC [(abn gtR l,s)])))=(let p1:=λ(Z:Prop)=>SmA (AV.s false [aaa.own 2 0])/\SmA (AV.s false [aaa.own 3 0])/\SmA (AV.s false [aaa.row 4 l.length λ(a:Nat)=>(qsC [(List.getD l a (0:Rat),s)])])/\SmA (AV.s false [aaa.v (Value.int IntKind.i64 (↑l.length:Int))])/\Z;let p2:=λ(i:Nat)(i':Nat)=>aaf (aae.st 39 (qsC [(List.getD l (↑i:Int).toNat (0:Rat),s)])) (aae.st 39 (qsC [(abn (λ(a a_1:Rat)=>gtR a a_1) (List.take i' l),s)]))/\True;let p3:=λ(Z:Prop)=>SmB (aae.st 39 [aaa.v (Value.slice none 0 0),aaa.f,aaa.v (Value.slice none 0 0),aaa.f])/\Z;let p0:=λ(i:Nat)(i':Nat)(Z:Prop)=>i'<=l.length/\l.length-i'<l.length-i/\(p1 (aac (AV.s false [aaa.v (Value.int IntKind.i64 (IntKind.wrap IntKind.i64 ((↑i:Int)+(1:Int))))]) (AV.s false [aaa.v (Value.int IntKind.i64 (↑i':Int))])/\True))/\p3 (Z);(Exists λ(i:Nat)=>i<=l.length/\(p1 (aac (AV.s false [aaa.v (Value.int IntKind.i64 (0:Int))]) (AV.s false [aaa.v (Value.int IntKind.i64 (↑i:Int))])/\True))/\p3 (aaf (aae.st 39 [aaa.v (Value.slice none 0 0),aaa.f,aaa.v (Value.slice none 0 0),aaa.f]) (aae.st 39 (qsC [(abn (λ(a a_1:Rat)=>gtR a a_1) (List.take i l),s)]))/\True))/\∀ (i:Nat),i<=l.length->(decide ((↑i:Int)<(↑l.length:Int))=true->((0:Int)<=(↑i:Int)/\(↑i:Int)<(↑l.length:Int))/\(((↑i:Int) == (0:Int))=true->((↑i:Int) == (0:Int))=true/\Exists λ(i':Nat)=>p0 i i' ((p2 i i')))/\(((↑i:Int) == (0:Int))=false->((↑i:Int) == (0:Int))=false/\SmC (qsC [(List.getD l (↑i:Int).toNat (0:Rat),s)])/\SmC (qsC [(abn (λ(a a_1:Rat)=>gtR a a_1) (List.take i l),s)])/\(s<=50000/\s<=50000)/\(decide (abg (List.getD l (↑i:Int).toNat (0:Rat)) (abn (λ(a a_1:Rat)=>gtR a a_1) (List.take i l))>(0:Int))=true->Exists λ(i':Nat)=>p0 i i' ((p2 i i')))/\(decide (abg (List.getD l (↑i:Int).toNat (0:Rat)) (abn (λ(a a_1:Rat)=>gtR a a_1) (List.take i l))>(0:Int))=false->Exists λ(i':Nat)=>p0 i i' (aaf (aae.st 39 (qsC [(abn (λ(a a_1:Rat)=>gtR a a_1) (List.take i l),s)])) (aae.st 39 (qsC [(abn (λ(a a_1:Rat)=>gtR a a_1) (List.take i' l),s)]))/\True))))/\(decide ((↑i:Int)<(↑l.length:Int))=false->aac (AV.s true (qsC [(abn (λ(a a_1:Rat)=>gtR a a_1) (List.take i l),s)])) (AV.s true (qsC [(abn (λ(a a_1:Rat)=>gtR a a_1) l,s)])))):=by kernel_rfl
def atq:abF
 |[.o (.s false [.row 4 n e])]=>some (.s true (qsC [(abn gtR (ade n e),akB n e)]),[aac (.s false [.row 4 n e]) (.s false [.row 4 (ade n e).length (afb (ade n e) (akB n e))]),n<=1000000/\1<=akB n e/\akB n e<=50000])
 |_=>none
theorem auM (D:Prop) (B:Nat):aai Tryz.prog D B 102 (aaF atq):=by
 refine aam (c:=Tryz.f102.body.getD .skip) (aau (aio D)) (by kernel_rfl) Tryz.func102 (by kernel_rfl) (by kernel_rfl) ?_ B;intro pvs av ps h hp;unfold atq at h;split at h
 ·rename_i n e;cases h;obtain⟨hp1,⟨hp2,hp3,hp4⟩,-⟩:=hp;refine⟨[.s false [.row 4 (ade n e).length (afb (ade n e) (akB n e))]],[(3,afs gtR (ade n e) (akB n e))],aaj.cons hp1 aaj.nil,by rw[Tryz.ntmps102];simp,?_⟩;rw[auL];have hlen:(ade n e).length<=1000000:=by simpa[ade] using hp2
  generalize ade n e=l at *;generalize akB n e=s at *;simp only[SmA,SmC,SmB,aaZ,aaP,abj,true_and,and_true];refine⟨⟨0,Nat.zero_le _,aac.refl _,aaf.st (aan.zero hp3)⟩,λi hi'=>⟨λhb=> ?_,λhb=> ?_⟩⟩
  ·have hi:i<l.length:=by simpa using hb
   simp only[Int.toNat_natCast];refine⟨by omega,λh0=>⟨h0,i+1,hi,by omega,aac.wrap hi (by omega),?_⟩,λh0=>⟨h0,by omega,λhc=>⟨i+1,hi,by omega,aac.wrap hi (by omega),?_⟩,λhc=>⟨i+1,hi,by omega,aac.wrap hi (by omega),?_⟩⟩⟩
   ·have:i=0:=by simpa using h0
    rw[show (λa b=>gtR a b)=gtR from rfl,acQ hi,if_pos this];exact aaf.refl _
   ·have h0':¬ i=0:=by simpa using h0
    rw[al1] at hc;rw[show (λa b=>gtR a b)=gtR from rfl,acQ hi,if_neg h0',if_pos hc];exact aaf.refl _
   ·have h0':¬ i=0:=by simpa using h0
    rw[al1] at hc;rw[show (λa b=>gtR a b)=gtR from rfl,acQ hi,if_neg h0',if_neg (by rw[show (λa b=>gtR a b)=gtR from rfl] at hc;rw[hc];simp)];exact aaf.refl _
  ·have hi:l.length<=i:=by simpa using hb
   rw[List.take_of_length_le hi];exact aac.refl _
 ·cases h
end Go.Proofs.YtcmplpkmfbhpdaaGreat
namespace Go.Proofs.YtcmplpkmfbhpdaaGreat
open Go Go.RowKit
def acs (l:List (Rat × Rat)) (s:Nat):Nat->List aaa:=λi=>qsC [((l.getD i (0,0)).1,s),((l.getD i (0,0)).2,s)]
theorem ahy (l:List (Rat × Rat)) (s i:Nat):(acs l s i).all aaa.cl=true:=ais _
theorem aaf.pts {T:TypeId} {l l':List (Rat × Rat)} {s t:Nat} (h:l=l') (hs:s<=t):aaf (.row T 8 l.length (acs l s)) (.row T 8 l'.length (acs l' t)):=by
  subst h;exact aaf.row rfl (λi hi=>aan.q2 ⟨⟨rfl,hs⟩,rfl,hs⟩) (λi hi=>ahy _ _ _)
theorem anW {l:List (Rat × Rat)} {s t i:Nat} (hi:i<l.length) (hs:s<=t):aan ((l.map λp=>qsC [(p.1,s),(p.2,s)]).getD i []) (acs l t i):=by
  simp only[List.getD,List.getElem?_map,acs,List.getElem?_eq_getElem hi,Option.map_some,Option.getD_some];exact aan.q2 ⟨⟨rfl,hs⟩,rfl,hs⟩
theorem axH {l:List (Rat × Rat)} {s i:Nat} (hi:i<l.length):((l.map λp=>qsC [(p.1,s),(p.2,s)]).getD i []).all aaa.cl=true:=by
  simp only[List.getD,List.getElem?_map,List.getElem?_eq_getElem hi,Option.map_some,Option.getD_some];exact ais _
theorem aaf.lit {T:TypeId} {l:List (Rat × Rat)} {s t:Nat} (hs:s<=t):aaf (.row T 8 l.length λi=>(l.map λp=>qsC [(p.1,s),(p.2,s)]).getD i []) (.row T 8 l.length (acs l t)):=
  aaf.row rfl (λ_i hi=>anW hi hs) (λ_i _hi=>ahy _ _ _)
theorem aac.lit {l l':List (Rat × Rat)} {s t:Nat} (h:l=l') (hs:s<=t):aac (.s false [.row 8 l.length λi=>(l.map λp=>qsC [(p.1,s),(p.2,s)]).getD i []]) (.s false [.row 8 l'.length (acs l' t)]):=by
  subst h;exact aac.one (CLe.row rfl (λi hi=>anW hi hs) (λi hi=>⟨axH hi,ahy _ _ _⟩))
theorem aaf.snoc {T:TypeId} {l l':List (Rat × Rat)} {x y:Rat} {s t:Nat} (h:l'=l++[(x,y)]) (hs:t<=s):aaf (.row T 8 (l.length+1) λj=>if j<l.length then acs l s j else [qsC [(x,t),(y,t)]].getD (j-l.length) []) (.row T 8 l'.length (acs l' s)):=by
  subst h;refine aaf.row (by simp) (λi hi=> ?_) (λi hi=>ahy _ _ _);split
  · rename_i h1
    have:(l++[(x,y)]).getD i (0,0)=l.getD i (0,0):=by simp[List.getD,List.getElem?_append_left h1]
    simp only[acs,this];exact aan.refl _
  · rename_i h1
    have h2:i=l.length:=by omega
    subst h2;have:(l++[(x,y)]).getD l.length (0,0)=(x,y):=by simp[List.getD]
    simp only[acs,this,Nat.sub_self];exact aan.q2 ⟨⟨rfl,hs⟩,rfl,hs⟩
def aaJ (x1 y1 x2 y2 x3 y3 x4 y4:Rat):Rat:=(x2-x1)*(y4-y3)-(y2-y1)*(x4-x3)
def ab8 (x1 y1 x2 y2 x3 y3 x4 y4:Rat):Rat:=((x3-x1)*(y4-y3)-(y3-y1)*(x4-x3))/aaJ x1 y1 x2 y2 x3 y3 x4 y4
def acE (x1 y1 x2 y2 x3 y3 x4 y4:Rat):Rat:=((x3-x1)*(y2-y1)-(y3-y1)*(x2-x1))/aaJ x1 y1 x2 y2 x3 y3 x4 y4
def adf (x1 y1 x2 y2 x3 y3 x4 y4:Rat):List (Rat × Rat):=[(x1,y1),(x2,y2),(x3,y3),(x4,y4)]
def on2 (x1 y1 x2 y2 x3 y3 x4 y4:Rat) (p:Rat × Rat):Bool:=onB x1 y1 x2 y2 p.1 p.2 && onB x3 y3 x4 y4 p.1 p.2
def aa4 (x1 y1 x2 y2 x3 y3 x4 y4:Rat):List (Rat × Rat):=(adf x1 y1 x2 y2 x3 y3 x4 y4).filter (on2 x1 y1 x2 y2 x3 y3 x4 y4)
def adU (l:List (Rat × Rat)) (o:Rat × Rat):Rat × Rat:=l.foldl (λo q=>if aaW q.1 q.2 o.1 o.2<0 then q else o) o
def abU (l:List (Rat × Rat)) (o:Rat × Rat):Rat × Rat:=l.foldl (λo q=>if 0<aaW q.1 q.2 o.1 o.2 then q else o) o
def amX (l:List (Rat × Rat)):List (Rat × Rat):=
  if l=[] then [] else if aaW (adU l (l.getD 0 (0,0))).1 (adU l (l.getD 0 (0,0))).2 (abU l (l.getD 0 (0,0))).1 (abU l (l.getD 0 (0,0))).2=0 then [adU l (l.getD 0 (0,0))] else [adU l (l.getD 0 (0,0)),abU l (l.getD 0 (0,0))]
def ab9 (x1 y1 x2 y2 x3 y3 x4 y4:Rat):List (Rat × Rat):=
  if aaJ x1 y1 x2 y2 x3 y3 x4 y4≠0 then
    if ab8 x1 y1 x2 y2 x3 y3 x4 y4<0\/1<ab8 x1 y1 x2 y2 x3 y3 x4 y4\/acE x1 y1 x2 y2 x3 y3 x4 y4<0\/1<acE x1 y1 x2 y2 x3 y3 x4 y4 then [] else [(x1+(x2-x1)*ab8 x1 y1 x2 y2 x3 y3 x4 y4,y1+(y2-y1)*ab8 x1 y1 x2 y2 x3 y3 x4 y4)]
  else amX (aa4 x1 y1 x2 y2 x3 y3 x4 y4)
def mS (s:Nat):Nat:=19*s+12
def crS (s:Nat):Nat:=aa1 (acq (aa1 s s) (aa1 s s)) (acq (aa1 s s) (aa1 s s))
def qiS (s:Nat):Nat:=acq (crS s) (crS s)
def avJ (x1 y1 x2 y2:Rat) (s:Nat):List aaa:=qsC [(x1,s),(y1,s),(x2,s),(y2,s)]
def asA (x1 y1 x2 y2 x3 y3 x4 y4:Rat) (s:Nat):abW:=⟨Nat,λi=>i<=4,λi=>⟨[(2,.s false [.own 2 0]),(3,.s false [.own 3 0]),(14,.s false [.hd 900]),(116,.s false [.hd 116]),(117,.s false [.v (.int .i64 4)]),(118,.s false [.v (.int .i64 i)])],
  [(2,.st 43 (avJ x1 y1 x2 y2 s)),(3,.st 43 (avJ x3 y3 x4 y4 s)),(116,.row 41 8 4 (acs (adf x1 y1 x2 y2 x3 y3 x4 y4) s)),(900,.row 41 8 (((adf x1 y1 x2 y2 x3 y3 x4 y4).take i).filter (on2 x1 y1 x2 y2 x3 y3 x4 y4)).length (acs (((adf x1 y1 x2 y2 x3 y3 x4 y4).take i).filter (on2 x1 y1 x2 y2 x3 y3 x4 y4)) s))]⟩,λi=>4-i,[.nil 14 900 41 8],[.ren 133 900],none⟩
def hdP (l:List (Rat × Rat)):Rat × Rat:=l.getD 0 (0,0)
def asy (x1 y1 x2 y2 x3 y3 x4 y4:Rat) (s:Nat):abW:=⟨Nat,λi=>i<=(aa4 x1 y1 x2 y2 x3 y3 x4 y4).length,λi=>⟨[(17,.s false [.own 17 0]),(18,.s false [.own 18 0]),(144,.s false [.hd 900]),(145,.s false [.v (.int .i64 (aa4 x1 y1 x2 y2 x3 y3 x4 y4).length)]),(146,.s false [.v (.int .i64 i)])],
  [(17,.st 41 (qsC [((adU ((aa4 x1 y1 x2 y2 x3 y3 x4 y4).take i) (hdP (aa4 x1 y1 x2 y2 x3 y3 x4 y4))).1,s),((adU ((aa4 x1 y1 x2 y2 x3 y3 x4 y4).take i) (hdP (aa4 x1 y1 x2 y2 x3 y3 x4 y4))).2,s)])),
   (18,.st 41 (qsC [((abU ((aa4 x1 y1 x2 y2 x3 y3 x4 y4).take i) (hdP (aa4 x1 y1 x2 y2 x3 y3 x4 y4))).1,s),((abU ((aa4 x1 y1 x2 y2 x3 y3 x4 y4).take i) (hdP (aa4 x1 y1 x2 y2 x3 y3 x4 y4))).2,s)])),
   (900,.row 41 8 (aa4 x1 y1 x2 y2 x3 y3 x4 y4).length (acs (aa4 x1 y1 x2 y2 x3 y3 x4 y4) s))]⟩,λi=>(aa4 x1 y1 x2 y2 x3 y3 x4 y4).length-i,[],[],none⟩
def gT:List (Nat × Run):=(21,aaF onS)::(95,aaF atS)::gS
theorem azT:∀ p∈gT,∀ B,aai Tryz.prog False B p.1 p.2:=aad azL (aad az6 awD)
theorem auS (x1 y1 x2 y2 x3 y3 x4 y4:Rat) (s:Nat):vc Tryz.prog (lk gT) Tryz.f40.ntmps [(13,asA x1 y1 x2 y2 x3 y3 x4 y4 s),(22,asy x1 y1 x2 y2 x3 y3 x4 y4 s)] (Tryz.f40.body.getD .skip) ⟨aao [.s true (avJ x1 y1 x2 y2 s),.s true (avJ x3 y3 x4 y4 s)] 0,[]⟩ (aaH Tryz.prog Tryz.f40.results.toList (.s false [.row 8 (ab9 x1 y1 x2 y2 x3 y3 x4 y4).length (acs (ab9 x1 y1 x2 y2 x3 y3 x4 y4) (mS s))]))=(let k0:=aa4 x1 y1 x2 y2 x3 y3 x4 y4;let k1:=adf x1 y1 x2 y2 x3 y3 x4 y4;let k2:=((0:Rat),(0:Rat));let k3:=λ(zz:Nat)=>(qsC [((abU (List.take zz k0) (hdP k0)).1,s),((abU (List.take zz k0) (hdP k0)).2,s)]);let k4:=λ(zz:Nat)=>(qsC [((adU (List.take zz k0) (hdP k0)).1,s),((adU (List.take zz k0) (hdP k0)).2,s)]);let k5:=λ(zz:Nat)=>(List.getD k0 (↑zz:Int).toNat k2);let k6:=AV.s false [aaa.row 8 (ab9 x1 y1 x2 y2 x3 y3 x4 y4).length (acs (ab9 x1 y1 x2 y2 x3 y3 x4 y4) (mS s))];let k8:=λ(zz:Nat)=>(List.getD k1 (↑zz:Int).toNat k2);let k9:=λ(zz:Nat)=>(AV.s false [aaa.v (Value.int IntKind.i64 (IntKind.wrap IntKind.i64 ((↑zz:Int)+(1:Int))))]);let k11:=λ(zz:Nat)=>(AV.s false [aaa.v (Value.int IntKind.i64 (↑zz:Int))]);let k12:=ab8 x1 y1 x2 y2 x3 y3 x4 y4;let k13:=qsC [(ab8 x1 y1 x2 y2 x3 y3 x4 y4,qiS s)];let k15:=λ(zz:Nat)=>(qsC [((List.getD k0 zz k2).1,s),((List.getD k0 zz k2).2,s)]);let k16:=λ(zz:Nat)=>(qsC [((k5 zz).1,s),((k5 zz).2,s)]);let k17:=qsC [(x1,s),(y1,s),(x2,s),(y2,s)];let k18:=(0:Int);let k19:=aae.st 43 (qsC [(x3,s),(y3,s),(x4,s),(y4,s)]);let k20:=λ(zz:Nat)=>(qsC [((List.getD k1 zz k2).1,s),((List.getD k1 zz k2).2,s)]);let k21:=AV.s false [aaa.hd 900];let k22:=aa1 s s;let k23:=AV.s false [aaa.v (Value.slice none 0 0)];let k24:=λ(zz:Nat)=>(List.take zz k1);let k25:=λ(zz:Nat)=>(aaW (adU (List.take zz k0) (hdP k0)).1 (adU (List.take zz k0) (hdP k0)).2 (abU (List.take zz k0) (hdP k0)).1 (abU (List.take zz k0) (hdP k0)).2 == k18);let k26:=abT (Rat.num (acE x1 y1 x2 y2 x3 y3 x4 y4))<k18;let k27:=AV.s false [aaa.v (Value.int IntKind.i64 (4:Int))];let k28:=(↑(1:Int):Rat);let k29:=abT (Rat.num k12)<k18;let k31:=λ(zz:Nat)=>(aae.st 41 (k4 zz));let k32:=λ(zz:Nat)=>(aae.st 41 (k3 zz));let k33:=λ(zz:Nat)=>(aaW (k5 zz).1 (k5 zz).2 (adU (List.take zz k0) (hdP k0)).1 (adU (List.take zz k0) (hdP k0)).2<k18);let k34:=λ(zz:Nat)=>(qsC [((k8 zz).1,s),((k8 zz).2,s)]);let k35:=AV.s false [aaa.own 17 0];let k36:=AV.s false [aaa.own 18 0];let k37:=k0.length;let k38:=qsC [(aaJ x1 y1 x2 y2 x3 y3 x4 y4,crS s)];let k39:=qsC [(acE x1 y1 x2 y2 x3 y3 x4 y4,qiS s)];let k40:=aae.st 43 k17;let k41:=AV.s false [aaa.own 2 0];let k42:=AV.s false [aaa.own 3 0];let k43:=AV.s false [aaa.hd 116];let k44:=abg k12 k28>k18;let k45:=abT (Rat.num (aaJ x1 y1 x2 y2 x3 y3 x4 y4)) != k18;let k46:=λ(zz:Nat)=>(aae.st 41 (k16 zz));let k47:=AV.s false [aaa.v (Value.int IntKind.i64 k18)];let k48:=abg (acE x1 y1 x2 y2 x3 y3 x4 y4) k28>k18;let k49:=qsC [(x1,s),(y1,s)];let k50:=qsC [(x3,s),(y3,s)];let k51:=qsC [(k28,3)];let k52:=λ(zz:Nat)=>(k8 zz).1;let k53:=λ(zz:Nat)=>(k8 zz).2;let k54:=qsC [(x2-x1,aa1 s s)];let k55:=qsC [(y4-y3,aa1 s s)];let k56:=qsC [(y2-y1,aa1 s s)];let k57:=qsC [(x4-x3,aa1 s s)];let k58:=qsC [(x3-x1,aa1 s s)];let k59:=qsC [(y3-y1,aa1 s s)];let k7:=λ(zz:Nat)=>(List.filter (on2 x1 y1 x2 y2 x3 y3 x4 y4) (k24 zz));let k10:=λ(zz:Nat)=>(aaW (k5 zz).1 (k5 zz).2 (abU (List.take zz k0) (hdP k0)).1 (abU (List.take zz k0) (hdP k0)).2>k18);let k14:=AV.s false [aaa.v (Value.int IntKind.i64 (↑k37:Int))];let k30:=λ(zz:Nat)=>(k7 zz).length;let p1:=λ(i:Nat)(i':Nat)(Z:Prop)=>i'<=k0.length/\k0.length-i'<k0.length-i/\(SmA k35/\SmA k36/\SmA k21/\SmA k14/\aac (k9 i) (k11 i')/\True)/\Z;let p2:=SmB (aae.row 41 8 k37 λ(a:Nat)=>(k15 a))/\True;let p3:=s<=50000/\s<=50000/\s<=50000/\s<=50000;let p4:=aa1 s s<=50000/\aa1 s s<=50000;let p6:=λ(i:Nat)(i':Nat)(Z:Prop)=>i'<=4/\4-i'<4-i/\(SmA k41/\SmA k42/\SmA k21/\SmA k43/\SmA k27/\aac (k9 i) (k11 i')/\True)/\SmB k40/\SmB k19/\SmB (aae.row 41 8 4 λ(a:Nat)=>(k20 a))/\Z;let p7:=s<=10000/\s<=10000/\s<=10000/\s<=10000/\s<=10000/\s<=10000;let p8:=λ(i:Nat)(Z:Prop)=>(k18<=k18/\k18<(↑(k30 i):Int))/\0<(List.filter (λ(p:Rat × Rat)=>on2 x1 y1 x2 y2 x3 y3 x4 y4 p) (k24 i)).length/\Z;let p9:=acq k22 k22<=50000/\acq k22 k22<=50000;let p10:=λ(Z:Prop)=>SmC k38/\(crS s<=50000/\crS s<=50000)/\aaJ x1 y1 x2 y2 x3 y3 x4 y4≠(0:Rat)/\Z;let p11:=qiS s<=50000/\3<=50000;let p12:=aac k23 k6;let p0:=λ(i:Nat)(i':Nat)=>p6 i i' (aaf (aae.row 41 8 (k30 i) λ(a:Nat)=>(qsC [((List.getD (List.filter (λ(p:Rat × Rat)=>on2 x1 y1 x2 y2 x3 y3 x4 y4 p) (k24 i)) a k2).1,s),((List.getD (List.filter (λ(p:Rat × Rat)=>on2 x1 y1 x2 y2 x3 y3 x4 y4 p) (k24 i)) a k2).2,s)])) (aae.row 41 8 (k30 i') λ(a:Nat)=>(qsC [((List.getD (List.filter (λ(p:Rat × Rat)=>on2 x1 y1 x2 y2 x3 y3 x4 y4 p) (k24 i')) a k2).1,s),((List.getD (List.filter (λ(p:Rat × Rat)=>on2 x1 y1 x2 y2 x3 y3 x4 y4 p) (k24 i')) a k2).2,s)]))/\True);let p5:=λ(Z:Prop)=>SmC k13/\qiS s<=50000/\decide k29=false/\SmC k13/\SmC k51/\(p11)/\Z;SmC (qsC [(x2,s),(y2,s)])/\SmC k49/\(p3)/\SmC (qsC [(x4,s),(y4,s)])/\SmC k50/\(p3)/\SmC k54/\SmC k55/\(p4)/\SmC k56/\SmC k57/\(p4)/\SmC (qsC [((x2-x1)*(y4-y3),acq k22 k22)])/\SmC (qsC [((y2-y1)*(x4-x3),acq k22 k22)])/\(p9)/\SmC k38/\crS s<=50000/\(k45=true->SmC k50/\SmC k49/\(p3)/\SmC k58/\SmC k55/\(p4)/\SmC k59/\SmC k57/\(p4)/\SmC (qsC [((x3-x1)*(y4-y3),acq k22 k22)])/\SmC (qsC [((y3-y1)*(x4-x3),acq k22 k22)])/\(p9)/\SmC (qsC [((x3-x1)*(y4-y3)-(y3-y1)*(x4-x3),crS s)])/\p10 (SmC k58/\SmC k56/\(p4)/\SmC k59/\SmC k54/\(p4)/\SmC (qsC [((x3-x1)*(y2-y1),acq k22 k22)])/\SmC (qsC [((y3-y1)*(x2-x1),acq k22 k22)])/\(p9)/\SmC (qsC [((x3-x1)*(y2-y1)-(y3-y1)*(x2-x1),crS s)])/\p10 (abB (1:Int)/\aan [aaa.z (1:Int) 2 0,aaa.z (1:Int) 2 1] [aaa.z (1:Int) 2 0,aaa.z (1:Int) 2 1]/\(decide k29=true->SmC k13/\qiS s<=50000/\decide k29=true/\p12)/\(decide k29=false->(decide k44=true->p5 (decide k44=true/\p12))/\(decide k44=false->(decide k26=true->p5 (decide k44=false/\SmC k39/\qiS s<=50000/\decide k26=true/\p12))/\(decide k26=false->p5 (decide k44=false/\SmC k39/\qiS s<=50000/\decide k26=false/\SmC k39/\SmC k51/\(p11)/\(decide k48=true->aac k23 k6)/\(decide k48=false->SmC k17/\SmC k13/\(s<=10000/\s<=10000/\s<=10000/\s<=10000/\qiS s<=25000)/\aac (AV.s false [aaa.row 8 1 λ(i:Nat)=>List.getD [(qsC [(x1+(x2-x1)*k12,aa1 s (acq k22 (qiS s))),(y1+(y2-y1)*k12,aa1 s (acq k22 (qiS s)))])] i []]) k6))))))))/\(k45=false->(Exists λ(i:Nat)=>i<=4/\(SmA k41/\SmA k42/\SmA k21/\SmA k43/\aac (AV.s false [aaa.v (Value.int IntKind.i64 (↑4:Int))]) k27/\aac k47 (k11 i)/\True)/\SmB k40/\SmB k19/\aaf (aae.row 41 8 4 λ(i:Nat)=>List.getD [k49,(qsC [(x2,s),(y2,s)]),k50,(qsC [(x4,s),(y4,s)])] i []) (aae.row 41 8 4 λ(a:Nat)=>(k20 a))/\aaf (aae.row 41 8 0 λ(_x:Nat)=>[]) (aae.row 41 8 (k30 i) λ(a:Nat)=>(qsC [((List.getD (List.filter (λ(p:Rat × Rat)=>on2 x1 y1 x2 y2 x3 y3 x4 y4 p) (k24 i)) a k2).1,s),((List.getD (List.filter (λ(p:Rat × Rat)=>on2 x1 y1 x2 y2 x3 y3 x4 y4 p) (k24 i)) a k2).2,s)]))/\True)/\∀ (i:Nat),i<=4->(decide ((↑i:Int)<(4:Int))=true->(k18<=(↑i:Int)/\(↑i:Int)<(↑4:Int))/\(↑i:Int).toNat<4/\(onB x1 y1 x2 y2 (k52 i) (k53 i)=true->SmC k17/\SmC (k34 i)/\(p7)/\onB x1 y1 x2 y2 (k52 i) (k53 i)=true/\SmC (qsC [(x3,s),(y3,s),(x4,s),(y4,s)])/\SmC (k34 i)/\(p7)/\(onB x3 y3 x4 y4 (k52 i) (k53 i)=true->(0<=1/\((k7 i).length+1)*128<=140737488355328)/\Exists λ(i':Nat)=>p6 i i' (aaf (aae.row 41 8 ((k7 i).length+1) λ(j:Nat)=>if j<(k7 i).length then (qsC [((List.getD (List.filter (λ(p:Rat × Rat)=>on2 x1 y1 x2 y2 x3 y3 x4 y4 p) (k24 i)) j k2).1,s),((List.getD (List.filter (λ(p:Rat × Rat)=>on2 x1 y1 x2 y2 x3 y3 x4 y4 p) (k24 i)) j k2).2,s)]) else List.getD [(k34 i)] (j-(k7 i).length) []) (aae.row 41 8 (k30 i') λ(a:Nat)=>(qsC [((List.getD (List.filter (λ(p:Rat × Rat)=>on2 x1 y1 x2 y2 x3 y3 x4 y4 p) (k24 i')) a k2).1,s),((List.getD (List.filter (λ(p:Rat × Rat)=>on2 x1 y1 x2 y2 x3 y3 x4 y4 p) (k24 i')) a k2).2,s)]))/\True))/\(onB x3 y3 x4 y4 (k52 i) (k53 i)=false->Exists λ(i':Nat)=>(p0 i i')))/\(onB x1 y1 x2 y2 (k52 i) (k53 i)=false->SmC k17/\SmC (k34 i)/\(p7)/\onB x1 y1 x2 y2 (k52 i) (k53 i)=false/\Exists λ(i':Nat)=>(p0 i i')))/\(decide ((↑i:Int)<(4:Int))=false->(((↑(k30 i):Int) == k18)=true->aac k23 k6)/\(((↑(k30 i):Int) == k18)=false->p8 i (p8 i ((Exists λ(i_1:Nat)=>i_1<=k0.length/\(SmA k35/\SmA k36/\SmA k21/\aac (AV.s false [aaa.v (Value.int IntKind.i64 (↑(k30 i):Int))]) k14/\aac k47 (k11 i_1)/\True)/\aaf (aae.st 41 (qsC [((List.getD (List.filter (λ(p:Rat × Rat)=>on2 x1 y1 x2 y2 x3 y3 x4 y4 p) (k24 i)) 0 k2).1,s),((List.getD (List.filter (λ(p:Rat × Rat)=>on2 x1 y1 x2 y2 x3 y3 x4 y4 p) (k24 i)) 0 k2).2,s)])) (k31 i_1)/\aaf (aae.st 41 (qsC [((List.getD (List.filter (λ(p:Rat × Rat)=>on2 x1 y1 x2 y2 x3 y3 x4 y4 p) (k24 i)) 0 k2).1,s),((List.getD (List.filter (λ(p:Rat × Rat)=>on2 x1 y1 x2 y2 x3 y3 x4 y4 p) (k24 i)) 0 k2).2,s)])) (k32 i_1)/\aaf (aae.row 41 8 (k30 i) λ(a:Nat)=>(qsC [((List.getD (List.filter (λ(p:Rat × Rat)=>on2 x1 y1 x2 y2 x3 y3 x4 y4 p) (k24 i)) a k2).1,s),((List.getD (List.filter (λ(p:Rat × Rat)=>on2 x1 y1 x2 y2 x3 y3 x4 y4 p) (k24 i)) a k2).2,s)])) (aae.row 41 8 k37 λ(a:Nat)=>(k15 a))/\True)/\∀ (i:Nat),i<=k0.length->(decide ((↑i:Int)<(↑k37:Int))=true->(k18<=(↑i:Int)/\(↑i:Int)<(↑k37:Int))/\(↑i:Int).toNat<k0.length/\SmC (k16 i)/\SmC (k4 i)/\(p3)/\(decide (k33 i)=true->SmC (k16 i)/\SmC (k3 i)/\(p3)/\(decide (k10 i)=true->Exists λ(i':Nat)=>p1 i i' (aaf (k46 i) (k31 i')/\aaf (k46 i) (k32 i')/\p2))/\(decide (k10 i)=false->Exists λ(i':Nat)=>p1 i i' (aaf (k46 i) (k31 i')/\aaf (k32 i) (k32 i')/\p2)))/\(decide (k33 i)=false->SmC (k16 i)/\SmC (k3 i)/\(p3)/\(decide (k10 i)=true->Exists λ(i':Nat)=>p1 i i' (aaf (k31 i) (k31 i')/\aaf (k46 i) (k32 i')/\p2))/\(decide (k10 i)=false->Exists λ(i':Nat)=>p1 i i' (aaf (k31 i) (k31 i')/\aaf (k32 i) (k32 i')/\p2))))/\(decide ((↑i:Int)<(↑k37:Int))=false->SmC (k4 i)/\SmC (k3 i)/\(p3)/\((k25 i)=true->aac (AV.s false [aaa.row 8 1 λ(i_1:Nat)=>List.getD [(k4 i)] i_1 []]) k6)/\((k25 i)=false->aac (AV.s false [aaa.row 8 2 λ(i_1:Nat)=>List.getD [(k4 i),(k3 i)] i_1 []]) k6)))))))):=by kernel_rfl
theorem apm {l:List (Rat × Rat)} {o:Rat × Rat} {i:Nat} (h:i<l.length):adU (l.take (i+1)) o=if aaW (l.getD i (0,0)).1 (l.getD i (0,0)).2 (adU (l.take i) o).1 (adU (l.take i) o).2<0 then l.getD i (0,0) else adU (l.take i) o:=by
  have h':l[i]? =some (l.getD i (0,0)):=by simp[List.getD,h]
  unfold adU;rw[List.take_add_one,h',List.foldl_append];rfl
theorem amH {l:List (Rat × Rat)} {o:Rat × Rat} {i:Nat} (h:i<l.length):abU (l.take (i+1)) o=if 0<aaW (l.getD i (0,0)).1 (l.getD i (0,0)).2 (abU (l.take i) o).1 (abU (l.take i) o).2 then l.getD i (0,0) else abU (l.take i) o:=by
  have h':l[i]? =some (l.getD i (0,0)):=by simp[List.getD,h]
  unfold abU;rw[List.take_add_one,h',List.foldl_append];rfl
theorem anU (q:Rat):abT q.num=0↔q=0:=by
  rw[<- Rat.num_eq_zero];unfold abT;constructor
  · intro h
    split at h<;>(try split at h)<;>first | assumption | omega
  · intro h
    rw[h];rfl
theorem sign_neg (q:Rat):abT q.num<0↔q<0:=by
  have h:q<0↔q.num<0:=by rw[Rat.lt_iff];simp
  rw[h];unfold abT;constructor
  · intro k
    split at k<;>(try split at k)<;>omega
  · intro k
    split<;>(try split)<;>omega
theorem arM (q p:Rat):0<abg q p↔p<q:=by
  unfold abg;constructor
  · intro h
    split at h
    · omega
    · split at h
      · assumption
      · omega
  · intro h
    rw[if_neg (Rat.not_lt.2 (Rat.le_of_lt h)),if_pos h];decide
theorem aaf.more {T:TypeId} {l:List (Rat × Rat)} {f:Rat × Rat->Bool} {s i:Nat} (hi:i<l.length) (h:f (l.getD i (0,0))=true):aaf (.row T 8 (((l.take i).filter f).length+1) λj=>if j<((l.take i).filter f).length then acs ((l.take i).filter f) s j else [qsC [((l.getD i (0,0)).1,s),((l.getD i (0,0)).2,s)]].getD (j-((l.take i).filter f).length) []) (.row T 8 ((l.take (i+1)).filter f).length (acs ((l.take (i+1)).filter f) s)):=by
  refine aaf.snoc ?_ (Nat.le_refl _);have h':l[i]? =some (l.getD i (0,0)):=by simp[List.getD,hi]
  rw[List.take_add_one,h',List.filter_append];simp only[Option.toList_some,List.filter_cons,h,List.filter_nil];simp
theorem aaf.same {T:TypeId} {l:List (Rat × Rat)} {f:Rat × Rat->Bool} {s i:Nat} (hi:i<l.length) (h:f (l.getD i (0,0))=false):aaf (.row T 8 ((l.take i).filter f).length (acs ((l.take i).filter f) s)) (.row T 8 ((l.take (i+1)).filter f).length (acs ((l.take (i+1)).filter f) s)):=by
  refine aaf.pts ?_ (Nat.le_refl _);have h':l[i]? =some (l.getD i (0,0)):=by simp[List.getD,hi]
  rw[List.take_add_one,h',List.filter_append];simp only[Option.toList_some,List.filter_cons,h,List.filter_nil];simp
theorem auG (q:Rat):(abT q.num != 0)=decide (q≠0):=by
  by_cases h:q=0
  · rw[(anU q).2 h];simp[h]
  · have:abT q.num≠0:=λe=>h ((anU q).1 e)
    simp[this,h]
theorem arb (q:Rat):decide (abT q.num<0)=decide (q<0):=by simp only[sign_neg]
theorem aqT (q p:Rat):decide (abg q p>0)=decide (p<q):=by simp only[GT.gt,arM]
def ajt (a b c d e f g h:Nat):Nat:=max (max (max a b) (max c d)) (max (max e f) (max g h))
def atv:abF
  |[.q [(x1,s1),(y1,t1),(x2,s2),(y2,t2)],.q [(x3,s3),(y3,t3),(x4,s4),(y4,t4)]]=>some (.s false [.row 8 (ab9 x1 y1 x2 y2 x3 y3 x4 y4).length (acs (ab9 x1 y1 x2 y2 x3 y3 x4 y4) (mS (ajt s1 t1 s2 t2 s3 t3 s4 t4)))],[ajt s1 t1 s2 t2 s3 t3 s4 t4<=1500])
  |_=>none
theorem auT (B:Nat):aai Tryz.prog False B 40 (aaF atv):=by
  refine aam (c:=Tryz.f40.body.getD .skip) (aau (azT)) (by kernel_rfl) Tryz.func40 (by kernel_rfl) (by kernel_rfl) ?_ B;intro pvs av ps h hp;unfold atv at h;split at h
  · rename_i x1 s1 y1 t1 x2 s2 y2 t2 x3 s3 y3 t3 x4 s4 y4 t4
    cases h;obtain⟨hs,-⟩:=hp;have hm:(s1<=ajt s1 t1 s2 t2 s3 t3 s4 t4/\t1<=ajt s1 t1 s2 t2 s3 t3 s4 t4/\s2<=ajt s1 t1 s2 t2 s3 t3 s4 t4/\t2<=ajt s1 t1 s2 t2 s3 t3 s4 t4)/\s3<=ajt s1 t1 s2 t2 s3 t3 s4 t4/\t3<=ajt s1 t1 s2 t2 s3 t3 s4 t4/\s4<=ajt s1 t1 s2 t2 s3 t3 s4 t4/\t4<=ajt s1 t1 s2 t2 s3 t3 s4 t4:=by unfold ajt;omega
    generalize ajt s1 t1 s2 t2 s3 t3 s4 t4=s at *;obtain⟨⟨m1,m2,m3,m4⟩,m5,m6,m7,m8⟩:=hm;refine⟨[.s true (avJ x1 y1 x2 y2 s),.s true (avJ x3 y3 x4 y4 s)],[(13,asA x1 y1 x2 y2 x3 y3 x4 y4 s),(22,asy x1 y1 x2 y2 x3 y3 x4 y4 s)],aaj.cons (aac.s (aan.q4 ⟨⟨rfl,m1⟩,⟨rfl,m2⟩,⟨rfl,m3⟩,rfl,m4⟩)) (aaj.cons (aac.s (aan.q4 ⟨⟨rfl,m5⟩,⟨rfl,m6⟩,⟨rfl,m7⟩,rfl,m8⟩)) aaj.nil),by rw[Tryz.ntmps40];simp,?_⟩;clear m1 m2 m3 m4 m5 m6 m7 m8;rw[auS];have b1:s<=50000:=by omega
    have b2:s<=10000:=by omega
    have b3:aa1 s s<=50000:=by simp only[aa1];omega
    have b4:acq (aa1 s s) (aa1 s s)<=50000:=by simp only[aa1,acq];omega
    have b5:crS s<=50000:=by simp only[crS,aa1,acq];omega
    have b6:qiS s<=25000:=by simp only[qiS,crS,aa1,acq];omega
    have b7:qiS s<=50000:=by omega
    have b8:aa1 s (acq (aa1 s s) (qiS s))<=mS s:=by simp only[mS,qiS,crS,aa1,acq];omega
    have b9:(3:Nat)<=50000:=by omega
    have bs:s<=mS s:=by simp only[mS];omega
    have bz:abB (1:Int):=by unfold abB;omega
    have c1:((1:Int):Rat)=1:=rfl;simp only[SmA,SmC,SmB,aaZ,aaP,abj,true_and,and_true,b1,b2,b3,b4,b5,b6,b7,b9,bz,c1,auG,arb,aqT,Int.toNat_natCast,decide_eq_true_eq,decide_eq_false_iff_not,gt_iff_lt,beq_iff_eq,beq_eq_false_iff_ne];have nil:aaJ x1 y1 x2 y2 x3 y3 x4 y4≠0->(ab8 x1 y1 x2 y2 x3 y3 x4 y4<0\/1<ab8 x1 y1 x2 y2 x3 y3 x4 y4\/acE x1 y1 x2 y2 x3 y3 x4 y4<0\/1<acE x1 y1 x2 y2 x3 y3 x4 y4)->aac (.s false [.v (.slice none 0 0)]) (.s false [.row 8 (ab9 x1 y1 x2 y2 x3 y3 x4 y4).length (acs (ab9 x1 y1 x2 y2 x3 y3 x4 y4) (mS s))]):=λh1 h2=>aac.one (CLe.nilrow (by unfold ab9;rw[if_pos h1,if_pos h2];rfl));refine⟨λhz=>⟨hz,hz,λh1=>⟨h1,nil hz (.inl h1)⟩,λh1=>⟨λh2=>⟨h1,h2,nil hz (.inr (.inl h2))⟩,λh2=>⟨λh3=>⟨h1,h2,h3,nil hz (.inr (.inr (.inl h3)))⟩,λh3=>⟨h1,h2,h3,λh4=>nil hz (.inr (.inr (.inr h4))),λh4=> ?_⟩⟩⟩⟩,λhz=> ?_⟩
    · have hm:ab9 x1 y1 x2 y2 x3 y3 x4 y4=[(x1+(x2-x1)*ab8 x1 y1 x2 y2 x3 y3 x4 y4,y1+(y2-y1)*ab8 x1 y1 x2 y2 x3 y3 x4 y4)]:=by
        unfold ab9;rw[if_pos hz,if_neg (by rintro (h | h | h | h)<;>contradiction)]
      exact aac.lit (l:=[(x1+(x2-x1)*ab8 x1 y1 x2 y2 x3 y3 x4 y4,y1+(y2-y1)*ab8 x1 y1 x2 y2 x3 y3 x4 y4)]) hm.symm b8
    · have hm:ab9 x1 y1 x2 y2 x3 y3 x4 y4=amX (aa4 x1 y1 x2 y2 x3 y3 x4 y4):=by
        unfold ab9;rw[if_neg hz]
      rw[hm];have hl:(adf x1 y1 x2 y2 x3 y3 x4 y4).length=4:=rfl;refine⟨⟨0,by omega,aac.refl _,aaf.lit (l:=adf x1 y1 x2 y2 x3 y3 x4 y4) (Nat.le_refl _),aaf.row rfl (λi hi=>absurd hi (Nat.not_lt_zero _)) (λi hi=>absurd hi (Nat.not_lt_zero _))⟩,λi hi=>⟨λhb=>⟨by omega,by omega,?_,?_⟩,λhb=> ?_⟩⟩
      · have hlt:i<4:=by omega
        have hw:aac (.s false [.v (.int .i64 (IntKind.i64.wrap ((i:Int)+1)))]) (.s false [.v (.int .i64 ((i+1:Nat):Int))]):=aac.wrap hlt (by omega);refine λh1=>⟨h1,λh2=>⟨⟨by omega,?_⟩,i+1,by omega,by omega,hw,?_⟩,λh2=>⟨i+1,by omega,by omega,hw,?_⟩⟩
        · have:=List.length_filter_le (on2 x1 y1 x2 y2 x3 y3 x4 y4) ((adf x1 y1 x2 y2 x3 y3 x4 y4).take i)
          rw[List.length_take] at this;omega
        · exact aaf.more (l:=adf x1 y1 x2 y2 x3 y3 x4 y4) (f:=on2 x1 y1 x2 y2 x3 y3 x4 y4) (i:=i) hlt (by unfold on2;rw[h1,h2];rfl)
        · exact aaf.same (l:=adf x1 y1 x2 y2 x3 y3 x4 y4) (f:=on2 x1 y1 x2 y2 x3 y3 x4 y4) (i:=i) hlt (by unfold on2;rw[h1,h2];rfl)
      · have hlt:i<4:=by omega
        have hw:aac (.s false [.v (.int .i64 (IntKind.i64.wrap ((i:Int)+1)))]) (.s false [.v (.int .i64 ((i+1:Nat):Int))]):=aac.wrap hlt (by omega);exact λh1=>⟨h1,i+1,by omega,by omega,hw,aaf.same (l:=adf x1 y1 x2 y2 x3 y3 x4 y4) (f:=on2 x1 y1 x2 y2 x3 y3 x4 y4) (i:=i) hlt (by unfold on2;rw[h1];rfl)⟩
      · have h4:i=4:=by omega
        subst h4;have ht:(adf x1 y1 x2 y2 x3 y3 x4 y4).take 4=adf x1 y1 x2 y2 x3 y3 x4 y4:=rfl;have hf:(adf x1 y1 x2 y2 x3 y3 x4 y4).filter (λp=>on2 x1 y1 x2 y2 x3 y3 x4 y4 p)=aa4 x1 y1 x2 y2 x3 y3 x4 y4:=rfl;have hf':(adf x1 y1 x2 y2 x3 y3 x4 y4).filter (on2 x1 y1 x2 y2 x3 y3 x4 y4)=aa4 x1 y1 x2 y2 x3 y3 x4 y4:=rfl;simp only[ht,hf];have hle:(aa4 x1 y1 x2 y2 x3 y3 x4 y4).length<=4:=by
          have:=List.length_filter_le (on2 x1 y1 x2 y2 x3 y3 x4 y4) (adf x1 y1 x2 y2 x3 y3 x4 y4);rw[hf'] at this;exact this
        have he:∀ h:(aa4 x1 y1 x2 y2 x3 y3 x4 y4).length≠0,amX (aa4 x1 y1 x2 y2 x3 y3 x4 y4)=if aaW (adU (aa4 x1 y1 x2 y2 x3 y3 x4 y4) (hdP (aa4 x1 y1 x2 y2 x3 y3 x4 y4))).1 (adU (aa4 x1 y1 x2 y2 x3 y3 x4 y4) (hdP (aa4 x1 y1 x2 y2 x3 y3 x4 y4))).2 (abU (aa4 x1 y1 x2 y2 x3 y3 x4 y4) (hdP (aa4 x1 y1 x2 y2 x3 y3 x4 y4))).1 (abU (aa4 x1 y1 x2 y2 x3 y3 x4 y4) (hdP (aa4 x1 y1 x2 y2 x3 y3 x4 y4))).2=0 then [adU (aa4 x1 y1 x2 y2 x3 y3 x4 y4) (hdP (aa4 x1 y1 x2 y2 x3 y3 x4 y4))] else [adU (aa4 x1 y1 x2 y2 x3 y3 x4 y4) (hdP (aa4 x1 y1 x2 y2 x3 y3 x4 y4)),abU (aa4 x1 y1 x2 y2 x3 y3 x4 y4) (hdP (aa4 x1 y1 x2 y2 x3 y3 x4 y4))]:=by
          intro h;unfold amX;rw[if_neg (λe=>h (by rw[e];rfl))];rfl
        generalize aa4 x1 y1 x2 y2 x3 y3 x4 y4=l at *;refine⟨λh0=>aac.one (CLe.nilrow (by have:l=[]:=List.eq_nil_of_length_eq_zero (by omega);rw[this];rfl)),λh0=>⟨by omega,by omega,by omega,by omega,⟨0,by omega,⟨aac.refl _,aac.refl _⟩,aaf.refl _,aaf.refl _,aaf.refl _⟩,λi hi=>⟨λhb=>⟨by omega,by omega,?_⟩,λhb=> ?_⟩⟩⟩
        · have hlt:i<l.length:=by omega
          have hw:aac (.s false [.v (.int .i64 (IntKind.i64.wrap ((i:Int)+1)))]) (.s false [.v (.int .i64 ((i+1:Nat):Int))]):=aac.wrap hlt (by omega);have hlo:=apm (o:=hdP l) hlt;have hhi:=amH (o:=hdP l) hlt;refine⟨λh1=>⟨λh2=>⟨i+1,by omega,by omega,hw,?_,?_⟩,λh2=>⟨i+1,by omega,by omega,hw,?_,?_⟩⟩,λh1=>⟨λh2=>⟨i+1,by omega,by omega,hw,?_,?_⟩,λh2=>⟨i+1,by omega,by omega,hw,?_,?_⟩⟩⟩
          · rw[hlo,if_pos h1];exact aaf.refl _
          · rw[hhi,if_pos h2];exact aaf.refl _
          · rw[hlo,if_pos h1];exact aaf.refl _
          · rw[hhi,if_neg h2];exact aaf.refl _
          · rw[hlo,if_neg h1];exact aaf.refl _
          · rw[hhi,if_pos h2];exact aaf.refl _
          · rw[hlo,if_neg h1];exact aaf.refl _
          · rw[hhi,if_neg h2];exact aaf.refl _
        · have hi':l.take i=l:=List.take_of_length_le (by omega)
          rw[hi',he (by omega)];refine⟨λh=> ?_,λh=> ?_⟩
          · rw[if_pos h]
            exact aac.lit (l:=[adU l (hdP l)]) rfl bs
          · rw[if_neg h]
            exact aac.lit (l:=[adU l (hdP l),abU l (hdP l)]) rfl bs
  · cases h
end Go.Proofs.YtcmplpkmfbhpdaaGreat
namespace Go.Proofs.YtcmplpkmfbhpdaaGreat
open Go Go.RowKit
theorem avg (x y:Int):vc Tryz.prog (lk gA) Tryz.f108.ntmps [] (Tryz.f108.body.getD .skip) ⟨aao [.s true [.v (.int .i64 x),.v (.int .i64 y)]] 0,[]⟩ (aaH Tryz.prog Tryz.f108.results.toList (.s true (qsC [((x:Rat),3),((y:Rat),3)])))=(abB x/\aan [aaa.z x 2 0,aaa.z x 2 1] [aaa.z x 2 0,aaa.z x 2 1]/\abB y/\aan [aaa.z y 2 0,aaa.z y 2 1] [aaa.z y 2 0,aaa.z y 2 1]/\SmA (AV.s true (qsC [((↑x:Rat),3),((↑y:Rat),3)]))):=by kernel_rfl
def atz:abF
 |[.o (.s true [.v (.int .i64 x),.v (.int .i64 y)])]=>some (.s true (qsC [((x:Rat),3),((y:Rat),3)]),[abB x/\abB y])
 |_=>none
theorem avh (B:Nat):aai Tryz.prog False B 108 (aaF atz):=by
 refine aam (c:=Tryz.f108.body.getD .skip) (aau (atD)) (by kernel_rfl) Tryz.func108 (by kernel_rfl) (by kernel_rfl) ?_ B;intro pvs av ps h hp;unfold atz at h;split at h
 ·rename_i x y;cases h;obtain⟨⟨h1,h2⟩,-⟩:=hp;refine⟨[.s true [.v (.int .i64 x),.v (.int .i64 y)]],[],aaj.refl _,by rw[Tryz.ntmps108];simp,?_⟩;rw[avg];simp only[SmA,aaZ,aaP,true_and,and_true];exact⟨h1,h2⟩
 ·cases h
end Go.Proofs.YtcmplpkmfbhpdaaGreat
