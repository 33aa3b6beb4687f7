/-
  Walks by reckoning: what frac's functions leave.
-/
import Derived.Test.YtmagoiniahpofaaGreatSyC
import Derived.Test.YtmagoiniahpofaaGreatGX
import Derived.Test.YtmagoiniahpofaaGreatRfN
namespace Go.Proofs.YtmagoiniahpofaaGreat
open Go Go.RowKit
def qC (x:Rat) (s:Nat):List Cell:=[.q x s 0,.q x s 1,.q x s 2,.q x s 3]
def zC (x:Int) (s:Nat):List Cell:=[.z x s 0,.z x s 1]
section
variable {G:Nat→GV} {F:Nat→Prop} {w:World}
theorem q_of {v:Value} {x:Rat} {s:Nat} (h:RIs w v x) (hs:rl x≤s):AV.ok (GOk G F w) (.s true (qC x s)) v:=by
 obtain⟨cs,rfl,c1,c2,D,rfl,⟨a,rfl,h1⟩,⟨b,rfl,h2⟩,h3⟩:=h
 refine⟨_,rfl,rfl,fun i c v h4 h5=> ?_⟩
 have hD:D.natAbs=x.den∨(D.natAbs=0∧x.den=1):=by
  rcases h3 with rfl | ⟨rfl,h⟩
  ·exact .inl (Int.natAbs_natCast _)
  ·exact .inr ⟨rfl,h⟩
 have hneg:decide (D<0)=false:=by
  rcases h3 with rfl | ⟨rfl,_⟩
  ·simp
  ·rfl
 match i,h4,h5 with
 |0,h4,h5=>cases h4;cases h5;exact GOk.of (.q ⟨a,rfl,h1⟩ hs)
 |1,h4,h5=>cases h4;cases h5;exact GOk.of (.q rfl hs)
 |2,h4,h5=>cases h4;cases h5;exact GOk.of (.q ⟨b,D.natAbs,rfl,h2,hD⟩ hs)
 |3,h4,h5=>cases h4;cases h5;rw[hneg];exact GOk.of (.q rfl hs)
theorem q_to {v:Value} {x:Rat} {s:Nat} (h:AV.ok (GOk G F w) (.s true (qC x s)) v):RIs w v x∧rl x≤s:=by
 obtain⟨cs,rfl,h1,h2⟩:=h
 match cs,h1 with
 |[v0,v1,v2,v3],_=>
  have k0:COk F w (.q x s 0) v0:=h2 0 _ _ rfl rfl
  have k1:COk F w (.q x s 1) v1:=h2 1 _ _ rfl rfl
  have k2:COk F w (.q x s 2) v2:=h2 2 _ _ rfl rfl
  have k3:COk F w (.q x s 3) v3:=h2 3 _ _ rfl rfl
  cases k0 with
  |q k0 hs=>cases k1 with
   |q k1 _=>cases k2 with
    |q k2 _=>cases k3 with
     |q k3 _=>
      obtain⟨a,rfl,q0⟩:=k0
      have k1':v1= .bool (decide (x.num<0)):=k1
      obtain⟨b,D,rfl,q2,q3⟩:=k2
      have k3':v3= .bool false:=k3
      subst k1' k3'
      refine⟨⟨_,rfl,[_,_],[_,_],(D:Int),rfl,⟨a,rfl,q0⟩,⟨b,?_,by simpa using q2⟩,?_⟩,hs⟩
      ·simp
      ·rcases q3 with rfl | ⟨rfl,h⟩
       ·exact .inl rfl
       ·exact .inr ⟨rfl,h⟩
theorem z_of {v:Value} {x:Int} {s:Nat} (h:ZIs w v x) (hs:(limbs x.natAbs).length≤s):AV.ok (GOk G F w) (.s true (zC x s)) v:=by
 obtain⟨cs,rfl,a,rfl,h1⟩:=h
 refine⟨_,rfl,rfl,fun i c v h4 h5=> ?_⟩
 match i,h4,h5 with
 |0,h4,h5=>cases h4;cases h5;exact GOk.of (.z ⟨a,rfl,h1⟩ hs)
 |1,h4,h5=>cases h4;cases h5;exact GOk.of (.z rfl hs)
theorem z_to {v:Value} {x:Int} {s:Nat} (h:AV.ok (GOk G F w) (.s true (zC x s)) v):ZIs w v x∧(limbs x.natAbs).length≤s:=by
 obtain⟨cs,rfl,h1,h2⟩:=h
 match cs,h1 with
 |[v0,v1],_=>
  have k0:COk F w (.z x s 0) v0:=h2 0 _ _ rfl rfl
  have k1:COk F w (.z x s 1) v1:=h2 1 _ _ rfl rfl
  cases k0 with
  |z k0 hs=>cases k1 with
   |z k1 _=>
    obtain⟨a,rfl,q0⟩:=k0
    have k1':v1= .bool (decide (x<0)):=k1
    subst k1'
    exact⟨⟨_,rfl,a,rfl,q0⟩,hs⟩
end
def asQ:AV→Option (Rat × Nat × Prop)
 | .s true l=>match l with
  |[.q x s _,.q _ _ _,.q _ _ _,.q _ _ _]=>some (x,s,CsLe l (qC x s))
  |[.v (.slice none 0 0),.f,.v (.slice none 0 0),.f]=>some (0,1,CsLe l (qC 0 1))
  |_=>none
 |_=>none
def asZ:AV→Option (Int × Nat × Prop)
 | .s true l=>match l with
  |[.z x s _,.z _ _ _]=>some (x,s,CsLe l (zC x s))
  |_=>none
 |_=>none
theorem asQ_ok {av:AV} {x:Rat} {s:Nat} {p:Prop} (h:asQ av=some (x,s,p)) (hp:p):AVle av (.s true (qC x s)):=by
 unfold asQ at h
 split at h
 ·split at h
  ·cases h;exact AVle.s hp
  ·cases h;exact AVle.s hp
  ·cases h
 ·cases h
theorem asZ_ok {av:AV} {x:Int} {s:Nat} {p:Prop} (h:asZ av=some (x,s,p)) (hp:p):AVle av (.s true (zC x s)):=by
 unfold asZ at h
 split at h
 ·split at h
  ·cases h;exact AVle.s hp
  ·cases h
 ·cases h
theorem runOK_pure {P:Program} {D:Prop} {B:Nat} {f:FuncId} {run:List AV→Option (AV × List Prop)} (hc:callable P f=true)
  (H:∀ (avs:List AV) (spec:AV) (ps:List Prop),run avs=some (spec,ps)→allP ps→∀ (G:Nat→GV) (F:Nat→Prop) (w:World) (vs:List Value),AvsOk (GOk G F w) avs vs→
   Calls P f vs.toArray w fun e w'=>∃ r,e= .returned r∧(∀ F',spec.ok (GOk G F' w') r)∧OwnD D w.heap.size w w') :
  RunOK P D B f fun _ avs _=>match run avs with
   |some (av,ps)=>some { val:=some av,ps:=ps }
   |none=>none:=by
 refine⟨hc,fun b avs t e hr hp G F w vs V hvs=> ?_⟩
 simp only at hr
 split at hr
 ·rename_i av ps hav
  cases hr
  refine (H avs av ps hav hp G F w vs hvs).mono ?_
  rintro en w' ⟨r,rfl,h1,h2⟩
  refine⟨r,rfl,G,F,fun _ _=>rfl,fun _ _=>rfl,fun _ h=>h,fun _ h=> .inl h,fun g hg=>Nat.lt_of_lt_of_le (V.fl g hg) h2.b.size,h2.b.os,h2.b.tape,h2.b.output,h2.b.size,h2.d,keep_grown (grown_of_below h2.b none),fun g hg _=>h2.b.block g hg,fun av' hav'=> ?_,fun k b' hs=>(by cases hs),fun k k' b' b2 hs=>by cases hs⟩
  cases hav'
  exact h1 F
 ·cases hr
def qq (f:Rat→Rat→Rat) (g:Nat→Nat→Nat) (k:Nat):Run:=fun _ avs _=>match (match avs with
  |[u,v]=>match asQ u,asQ v with
   |some (x,s,p),some (y,t,q)=>some (AV.s true (qC (f x y) (g s t)),[p,q,s≤k∧t≤k])
   |_,_=>none
  |_=>none:Option (AV × List Prop)) with
   |some (av,ps)=>some { val:=some av,ps:=ps }
   |none=>none
theorem qq_ok {P:Program} {D:Prop} {B:Nat} {fn:FuncId} {f:Rat→Rat→Rat} {g:Nat→Nat→Nat} {k:Nat} (hc:callable P fn=true)
  (hg:∀ x y s t,rl x≤s→rl y≤t→rl (f x y)≤g s t)
  (H:∀ (x y:Rat) (v u:Value) (w:World),RIs w v x→RIs w u y→rl x≤k→rl y≤k→Calls P fn #[v,u] w fun e w'=>∃ r,e= .returned r∧RIs w' r (f x y)∧OwnD D w.heap.size w w'):RunOK P D B fn (qq f g k):=by
 refine runOK_pure hc fun avs spec ps hr hp G F w vs hvs=> ?_
 split at hr
 ·rename_i u v
  split at hr
  ·rename_i x s p y t q hx hy
   cases hr
   obtain⟨h1,h2,h3,_⟩:=hp
   match vs,hvs with
   |[a,b],hvs=>
    obtain⟨k1,k2⟩:=q_to ((asQ_ok hx h1).h _ _ _ _ (hvs.2 0 _ a rfl rfl))
    obtain⟨k3,k4⟩:=q_to ((asQ_ok hy h2).h _ _ _ _ (hvs.2 1 _ b rfl rfl))
    refine (H x y a b w k1 k3 (Nat.le_trans k2 h3.1) (Nat.le_trans k4 h3.2)).mono ?_
    rintro e w' ⟨r,rfl,h5,h6⟩
    exact⟨r,rfl,fun F'=>q_of h5 (hg x y s t k2 k4),h6⟩
   |[],hvs=>cases hvs.1
   |[_],hvs=>cases hvs.1
   |_::_::_::_,hvs=>cases hvs.1
  ·cases hr
 ·cases hr
end Go.Proofs.YtmagoiniahpofaaGreat
namespace Go.Proofs.YtmagoiniahpofaaGreat
open Go Go.RowKit
theorem kktz {q:Rat} (w w':World) (v:Value) (k:KK w w'):(∃ r,v= .tuple #[r,.int .i64 0]∧RIs w r q)→∃ r,v= .tuple #[r,.int .i64 0]∧RIs w' r q:=by
 rintro⟨r,rfl,h⟩
 exact⟨r,rfl,h.keep k.1⟩
theorem rz_cs {w:World} {cs:List Value} {q:Rat} (h:RIs w (.agg cs.toArray) q):∃ (a:Option Addr) (n:Nat) (b:Bool) (c:Option Addr) (m:Nat) (d:Bool),cs=[.slice a n n,.bool b,.slice c m m,.bool d]:=by
 obtain⟨a,n,b,c,m,d,e⟩:=h.parts
 simp only[Value.agg.injEq] at e
 exact⟨a,n,b,c,m,d,congrArg Array.toList e⟩
set_option maxHeartbeats 8000000 in
set_option maxRecDepth 100000 in
set_option maxHeartbeats 4000000 in
set_option maxRecDepth 100000 in
theorem fdiv_any (q p:Rat) (v u:Value) (w:World) (hv:RIs w v q) (hu:RIs w u p) (hq:rlen q≤100000) (hp:rlen p≤100000) (hp0:p≠0) :
  Calls Tryz.prog 28 #[v,u] w fun e w'=>∃ r,e= .returned (.tuple #[r,.int .i64 0])∧RIs w' r (q/p)∧Below w.heap.size w w':=by
 obtain⟨a1,n1,b1,c1,m1,d1,rfl⟩:=hv.parts
 obtain⟨a2,n2,b2,c2,m2,d2,rfl⟩:=hu.parts
 have HV:=Lib.hid hv
 have HU:=Lib.hid hu
 have HN1:=Lib.hid (r_parts hv).1
 have HN2:=Lib.hid (r_parts hu).1
 have HDP:Hid ((limbs p.den).length≤1000000):=Lib.hid (by unfold rlen at hp;omega)
 have HDQ:Hid ((limbs q.den).length≤1000000):=Lib.hid (by unfold rlen at hq;omega)
 have HL1:Hid ((limbs q.num.natAbs).length≤400000):=Lib.hid (by unfold rlen at hq;omega)
 have HL2:Hid ((limbs ((p.den:Nat):Int).natAbs).length≤400000):=Lib.hid (by rw[Int.natAbs_natCast];unfold rlen at hp;omega)
 have HL3:Hid ((limbs ((q.den:Nat):Int).natAbs).length≤400000):=Lib.hid (by rw[Int.natAbs_natCast];unfold rlen at hq;omega)
 have HL4:Hid ((limbs p.num.natAbs).length≤400000):=Lib.hid (by unfold rlen at hp;omega)
 have HL5:Hid ((limbs (q.num*(p.den:Int)).natAbs).length≤800000):=Lib.hid (by have h:=limbs_mulZ q.num (p.den:Int);have:=HL1.out;have:=HL2.out;omega)
 have HL6:Hid ((limbs ((q.den:Int)*p.num).natAbs).length≤800000):=Lib.hid (by have h:=limbs_mulZ (q.den:Int) p.num;have:=HL3.out;have:=HL4.out;omega)
 have HNZ:Hid ((q.den:Int)*p.num≠0):=Lib.hid (Int.mul_ne_zero (den_ne q) (fun e=>hp0 (Rat.num_eq_zero.1 e)))
 have HB0:Hid (BlkC 37 (((w.alloc (.cells #[.slice a1 n1 n1,.bool b1,.slice c1 m1 m1,.bool d1] 37)).alloc (.cells #[.slice a2 n2 n2,.bool b2,.slice c2 m2 m2,.bool d2] 37)).alloc (.cells #[.slice none 0 0,.bool false,.slice none 0 0,.bool false] 37)) w.heap.size [.slice a1 n1 n1,.bool b1,.slice c1 m1 m1,.bool d1]):=((BlkC.new _ w [.slice a1 n1 n1,.bool b1,.slice c1 m1 m1,.bool d1]).still (grown_alloc _ _ none)).still (grown_alloc _ _ none)
 have HB1:Hid (BlkC 37 (((w.alloc (.cells #[.slice a1 n1 n1,.bool b1,.slice c1 m1 m1,.bool d1] 37)).alloc (.cells #[.slice a2 n2 n2,.bool b2,.slice c2 m2 m2,.bool d2] 37)).alloc (.cells #[.slice none 0 0,.bool false,.slice none 0 0,.bool false] 37)) (w.heap.size+1) [.slice a2 n2 n2,.bool b2,.slice c2 m2 m2,.bool d2]):=(blk_at (cs:=[.slice a2 n2 n2,.bool b2,.slice c2 m2 m2,.bool d2]) (by simp)).still (grown_alloc _ _ none)
 have HB2:Hid (BlkC 37 (((w.alloc (.cells #[.slice a1 n1 n1,.bool b1,.slice c1 m1 m1,.bool d1] 37)).alloc (.cells #[.slice a2 n2 n2,.bool b2,.slice c2 m2 m2,.bool d2] 37)).alloc (.cells #[.slice none 0 0,.bool false,.slice none 0 0,.bool false] 37)) (w.heap.size+1+1) [.slice none 0 0,.bool false,.slice none 0 0,.bool false]):=blk_at (cs:=[.slice none 0 0,.bool false,.slice none 0 0,.bool false]) (by simp)
 have HG:Hid (Own w.heap.size w (((w.alloc (.cells #[.slice a1 n1 n1,.bool b1,.slice c1 m1 m1,.bool d1] 37)).alloc (.cells #[.slice a2 n2 n2,.bool b2,.slice c2 m2 m2,.bool d2] 37)).alloc (.cells #[.slice none 0 0,.bool false,.slice none 0 0,.bool false] 37))):=((own_alloc _ _).alloc (by simp) _).alloc (by simp;omega) _
 clear hv hu hq hp hp0
 have mixed:Tryz.prog.follows .mixedOrders=true:=by kernel_rfl
 go_enter Tryz.func28,Tryz.ntmps28
 go_wp2_with fail
 refine region_kk (by kernel_rfl) (by kernel_rfl) rfl (KK) (fun | 0=> .is (.pointer (some ⟨w.heap.size,0,none⟩)) | 1=> .is (.agg #[.slice a1 n1 n1,.bool b1]) | 2=> .is (.agg #[.slice a2 n2 n2,.bool b2,.slice c2 m2 m2,.bool d2]) | 3=> .p ((fun W v=>ZIs W v ((p.den:Int)))) kkz | 4=> .p ((fun W v=>ZIs W v (q.num*(p.den:Int)))) kkz | 5=> .is (.agg #[.slice a1 n1 n1,.bool b1,.slice c1 m1 m1,.bool d1]) | 6=> .p ((fun W v=>ZIs W v ((q.den:Int)))) kkz | 7=> .is (.pointer (some ⟨(w.heap.size+1),0,none⟩)) | 8=> .is (.agg #[.slice a2 n2 n2,.bool b2]) | 9=> .p ((fun W v=>ZIs W v ((q.den:Int)*p.num))) kkz | 10=> .p ((fun W v=>∃ r,v= .tuple #[r,.int .i64 0]∧RIs W r (q/p))) kktz | 11=> .p ((fun W v=>RIs W v (q/p))) kkr | 12=> .is (.int .i64 0) | 13=> .any | 14=> .is (.int .i64 0) | _=> .any) (MK w.heap.size w w [(37,w.heap.size,[.slice a1 n1 n1,.bool b1,.slice c1 m1 m1,.bool d1]),(37,(w.heap.size+1),[.slice a2 n2 n2,.bool b2,.slice c2 m2 m2,.bool d2])] [tgK 4 none 13 37 4 (fun W v=>RIs W v (q/p)) kkr]) (fun f g a w hn h=>MK.ext (n:=15) (by simp) hn h) ?_ ?_ ?_
 ·refine⟨HG.out.b.drew,kk_below HG.out.b.drew,HG.out.size,(by intro q hq;simp only[List.mem_cons,List.not_mem_nil,or_false] at hq;rcases hq with rfl | rfl;exact HB0.out;exact HB1.out),?_,?_⟩
  ·intro t ht h
   simp only[List.mem_cons,List.not_mem_nil,or_false] at ht
   rcases ht with rfl
   ·exact⟨(w.heap.size+1+1),_,rfl,by omega,HB2.out,rfl,by intro q hq;simp only[List.mem_cons,List.not_mem_nil,or_false] at hq;rcases hq with rfl | rfl<;>(simp<;>omega)⟩
  ·intro t u ht hu hd h h'
   simp only[List.mem_cons,List.not_mem_nil,or_false] at ht hu
   subst ht
   subst hu
   exact absurd rfl hd
 ·intro i o f A W hi hJ hf hdep hdn hcl hfr hsz
  rcases i with _ | _ | _ | _ | _ | _ | _ | _ | _ | _ | _ | _ | _ | _ | _ | i
  all_goals (simp at hi)
  all_goals (try subst hi)
  ·have t2:=hfr 2 (by simp)
   refine par_value (v:= .pointer (some ⟨w.heap.size,0,none⟩)) (w':=W) ?_ ⟨KK.refl _,hJ.same _ _ _ (by simp),rfl⟩
   simp[go_sem,Act.eval,t2]
  ·have t6:A.tmps.getD 6 undef= .pointer (some ⟨w.heap.size,0,none⟩):=hdep 0 _ 6 rfl (by kernel_rfl) rfl
   have hb0:BlkC 37 W w.heap.size [.slice a1 n1 n1,.bool b1,.slice c1 m1 m1,.bool d1]:=hJ.kept (37,w.heap.size,[.slice a1 n1 n1,.bool b1,.slice c1 m1 m1,.bool d1]) (by simp)
   have x00:W.cell? ⟨w.heap.size,0,none⟩=some (.slice a1 n1 n1):=by rw[hb0.cell 0];rfl
   have x01:W.cell? ⟨w.heap.size,1,none⟩=some (.bool b1):=by rw[hb0.cell 1];rfl
   have x02:W.cell? ⟨w.heap.size,2,none⟩=some (.slice c1 m1 m1):=by rw[hb0.cell 2];rfl
   have x03:W.cell? ⟨w.heap.size,3,none⟩=some (.bool d1):=by rw[hb0.cell 3];rfl
   refine par_value (v:= .agg #[.slice a1 n1 n1,.bool b1]) (w':=W) ?_ ⟨KK.refl _,hJ.same _ _ _ (by simp),rfl⟩
   simp[go_sem,Act.eval,t6,x00,x01]
  ·have t3:=hfr 3 (by simp)
   have hb1:BlkC 37 W (w.heap.size+1) [.slice a2 n2 n2,.bool b2,.slice c2 m2 m2,.bool d2]:=hJ.kept (37,(w.heap.size+1),[.slice a2 n2 n2,.bool b2,.slice c2 m2 m2,.bool d2]) (by simp)
   have x10:W.cell? ⟨(w.heap.size+1),0,none⟩=some (.slice a2 n2 n2):=by rw[hb1.cell 0];rfl
   have x11:W.cell? ⟨(w.heap.size+1),1,none⟩=some (.bool b2):=by rw[hb1.cell 1];rfl
   have x12:W.cell? ⟨(w.heap.size+1),2,none⟩=some (.slice c2 m2 m2):=by rw[hb1.cell 2];rfl
   have x13:W.cell? ⟨(w.heap.size+1),3,none⟩=some (.bool d2):=by rw[hb1.cell 3];rfl
   refine par_value (v:= .agg #[.slice a2 n2 n2,.bool b2,.slice c2 m2 m2,.bool d2]) (w':=W) ?_ ⟨KK.refl _,hJ.same _ _ _ (by simp),rfl⟩
   simp[go_sem,Act.eval,t3,x10,x11,x12,x13]
  ·have t8:A.tmps.getD 8 undef= .agg #[.slice a2 n2 n2,.bool b2,.slice c2 m2 m2,.bool d2]:=hdep 2 _ 8 rfl (by kernel_rfl) rfl
   refine par_call (w':=W) (f:=40) (xs:= #[Value.agg #[.slice a2 n2 n2,.bool b2,.slice c2 m2 m2,.bool d2]]) (by simp[go_sem,Act.eval,t8]) ?_
   refine (den_any p _ _ (kkr _ _ _ hJ.k HU.out) HDP.out).mono ?_
   rintro e w1 ⟨r,rfl,hr,hg1⟩
   exact⟨r,rfl,kk_below hg1.b,hJ.gr hg1.b _ _ _ (by simp),hr⟩
  ·have t7:A.tmps.getD 7 undef= .agg #[.slice a1 n1 n1,.bool b1]:=hdep 1 _ 7 rfl (by kernel_rfl) rfl
   have t9:(fun W v=>ZIs W v ((p.den:Int))) W (A.tmps.getD 9 undef):=hdep 3 _ 9 rfl (by kernel_rfl) rfl
   refine par_call (w':=W) (f:=39) (xs:= #[Value.agg #[.slice a1 n1 n1,.bool b1],A.tmps.getD 9 undef]) (by simp[go_sem,Act.eval,t7]) ?_
   refine (mulZ_any q.num (p.den:Int) _ _ _ (kkz _ _ _ hJ.k HN1.out) t9 HL1.out HL2.out).mono ?_
   rintro e w1 ⟨r,rfl,hr,hg1⟩
   exact⟨r,rfl,kk_below hg1.b,hJ.gr hg1.b _ _ _ (by simp),hr⟩
  ·have t2:=hfr 2 (by simp)
   have hb0:BlkC 37 W w.heap.size [.slice a1 n1 n1,.bool b1,.slice c1 m1 m1,.bool d1]:=hJ.kept (37,w.heap.size,[.slice a1 n1 n1,.bool b1,.slice c1 m1 m1,.bool d1]) (by simp)
   have x00:W.cell? ⟨w.heap.size,0,none⟩=some (.slice a1 n1 n1):=by rw[hb0.cell 0];rfl
   have x01:W.cell? ⟨w.heap.size,1,none⟩=some (.bool b1):=by rw[hb0.cell 1];rfl
   have x02:W.cell? ⟨w.heap.size,2,none⟩=some (.slice c1 m1 m1):=by rw[hb0.cell 2];rfl
   have x03:W.cell? ⟨w.heap.size,3,none⟩=some (.bool d1):=by rw[hb0.cell 3];rfl
   refine par_value (v:= .agg #[.slice a1 n1 n1,.bool b1,.slice c1 m1 m1,.bool d1]) (w':=W) ?_ ⟨KK.refl _,hJ.same _ _ _ (by simp),rfl⟩
   simp[go_sem,Act.eval,t2,x00,x01,x02,x03]
  ·have t11:A.tmps.getD 11 undef= .agg #[.slice a1 n1 n1,.bool b1,.slice c1 m1 m1,.bool d1]:=hdep 5 _ 11 rfl (by kernel_rfl) rfl
   refine par_call (w':=W) (f:=40) (xs:= #[Value.agg #[.slice a1 n1 n1,.bool b1,.slice c1 m1 m1,.bool d1]]) (by simp[go_sem,Act.eval,t11]) ?_
   refine (den_any q _ _ (kkr _ _ _ hJ.k HV.out) HDQ.out).mono ?_
   rintro e w1 ⟨r,rfl,hr,hg1⟩
   exact⟨r,rfl,kk_below hg1.b,hJ.gr hg1.b _ _ _ (by simp),hr⟩
  ·have t3:=hfr 3 (by simp)
   refine par_value (v:= .pointer (some ⟨(w.heap.size+1),0,none⟩)) (w':=W) ?_ ⟨KK.refl _,hJ.same _ _ _ (by simp),rfl⟩
   simp[go_sem,Act.eval,t3]
  ·have t13:A.tmps.getD 13 undef= .pointer (some ⟨(w.heap.size+1),0,none⟩):=hdep 7 _ 13 rfl (by kernel_rfl) rfl
   have hb1:BlkC 37 W (w.heap.size+1) [.slice a2 n2 n2,.bool b2,.slice c2 m2 m2,.bool d2]:=hJ.kept (37,(w.heap.size+1),[.slice a2 n2 n2,.bool b2,.slice c2 m2 m2,.bool d2]) (by simp)
   have x10:W.cell? ⟨(w.heap.size+1),0,none⟩=some (.slice a2 n2 n2):=by rw[hb1.cell 0];rfl
   have x11:W.cell? ⟨(w.heap.size+1),1,none⟩=some (.bool b2):=by rw[hb1.cell 1];rfl
   have x12:W.cell? ⟨(w.heap.size+1),2,none⟩=some (.slice c2 m2 m2):=by rw[hb1.cell 2];rfl
   have x13:W.cell? ⟨(w.heap.size+1),3,none⟩=some (.bool d2):=by rw[hb1.cell 3];rfl
   refine par_value (v:= .agg #[.slice a2 n2 n2,.bool b2]) (w':=W) ?_ ⟨KK.refl _,hJ.same _ _ _ (by simp),rfl⟩
   simp[go_sem,Act.eval,t13,x10,x11]
  ·have t12:(fun W v=>ZIs W v ((q.den:Int))) W (A.tmps.getD 12 undef):=hdep 6 _ 12 rfl (by kernel_rfl) rfl
   have t14:A.tmps.getD 14 undef= .agg #[.slice a2 n2 n2,.bool b2]:=hdep 8 _ 14 rfl (by kernel_rfl) rfl
   refine par_call (w':=W) (f:=39) (xs:= #[A.tmps.getD 12 undef,Value.agg #[.slice a2 n2 n2,.bool b2]]) (by simp[go_sem,Act.eval,t14]) ?_
   refine (mulZ_any (q.den:Int) p.num _ _ _ t12 (kkz _ _ _ hJ.k HN2.out) HL3.out HL4.out).mono ?_
   rintro e w1 ⟨r,rfl,hr,hg1⟩
   exact⟨r,rfl,kk_below hg1.b,hJ.gr hg1.b _ _ _ (by simp),hr⟩
  ·have t10:(fun W v=>ZIs W v (q.num*(p.den:Int))) W (A.tmps.getD 10 undef):=hdep 4 _ 10 rfl (by kernel_rfl) rfl
   have t15:(fun W v=>ZIs W v ((q.den:Int)*p.num)) W (A.tmps.getD 15 undef):=hdep 9 _ 15 rfl (by kernel_rfl) rfl
   refine par_call (w':=W) (f:=51) (xs:= #[A.tmps.getD 10 undef,A.tmps.getD 15 undef]) (by simp[go_sem,Act.eval]) ?_
   refine (make_any (q.num*(p.den:Int)) ((q.den:Int)*p.num) _ _ _ t10 t15 HL5.out HL6.out HNZ.out).mono ?_
   rintro e w1 ⟨r,rfl,hr,hg1⟩
   exact⟨_,rfl,kk_below hg1,hJ.gr hg1 _ _ _ (by simp),⟨r,rfl,(div_frac q p) ▸ hr⟩⟩
  ·have t16:(fun W v=>∃ r,v= .tuple #[r,.int .i64 0]∧RIs W r (q/p)) W (A.tmps.getD 16 undef):=hdep 10 _ 16 rfl (by kernel_rfl) rfl
   obtain⟨r0,e0,h0⟩:=t16
   refine par_value (v:=r0) (w':=W) ?_ ⟨KK.refl _,hJ.same _ _ _ (by simp),h0⟩
   simp[go_sem,Act.eval,e0]
  ·have t16:(fun W v=>∃ r,v= .tuple #[r,.int .i64 0]∧RIs W r (q/p)) W (A.tmps.getD 16 undef):=hdep 10 _ 16 rfl (by kernel_rfl) rfl
   obtain⟨r0,e0,h0⟩:=t16
   refine par_value (v:= .int .i64 0) (w':=W) ?_ ⟨KK.refl _,hJ.same _ _ _ (by simp),rfl⟩
   simp[go_sem,Act.eval,e0]
  ·have t17:(fun W v=>RIs W v (q/p)) W (A.tmps.getD 17 undef):=hdep 11 _ 17 rfl (by kernel_rfl) rfl
   obtain⟨g9,cs9,hp9,hb9,hk9⟩:=hJ.ahead (t0:=tgK 4 none 13 37 4 (fun W v=>RIs W v (q/p)) kkr) (by simp) (fun j hj=>by cases hj) hf
   obtain⟨y0,y1,y2,y3,rfl⟩:=len4 hk9
   obtain⟨a8,n8,b8,c8,m8,d8,e8⟩:=t17.parts
   have hv8:=t17
   rw[e8] at hv8
   have hst:StK 37 W g9 _ [.slice a8 n8 n8,.bool b8,.slice c8 m8 m8,.bool d8]:=(((StK.one (T:=37) hb9 ⟨by decide,by decide⟩ 0 (.slice a8 n8 n8)).more ⟨by decide,by decide⟩ 1 (.bool b8)).more ⟨by decide,by decide⟩ 2 (.slice c8 m8 m8)).more ⟨by decide,by decide⟩ 3 (.bool d8)
   have hcell:=hb9.cell
   have hfree:=hb9.free
   refine par_skip ?_ ⟨hst.kk,hJ.put 13 undef (by simp) (fun j hj=>by cases hj) rfl hp9 hst.gr hst.kk hst.bb (kkr _ _ _ hst.kk hv8) (by simp) (by simp),trivial⟩
   simp[go_sem,Act.eval,hp9,e8,hcell,hfree]
  ·have t18:A.tmps.getD 18 undef= .int .i64 0:=hdep 12 _ 18 rfl (by kernel_rfl) rfl
   refine par_value (v:= .int .i64 0) (w':=W) ?_ ⟨KK.refl _,hJ.same _ _ _ (by simp),rfl⟩
   simp[go_sem,Act.eval,t18]
 ·intro vs W hJ hs
  obtain⟨gA,csA,pA,_,bA,kA,_⟩:=hJ.at' (tgK 4 none 13 37 4 (fun W v=>RIs W v (q/p)) kkr) (by simp) (fun j hj=>by cases hj)
  have eA:gA=(w.heap.size+1+1):=ptr_eq (by simpa[putAll,Act.put] using pA)
  subst eA
  have kA':RIs W (.agg csA.toArray) (q/p):=kA
  obtain⟨a8,n8,b8,c8,m8,d8,rfl⟩:=rz_cs kA'
  have HB9:Hid (BlkC 37 W (w.heap.size+1+1) _):=bA
  have HR9:Hid (RIs W (.agg _) (q/p)):=kA'
  have HL9:Hid (Below w.heap.size w W):=hJ.b
  have e5:vs 5= .int .i64 0:=hs 14 _ _ rfl rfl
  clear pA bA kA kA' hJ hs
  simp only[putAll,List.foldl_cons,List.foldl_nil,Act.put,List.setIfInBounds_toArray,List.set_cons_succ,List.set_cons_zero]
  rw[e5]
  go_wp2_with fail
  exact blk_ret2 (T:=37) rfl (by kernel_rfl) rfl rfl HB9.out ⟨_,rfl,HR9.out,HL9.out⟩
end Go.Proofs.YtmagoiniahpofaaGreat
namespace Go.Proofs.YtmagoiniahpofaaGreat
open Go Go.RowKit
theorem own_below {w w':World} (h:Below w.heap.size w w'):OwnD False w.heap.size w w':=⟨h,fun h=>h.elim⟩
theorem own_own {D:Prop} {w w':World} (h:Own w.heap.size w w'):OwnD D w.heap.size w w':=⟨h.b,fun _=>h.d⟩
def mulS (s t:Nat):Nat:=s+t
def addS (s t:Nat):Nat:=s+t+1
def mulC:Run:=qq (fun x y=>x*y) mulS 50000
def addC:Run:=qq (fun x y=>x+y) addS 50000
def subC:Run:=qq (fun x y=>x-y) addS 50000
theorem mulC_ok (B:Nat):RunOK Tryz.prog False B 25 mulC:=by
 refine qq_ok (by kernel_rfl) (fun x y s t hs ht=> ?_) fun x y v u w h1 h2 h3 h4=>(rmul_any x y v u w h1 h2 (by have:=rl_len h3;omega) (by have:=rl_len h4;omega)).mono ?_
 ·have:=rl_mul x y;unfold mulS;omega
 ·rintro e w' ⟨r,h5,h6,h7⟩;exact⟨r,h5,h6,own_below h7⟩
theorem addC_ok (B:Nat):RunOK Tryz.prog False B 48 addC:=by
 refine qq_ok (by kernel_rfl) (fun x y s t hs ht=> ?_) fun x y v u w h1 h2 h3 h4=>(add_any x y v u w h1 h2 (by have:=rl_len h3;omega) (by have:=rl_len h4;omega)).mono ?_
 ·have:=rl_add x y;unfold addS;omega
 ·rintro e w' ⟨r,h5,h6,h7⟩;exact⟨r,h5,h6,own_below h7⟩
theorem subC_ok (B:Nat):RunOK Tryz.prog False B 26 subC:=by
 refine qq_ok (by kernel_rfl) (fun x y s t hs ht=> ?_) fun x y v u w h1 h2 h3 h4=>(rsub_any x y v u w h1 h2 (by have:=rl_len h3;omega) (by have:=rl_len h4;omega)).mono ?_
 ·have:=rl_sub x y;unfold addS;omega
 ·rintro e w' ⟨r,h5,h6,h7⟩;exact⟨r,h5,h6,own_below h7⟩
def pureC (run:List AV→Option (AV × List Prop)):Run:=fun _ avs _=>match run avs with
 |some (av,ps)=>some { val:=some av,ps:=ps }
 |none=>none
def cmpC:Run:=pureC fun avs=>match avs with
 |[u,v]=>match asQ u,asQ v with
  |some (x,s,p),some (y,t,q)=>some (.s false [.v (.int .i64 (cmpR x y))],[p,q,s≤50000∧t≤50000])
  |_,_=>none
 |_=>none
theorem int_ok {G:Nat→GV} {F:Nat→Prop} {w:World} {k:IntKind} {n:Int} : AV.ok (GOk G F w) (.s false [.v (.int k n)]) (.int k n):=one_ok (GOk.of (.v _ rfl))
theorem cmpC_ok (D:Prop) (B:Nat):RunOK Tryz.prog D B 14 cmpC:=by
 refine runOK_pure (by kernel_rfl) fun avs spec ps hr hp G F w vs hvs=> ?_
 split at hr
 ·rename_i u v
  split at hr
  ·rename_i x s p y t q hx hy
   cases hr
   obtain⟨h1,h2,h3,_⟩:=hp
   match vs,hvs with
   |[a,b],hvs=>
    obtain⟨k1,k2⟩:=q_to ((asQ_ok hx h1).h _ _ _ _ (hvs.2 0 _ a rfl rfl))
    obtain⟨k3,k4⟩:=q_to ((asQ_ok hy h2).h _ _ _ _ (hvs.2 1 _ b rfl rfl))
    refine (fcmp_any x y a b w k1 k3 (show rlen x≤400000 by have:=rl_len k2;omega) (show rlen y≤400000 by have:=rl_len k4;omega)).mono ?_
    rintro e w' ⟨rfl,h5⟩
    exact⟨_,rfl,fun F'=>int_ok,own_own h5⟩
   |[],hvs=>cases hvs.1
   |[_],hvs=>cases hvs.1
   |_::_::_::_,hvs=>cases hvs.1
  ·cases hr
 ·cases hr
def signC:Run:=pureC fun avs=>match avs with
 |[u]=>match asQ u with
  |some (x,s,p)=>some (.s false [.v (.int .i64 (signZ x.num))],[p,s≤50000])
  |_=>none
 |_=>none
theorem signC_ok (D:Prop) (B:Nat):RunOK Tryz.prog D B 27 signC:=by
 refine runOK_pure (by kernel_rfl) fun avs spec ps hr hp G F w vs hvs=> ?_
 split at hr
 ·rename_i u
  split at hr
  ·rename_i x s p hx
   cases hr
   obtain⟨h1,h3,_⟩:=hp
   match vs,hvs with
   |[a],hvs=>
    obtain⟨k1,k2⟩:=q_to ((asQ_ok hx h1).h _ _ _ _ (hvs.2 0 _ a rfl rfl))
    refine (fsign_any x a w k1 (by unfold rl at k2;omega)).mono ?_
    rintro e w' ⟨rfl,h5⟩
    exact⟨_,rfl,fun F'=>int_ok,own_own h5⟩
   |[],hvs=>cases hvs.1
   |_::_::_,hvs=>cases hvs.1
  ·cases hr
 ·cases hr
def negC:Run:=pureC fun avs=>match avs with
 |[u]=>match asQ u with
  |some (x,s,p)=>some (.s true (qC (-x) s),[p,s≤50000])
  |_=>none
 |_=>none
theorem negC_ok (D:Prop) (B:Nat):RunOK Tryz.prog D B 49 negC:=by
 refine runOK_pure (by kernel_rfl) fun avs spec ps hr hp G F w vs hvs=> ?_
 split at hr
 ·rename_i u
  split at hr
  ·rename_i x s p hx
   cases hr
   obtain⟨h1,h3,_⟩:=hp
   match vs,hvs with
   |[a],hvs=>
    obtain⟨k1,k2⟩:=q_to ((asQ_ok hx h1).h _ _ _ _ (hvs.2 0 _ a rfl rfl))
    refine (fneg_any x a w k1 (by unfold rl at k2;omega)).mono ?_
    rintro e w' ⟨r,rfl,h4,h5⟩
    exact⟨_,rfl,fun F'=>q_of h4 (by rw[rl_neg];exact k2),own_own h5⟩
   |[],hvs=>cases hvs.1
   |_::_::_,hvs=>cases hvs.1
  ·cases hr
 ·cases hr
def divC:Run:=pureC fun avs=>match avs with
 |[u,v]=>match asQ u,asQ v with
  |some (x,s,p),some (y,t,q)=>some (.tup [(true,qC (x/y) (mulS s t)),(false,[.v (.int .i64 0)])],[p,q,s≤50000∧t≤50000,y≠0])
  |_,_=>none
 |_=>none
theorem tup2_ok {ok:Cell→Value→Prop} {p q:Bool × List Cell} {u v:Value} (h1:SOk ok p.1 p.2 u) (h2:SOk ok q.1 q.2 v):AV.ok ok (.tup [p,q]) (.tuple #[u,v]):=
 ⟨[u,v],rfl,rfl,fun i c x h3 h4=>by
  match i,h3,h4 with
  |0,h3,h4=>cases h3;cases h4;exact h1
  |1,h3,h4=>cases h3;cases h4;exact h2⟩
theorem divC_ok (B:Nat):RunOK Tryz.prog False B 28 divC:=by
 refine runOK_pure (by kernel_rfl) fun avs spec ps hr hp G F w vs hvs=> ?_
 split at hr
 ·rename_i u v
  split at hr
  ·rename_i x s p y t q hx hy
   cases hr
   obtain⟨h1,h2,h3,h4,_⟩:=hp
   match vs,hvs with
   |[a,b],hvs=>
    obtain⟨k1,k2⟩:=q_to ((asQ_ok hx h1).h _ _ _ _ (hvs.2 0 _ a rfl rfl))
    obtain⟨k3,k4⟩:=q_to ((asQ_ok hy h2).h _ _ _ _ (hvs.2 1 _ b rfl rfl))
    refine (fdiv_any x y a b w k1 k3 (by have:=rl_len k2;omega) (by have:=rl_len k4;omega) h4).mono ?_
    rintro e w' ⟨r,rfl,h5,h6⟩
    exact⟨_,rfl,fun F'=>tup2_ok (q_of h5 (by have:=rl_div x y h4;unfold mulS;omega)) int_ok,own_below h6⟩
   |[],hvs=>cases hvs.1
   |[_],hvs=>cases hvs.1
   |_::_::_::_,hvs=>cases hvs.1
  ·cases hr
 ·cases hr
def I64s (n:Int):Prop:= -9223372036854775808≤n∧n≤9223372036854775807
theorem limbs_s64 {n:Int} (h:I64s n):(limbs n.natAbs).length≤2:=by
 have h2:n.natAbs≤9223372036854775808:=by have:=h.1;have:=h.2;omega
 have h3:=limbs_mono h2
 have h4:(limbs 9223372036854775808).length=2:=by
  unfold limbs;rw[dif_neg (by decide)];unfold limbs;rw[dif_neg (by decide)];unfold limbs;rw[dif_pos (by decide)];rfl
 omega
def zofC:Run:=pureC fun avs=>match avs with
 |[.s false [.v (.int .i64 n)]]=>some (.s true (zC n 2),[I64s n])
 |_=>none
theorem zofC_ok (D:Prop) (B:Nat):RunOK Tryz.prog D B 30 zofC:=by
 refine runOK_pure (by kernel_rfl) fun avs spec ps hr hp G F w vs hvs=> ?_
 split at hr
 ·rename_i n
  cases hr
  obtain⟨h1,_⟩:=hp
  match vs,hvs with
  |[a],hvs=>
   have e:=(v_inv (one_inv (hvs.2 0 _ a rfl rfl))).1
   subst e
   refine (zedOf_any n w h1.1 h1.2).mono ?_
   rintro e w' ⟨r,rfl,h4,h5⟩
   exact⟨_,rfl,fun F'=>z_of h4 (limbs_s64 h1),own_own h5⟩
  |[],hvs=>cases hvs.1
  |_::_::_,hvs=>cases hvs.1
 ·cases hr
def wholeC:Run:=pureC fun avs=>match avs with
 |[u]=>match asZ u with
  |some (x,s,p)=>some (.s true (qC x (s+1)),[p])
  |_=>none
 |_=>none
theorem limbs_one:(limbs 1).length=1:=by
 unfold limbs;rw[dif_neg (by decide)];unfold limbs;rw[dif_pos (by decide)];rfl
theorem rl_whole {x:Int} {s:Nat} (h:(limbs x.natAbs).length≤s):rl (x:Rat)≤s+1:=by
 unfold rl
 rw[Rat.num_intCast,Rat.den_intCast,limbs_one]
 omega
theorem wholeC_ok (D:Prop) (B:Nat):RunOK Tryz.prog D B 29 wholeC:=by
 refine runOK_pure (by kernel_rfl) fun avs spec ps hr hp G F w vs hvs=> ?_
 split at hr
 ·rename_i u
  split at hr
  ·rename_i x s p hx
   cases hr
   obtain⟨h1,_⟩:=hp
   match vs,hvs with
   |[a],hvs=>
    obtain⟨k1,k2⟩:=z_to ((asZ_ok hx h1).h _ _ _ _ (hvs.2 0 _ a rfl rfl))
    refine (whole_any x a w k1).mono ?_
    rintro e w' ⟨r,rfl,h4,h5⟩
    exact⟨_,rfl,fun F'=>q_of h4 (rl_whole k2),own_own h5⟩
   |[],hvs=>cases hvs.1
   |_::_::_,hvs=>cases hvs.1
  ·cases hr
 ·cases hr
end Go.Proofs.YtmagoiniahpofaaGreat
namespace Go.Proofs.YtmagoiniahpofaaGreat
open Go Go.RowKit
inductive Pv where
 |q (l:List (Rat × Nat))
 |i (z:Int)
 |o (av:AV)
def qsC:List (Rat × Nat)→List Cell
 |[]=>[]
 |(x,s)::l=> .q x s 0 :: .q x s 1 :: .q x s 2 :: .q x s 3::qsC l
def qsOf:List Cell→Option (List (Rat × Nat))
 |[]=>some []
 | .q x s _ :: .q _ _ _ :: .q _ _ _ :: .q _ _ _::l=>match qsOf l with
  |some xs=>some ((x,s)::xs)
  |none=>none
 | .v (.slice none 0 0) :: .f :: .v (.slice none 0 0) :: .f::l=>match qsOf l with
  |some xs=>some ((0,1)::xs)
  |none=>none
 |_=>none
def Pv.av:Pv→AV
 | .q l=> .s true (qsC l)
 | .i z=> .s false [.v (.int .i64 z)]
 | .o av=>av
def parse1 (av:AV):Pv × List Prop:=
 match av with
 | .s true l=>match qsOf l with
  |some xs=>(.q xs,[CsLe l (qsC xs)])
  |none=>(.o av,[])
 | .s false [.v (.int .i64 z)]=>(.i z,[])
 |_=>(.o av,[])
def parseL:List AV→List Pv × List Prop
 |[]=>([],[])
 |av::l=>match parse1 av,parseL l with
  |(p,q),(ps,qs)=>(p::ps,q++qs)
theorem parse1_ok {av:AV} (h:allP (parse1 av).2):AVle av (parse1 av).1.av:=by
 unfold parse1 at h ⊢
 split
 ·split
  ·rename_i l xs hx
   simp only[hx] at h
   exact AVle.s h.1
  ·exact AVle.refl _
 ·exact AVle.refl _
 ·exact AVle.refl _
theorem parseL_ok:∀ {l:List AV},allP (parseL l).2→(parseL l).1.length=l.length∧∀ (i:Nat) (av:AV) (p:Pv),l[i]? =some av→(parseL l).1[i]? =some p→AVle av p.av
 |[],_=>⟨rfl,fun i av p h=>by simp at h⟩
 |av::l,h=>by
  obtain⟨h1,h2⟩:=allP_append (show allP ((parse1 av).2++(parseL l).2) from h)
  obtain⟨h3,h4⟩:=parseL_ok h2
  refine⟨by show (parseL l).1.length+1=_;simp[h3],fun i a p h5 h6=> ?_⟩
  match i,h5,h6 with
  |0,h5,h6=>cases h5;cases h6;exact parse1_ok h1
  |i+1,h5,h6=>exact h4 i a p (by simpa using h5) h6
abbrev Spec:=List Pv→Option (AV × List Prop)
def runC (S:Spec):Run:=pureC fun avs=>match parseL avs with
 |(pvs,pps)=>match S pvs with
  |some (av,ps)=>some (av,pps++ps)
  |none=>none
theorem fn_spec {P:Program} {D:Prop} {Γ : FuncId→Option Run} {f:FuncId} {fn:Func} {c:Code} {S:Spec} (inv:List Pv→List (Nat × LInv)) (hΓ : ∀ B f run,Γ f=some run→RunOK P D B f run) (hx:P.follows .mixedOrders=true) (hf:P.funcs[f]? =some fn) (hb:fn.body=some c) (hc:callable P f=true)
  (H:∀ (pvs:List Pv) (av:AV) (ps:List Prop),S pvs=some (av,ps)→allP ps→pvs.length≤fn.ntmps∧vc P Γ fn.ntmps (inv pvs) c ⟨entryS (pvs.map Pv.av) 0,[]⟩ (retVC P fn.results.toList av)) (B:Nat):RunOK P D B f (runC S):=by
 refine fn_pure hΓ hx hf hb hc (fun b avs t e hr hp=> ?_) B
 unfold runC pureC at hr
 simp only at hr
 split at hr
 ·rename_i av ps hS
  cases hr
  split at hS
  ·rename_i av' ps' hS'
   cases hS
   obtain⟨h1,h2⟩:=allP_append hp
   obtain⟨h3,h4⟩:=parseL_ok h1
   obtain⟨k2,k3⟩:=H _ _ _ hS' h2
   refine⟨rfl,_,(parseL avs).1.map Pv.av,_,rfl,⟨by rw[List.length_map,h3],fun i a v h5 h6=> ?_⟩,by rw[List.length_map];exact k2,k3⟩
   rw[List.getElem?_map] at h6
   cases hq:(parseL avs).1[i]? with
   |none=>rw[hq] at h6;cases h6
   |some p=>
    rw[hq] at h6
    cases h6
    exact h4 i a p h5 hq
  ·cases hS
 ·cases hr
theorem ctx_ok {P:Program} {D:Prop} : ∀ {l:List (Nat × Run)},(∀ p∈l,∀ B,RunOK P D B p.1 p.2)→∀ B f run,lk l f=some run→RunOK P D B f run
 |[],_,B,f,run,h=>by cases h
 |(f',r)::l,hl,B,f,run,h=>by
  simp only[lk] at h
  split at h
  ·rename_i e
   cases h
   rw[← beq_eq e]
   exact hl _ List.mem_cons_self B
  ·exact ctx_ok (fun p hp=>hl p (List.mem_cons_of_mem _ hp)) B f run h
end Go.Proofs.YtmagoiniahpofaaGreat
namespace Go.Proofs.YtmagoiniahpofaaGreat
open Go Go.RowKit
def gA:List (Nat × Run):=[(25,mulC),(48,addC),(26,subC),(14,cmpC),(27,signC),(49,negC),(28,divC),(30,zofC),(29,wholeC)]
theorem gA_ok:∀ p∈gA,∀ B,RunOK Tryz.prog False B p.1 p.2:=by
 intro p hp B
 simp only[gA,List.mem_cons,List.not_mem_nil,or_false] at hp
 rcases hp with rfl | rfl | rfl | rfl | rfl | rfl | rfl | rfl | rfl
 ·exact mulC_ok B
 ·exact addC_ok B
 ·exact subC_ok B
 ·exact cmpC_ok False B
 ·exact signC_ok False B
 ·exact negC_ok False B
 ·exact divC_ok B
 ·exact zofC_ok False B
 ·exact wholeC_ok False B
theorem ctx_cons {P:Program} {D:Prop} {l:List (Nat × Run)} {f:Nat} {r:Run} (h:∀ B,RunOK P D B f r) (hl:∀ p∈l,∀ B,RunOK P D B p.1 p.2):∀ p∈((f,r)::l),∀ B,RunOK P D B p.1 p.2:=by
 intro p hp B
 rcases List.mem_cons.1 hp with rfl | hp
 ·exact h B
 ·exact hl p hp B
def lessS:Spec
 |[.q [(x1,s1),(y1,t1)],.q [(x2,s2),(y2,t2)]]=>some (.s true (qsC [(x1-x2,addS s1 s2),(y1-y2,addS t1 t2)]),[s1≤50000∧s2≤50000∧t1≤50000∧t2≤50000])
 |_=>none
theorem less_vc (x1 y1 x2 y2:Rat) (s1 t1 s2 t2:Nat):vc Tryz.prog (lk gA) Tryz.f24.ntmps ([]) (Tryz.f24.body.getD .skip) ⟨entryS (([.q [(x1,s1),(y1,t1)],.q [(x2,s2),(y2,t2)]]:List Pv).map Pv.av) 0,[]⟩ (retVC Tryz.prog Tryz.f24.results.toList (.s true (qsC [(x1-x2,addS s1 s2),(y1-y2,addS t1 t2)])))=(CsLe (qsC [(x1,s1)]) (qsC [(x1,s1)])∧CsLe (qsC [(x2,s2)]) (qsC [(x2,s2)])∧(s1≤50000∧s2≤50000)∧CsLe (qsC [(y1,t1)]) (qsC [(y1,t1)])∧CsLe (qsC [(y2,t2)]) (qsC [(y2,t2)])∧(t1≤50000∧t2≤50000)∧AVle (AV.s true (qsC [(x1-x2,addS s1 s2),(y1-y2,addS t1 t2)])) (AV.s true (qsC [(x1-x2,addS s1 s2),(y1-y2,addS t1 t2)]))):=by kernel_rfl
theorem less_ok (B:Nat):RunOK Tryz.prog False B 24 (runC lessS):=by
 refine fn_spec (c:=Tryz.f24.body.getD .skip) (fun _=>[]) (ctx_ok (gA_ok)) (by kernel_rfl) Tryz.func24 (by kernel_rfl) (by kernel_rfl) ?_ B
 intro pvs av ps h hp
 unfold lessS at h
 split at h
 ·rename_i x1 s1 y1 t1 x2 s2 y2 t2
  cases h
  refine⟨by rw[Tryz.ntmps24];simp,?_⟩
  rw[less_vc x1 y1 x2 y2 s1 t1 s2 t2]
  simp only[allP,and_true] at hp
  simp only[cs_refl,av_refl,true_and,and_true]
  (try simp only[mulS,addS])
  omega
 ·cases h
def gB:List (Nat × Run):=(24,runC lessS)::gA
theorem gB_ok:∀ p∈gB,∀ B,RunOK Tryz.prog False B p.1 p.2:=ctx_cons less_ok gA_ok
def sideS:Spec
 |[.q [(x1,s1),(y1,t1)],.q [(x2,s2),(y2,t2)],.q [(x3,s3),(y3,t3)]]=>some (.s false [.v (.int .i64 (cmpR ((x2-x1)*(y3-y1)) ((y2-y1)*(x3-x1))))],[s1≤10000∧t1≤10000∧s2≤10000∧t2≤10000∧s3≤10000∧t3≤10000])
 |_=>none
theorem side_vc (x1 y1 x2 y2 x3 y3:Rat) (s1 t1 s2 t2 s3 t3:Nat):vc Tryz.prog (lk gB) Tryz.f55.ntmps ([]) (Tryz.f55.body.getD .skip) ⟨entryS (([.q [(x1,s1),(y1,t1)],.q [(x2,s2),(y2,t2)],.q [(x3,s3),(y3,t3)]]:List Pv).map Pv.av) 0,[]⟩ (retVC Tryz.prog Tryz.f55.results.toList (.s false [.v (.int .i64 (cmpR ((x2-x1)*(y3-y1)) ((y2-y1)*(x3-x1))))]))=(CsLe (qsC [(x2,s2),(y2,t2)]) (qsC [(x2,s2),(y2,t2)])∧CsLe (qsC [(x1,s1),(y1,t1)]) (qsC [(x1,s1),(y1,t1)])∧(s2≤50000∧s1≤50000∧t2≤50000∧t1≤50000)∧CsLe (qsC [(x3,s3),(y3,t3)]) (qsC [(x3,s3),(y3,t3)])∧CsLe (qsC [(x1,s1),(y1,t1)]) (qsC [(x1,s1),(y1,t1)])∧(s3≤50000∧s1≤50000∧t3≤50000∧t1≤50000)∧CsLe (qsC [(x2-x1,addS s2 s1)]) (qsC [(x2-x1,addS s2 s1)])∧CsLe (qsC [(y3-y1,addS t3 t1)]) (qsC [(y3-y1,addS t3 t1)])∧(addS s2 s1≤50000∧addS t3 t1≤50000)∧CsLe (qsC [(y2-y1,addS t2 t1)]) (qsC [(y2-y1,addS t2 t1)])∧CsLe (qsC [(x3-x1,addS s3 s1)]) (qsC [(x3-x1,addS s3 s1)])∧(addS t2 t1≤50000∧addS s3 s1≤50000)∧CsLe (qsC [((x2-x1)*(y3-y1),mulS (addS s2 s1) (addS t3 t1))]) (qsC [((x2-x1)*(y3-y1),mulS (addS s2 s1) (addS t3 t1))])∧CsLe (qsC [((y2-y1)*(x3-x1),mulS (addS t2 t1) (addS s3 s1))]) (qsC [((y2-y1)*(x3-x1),mulS (addS t2 t1) (addS s3 s1))])∧(mulS (addS s2 s1) (addS t3 t1)≤50000∧mulS (addS t2 t1) (addS s3 s1)≤50000)∧AVle (AV.s false [Cell.v (Value.int IntKind.i64 (cmpR ((x2-x1)*(y3-y1)) ((y2-y1)*(x3-x1))))]) (AV.s false [Cell.v (Value.int IntKind.i64 (cmpR ((x2-x1)*(y3-y1)) ((y2-y1)*(x3-x1))))])):=by kernel_rfl
theorem side_ok (B:Nat):RunOK Tryz.prog False B 55 (runC sideS):=by
 refine fn_spec (c:=Tryz.f55.body.getD .skip) (fun _=>[]) (ctx_ok (gB_ok)) (by kernel_rfl) Tryz.func55 (by kernel_rfl) (by kernel_rfl) ?_ B
 intro pvs av ps h hp
 unfold sideS at h
 split at h
 ·rename_i x1 s1 y1 t1 x2 s2 y2 t2 x3 s3 y3 t3
  cases h
  refine⟨by rw[Tryz.ntmps55];simp,?_⟩
  rw[side_vc x1 y1 x2 y2 x3 y3 s1 t1 s2 t2 s3 t3]
  simp only[allP,and_true] at hp
  simp only[cs_refl,av_refl,true_and,and_true]
  (try simp only[mulS,addS])
  omega
 ·cases h
def atS:Spec
 |[.q [(x1,s1),(y1,t1),(x2,s2),(y2,t2)],.q [(k,sk)]]=>some (.s true (qsC [(x1+(x2-x1)*k,addS s1 (mulS (addS s2 s1) sk)),(y1+(y2-y1)*k,addS t1 (mulS (addS t2 t1) sk))]),[s1≤10000∧t1≤10000∧s2≤10000∧t2≤10000∧sk≤25000])
 |_=>none
theorem at_vc (x1 y1 x2 y2 k:Rat) (s1 t1 s2 t2 sk:Nat):vc Tryz.prog (lk gB) Tryz.f31.ntmps ([]) (Tryz.f31.body.getD .skip) ⟨entryS (([.q [(x1,s1),(y1,t1),(x2,s2),(y2,t2)],.q [(k,sk)]]:List Pv).map Pv.av) 0,[]⟩ (retVC Tryz.prog Tryz.f31.results.toList (.s true (qsC [(x1+(x2-x1)*k,addS s1 (mulS (addS s2 s1) sk)),(y1+(y2-y1)*k,addS t1 (mulS (addS t2 t1) sk))])))=(CsLe (qsC [(x2,s2),(y2,t2)]) (qsC [(x2,s2),(y2,t2)])∧CsLe (qsC [(x1,s1),(y1,t1)]) (qsC [(x1,s1),(y1,t1)])∧(s2≤50000∧s1≤50000∧t2≤50000∧t1≤50000)∧CsLe (qsC [(x2-x1,addS s2 s1)]) (qsC [(x2-x1,addS s2 s1)])∧CsLe (qsC [(k,sk)]) (qsC [(k,sk)])∧(addS s2 s1≤50000∧sk≤50000)∧CsLe (qsC [(x1,s1)]) (qsC [(x1,s1)])∧CsLe (qsC [((x2-x1)*k,mulS (addS s2 s1) sk)]) (qsC [((x2-x1)*k,mulS (addS s2 s1) sk)])∧(s1≤50000∧mulS (addS s2 s1) sk≤50000)∧CsLe (qsC [(y2-y1,addS t2 t1)]) (qsC [(y2-y1,addS t2 t1)])∧CsLe (qsC [(k,sk)]) (qsC [(k,sk)])∧(addS t2 t1≤50000∧sk≤50000)∧CsLe (qsC [(y1,t1)]) (qsC [(y1,t1)])∧CsLe (qsC [((y2-y1)*k,mulS (addS t2 t1) sk)]) (qsC [((y2-y1)*k,mulS (addS t2 t1) sk)])∧(t1≤50000∧mulS (addS t2 t1) sk≤50000)∧AVle (AV.s true (qsC [(x1+(x2-x1)*k,addS s1 (mulS (addS s2 s1) sk)),(y1+(y2-y1)*k,addS t1 (mulS (addS t2 t1) sk))])) (AV.s true (qsC [(x1+(x2-x1)*k,addS s1 (mulS (addS s2 s1) sk)),(y1+(y2-y1)*k,addS t1 (mulS (addS t2 t1) sk))]))):=by kernel_rfl
theorem at_ok (B:Nat):RunOK Tryz.prog False B 31 (runC atS):=by
 refine fn_spec (c:=Tryz.f31.body.getD .skip) (fun _=>[]) (ctx_ok (gB_ok)) (by kernel_rfl) Tryz.func31 (by kernel_rfl) (by kernel_rfl) ?_ B
 intro pvs av ps h hp
 unfold atS at h
 split at h
 ·rename_i x1 s1 y1 t1 x2 s2 y2 t2 k sk
  cases h
  refine⟨by rw[Tryz.ntmps31];simp,?_⟩
  rw[at_vc x1 y1 x2 y2 k s1 t1 s2 t2 sk]
  simp only[allP,and_true] at hp
  simp only[cs_refl,av_refl,true_and,and_true]
  (try simp only[mulS,addS])
  omega
 ·cases h
end Go.Proofs.YtmagoiniahpofaaGreat
namespace Go.Proofs.YtmagoiniahpofaaGreat
open Go Go.RowKit
def Cell.flat:Cell→Bool
 | .v _ | .t | .f | .q .. | .z .. =>true
 |_=>false
def flatA:AV→Bool
 | .s _ l=>l.all Cell.flat
 | .tup l=>l.all fun p=>p.2.all Cell.flat
def frozB1 (b:Nat→Option ABlk) (c:Cell):Cell:=
 match c with
 | .hd k=>match b k with
  |some (.row _ sz n e)=> .row sz n e
  |_=>c
 | .pt k sz a n=>match b k with
  |some (.row _ sz' _ e)=>match Nat.beq sz sz' with
   |true=> .row sz n fun i=>e (i+a)
   |false=>c
  |_=>c
 |c=>c
def frozB (b:Nat→Option ABlk) (c:Cell):Cell:=
 match c with
 | .own k off=>match b k with
  |some (.st _ l)=>match (l.map (frozB1 b)).all Cell.cl with
   |true=> .el l.length 1 (fun _=>l.map (frozB1 b)) 0 off
   |false=>c
  |_=>c
 |c=>frozB1 b c
def frozV (b:Nat→Option ABlk):AV→AV
 | .s a l=> .s a (l.map (frozB b))
 |av=>av
def readC (run:Run):Run:=fun b avs t=>match run (fun _=>none) (avs.map (frozV b)) t with
 |some e=>match e.set,e.val with
  |[],some av=>match flatA av with
   |true=>some { val:=some av,ps:=e.ps }
   |false=>none
  |_,_=>none
 |none=>none
section
variable {B:Nat} {G G':Nat→GV} {F F':Nat→Prop} {w:World}
theorem flat_ok {c:Cell} {v:Value} (h:GOk G F w c v) (hc:c.flat=true):GOk G' F' w c v:=by
 cases c with
 |v | t | f | q | z=>
  simp only[GOk,GOk0] at h ⊢
  cases h with
  |_=>first | exact .v _ (by assumption) | exact .t | exact .f | exact .q (by assumption) (by assumption) | exact .z (by assumption) (by assumption)
 |_=>cases hc
theorem flatA_ok {av:AV} {v:Value} (h:av.ok (GOk G F w) v) (hc:flatA av=true):av.ok (GOk G' F' w) v:=by
 cases av with
 |s a l=>exact SOk.mono h fun c hm v hv=>flat_ok hv (List.all_eq_true.1 hc c hm)
 |tup l=>
  obtain⟨vs,h1,h2,h3⟩:=h
  exact⟨vs,h1,h2,fun i p u hp hu=>(h3 i p u hp hu).mono fun c hm v hv=>flat_ok hv (List.all_eq_true.1 (List.all_eq_true.1 hc p (List.mem_of_getElem? hp)) c hm)⟩
theorem frozV_ok {b:Nat→Option ABlk} {a:Act} (V:View B ⟨fun _=>none,b⟩ G F a w) (hF:∀ g,F g→F' g) (hF':∀ k g,b k≠none→(G k).o g→F' g) {av:AV} {v:Value} (h:av.ok (GOk G F w) v):(frozV b av).ok (GOk G F' w) v:=by
 have hst:Stay G F w G F' w (fun _=>False):=⟨fun _ _=>rfl,hF,Keep.refl _,fun _ _=>rfl⟩
 have one1:∀ {c:Cell} {v:Value},GOk G F w c v→GOk G F' w (frozB1 b c) v:=by
  intro c v hc
  have row:∀ {k:Nat} {T:TypeId} {sz n:Nat} {e:Nat→List Cell},b k=some (.row T sz n e)→COk F' w (.row sz n e) (G k).v:=fun {k T sz n e} hb=>by
   obtain⟨v0,ev,hok⟩:=V.bk k _ hb
   rw[ev]
   exact row_froz hok hF (fun g hg=>hF' k g (by rw[show b k=_ from hb];simp) (by rw[ev];exact hg))
  unfold frozB1
  split
  ·rename_i k
   split
   ·rename_i T sz n e hb
    have hk:v=(G k).v:=(hc:GOk0 G F w (.hd k) v).1
    rw[hk]
    exact GOk.of (row hb)
   ·exact hc.stay hst (fun _ _ hh=>hh)
  ·rename_i k sz a n
   split
   ·rename_i T sz' m e hb
    split
    ·rename_i e2
     have:=beq_eq e2
     subst this
     have h3:=frz_c0 (k:=k) (x:= .row sz m e) (F':=F') hF (fun _=>row hb) (show GOk0 G F w (.pt k sz a n) v from hc)
     simp only[frzC0,Nat.beq_refl] at h3
     exact GOk.of (show COk F' w (.row sz n fun i=>e (i+a)) v from h3)
    ·exact hc.stay hst (fun _ _ hh=>hh)
   ·exact hc.stay hst (fun _ _ hh=>hh)
  ·exact hc.stay hst (fun _ _ hh=>hh)
 have one:∀ {c:Cell} {v:Value},GOk G F w c v→GOk G F' w (frozB b c) v:=by
  intro c v hc
  unfold frozB
  split
  ·rename_i k off
   split
   ·rename_i T l hb
    split
    ·rename_i hcl
     obtain⟨g,e1,rfl⟩:=hc
     obtain⟨g',cs,e2,_,_,h2,h3⟩:=V.bk k _ hb
     rw[e2] at e1
     cases e1
     have hfl:∀ (j:Nat) (c:Cell) (u:Value),(l.map (frozB1 b))[j]? =some c→cs[j]? =some u→COk F' w c u:=fun j c u h4 h5=>by
      have hm:=List.mem_of_getElem? h4
      rw[List.getElem?_map] at h4
      cases hq:l[j]? with
      |none=>rw[hq] at h4;cases h4
      |some c0=>
       rw[hq] at h4
       cases h4
       exact COk.of (one1 (h3.2 j c0 u hq h5)) (List.all_eq_true.1 hcl _ hm)
     have hgF:F' g:=hF' k g (by rw[show b k=_ from hb];simp) (by rw[e2];rfl)
     have:=COk.el (F:=F') (w:=w) (sz:=l.length) (n:=1) (e:=fun _=>l.map (frozB1 b)) (g:=g) (o:=0) (k:=0) (off:=off) (fun _ j=>cs.getD j undef) hgF (by omega) (fun i _=>by simp) (fun i j hi hj=>by
      have:i=0:=by omega
      subst this
      rw[show 0+0*l.length+j=j by omega,h2.cell]
      rw[h3.1] at hj
      simp[List.getD,List.getElem?_eq_getElem hj]) (fun i j c hi hc=>by
      have hj:j<cs.length:=by rw[← h3.1];have:=(List.getElem?_eq_some_iff.1 hc).1;simpa using this
      rw[show cs.getD j undef=cs[j] by simp[List.getD,List.getElem?_eq_getElem hj]]
      exact hfl j c _ hc (List.getElem?_eq_getElem hj))
     rw[show 0+0*l.length+off=off by omega] at this
     exact GOk.of this
    ·exact hc.stay hst (fun _ _ hh=>hh)
   ·exact hc.stay hst (fun _ _ hh=>hh)
  ·exact one1 hc
 cases av with
 |tup l=>exact AV.ok.stay h hst (fun _ _ hh=>hh)
 |s ag l=>
  cases ag with
  |true=>
   obtain⟨cs,h1,h2,h3⟩:=h
   refine⟨cs,h1,by simpa using h2,fun i c u h4 h5=> ?_⟩
   rw[List.getElem?_map] at h4
   cases hc:l[i]? with
   |none=>rw[hc] at h4;cases h4
   |some c'=>
    rw[hc] at h4
    cases h4
    exact one (h3 i c' u hc h5)
  |false=>
   obtain⟨c,rfl,h2⟩:=h
   exact⟨_,rfl,one h2⟩
end
theorem readC_ok {P:Program} {D:Prop} {f:FuncId} {run:Run} (h:∀ B,RunOK P D B f run) (B:Nat):RunOK P D B f (readC run):=by
 refine⟨(h B).1,fun b avs t e hr hp G F w vs V hvs=> ?_⟩
 unfold readC at hr
 split at hr
 ·rename_i e0 he0
  split at hr
  ·rename_i av hset hval
   split at hr
   ·rename_i hfl
    cases hr
    have hF':∀ g,(fun g=>F g∨∃ k,b k≠none∧(G k).o g) g→g<w.heap.size:=by
     rintro g (hg | ⟨k,h1,h2⟩)
     ·exact V.fl g hg
     ·obtain⟨b',hb'⟩:=Option.ne_none_iff_exists'.1 h1
      exact ((V.bk k b' hb').lt g h2).2
    have V':View B ⟨fun _=>none,fun _=>none⟩ G (fun g=>F g∨∃ k,b k≠none∧(G k).o g) ⟨#[],[]⟩ w:=
     ⟨V.bs,hF',fun k b h=>(by cases h),fun k k' h=>absurd rfl h,fun k g h=>absurd rfl h,fun t av h=>(by cases h)⟩
    have hvs':AvsOk (GOk G (fun g=>F g∨∃ k,b k≠none∧(G k).o g) w) (avs.map (frozV b)) vs:=by
     refine⟨by simpa using hvs.1,fun i a v h1 h2=> ?_⟩
     rw[List.getElem?_map] at h1
     cases hc:avs[i]? with
     |none=>rw[hc] at h1;cases h1
     |some a'=>
      rw[hc] at h1
      cases h1
      exact frozV_ok V (fun g hg=> .inl hg) (fun k g h3 h4=> .inr ⟨k,h3,h4⟩) (hvs.2 i a' v hc h2)
    refine ((h B).2 _ _ t e0 he0 hp _ _ w vs V' hvs').mono ?_
    rintro en w' ⟨v,rfl,G',F'',p⟩
    refine⟨v,rfl,G,F,fun _ _=>rfl,fun _ _=>rfl,fun _ h=>h,fun _ h=> .inl h,fun g hg=>Nat.lt_of_lt_of_le (V.fl g hg) p.sz,p.os,p.tape,p.out,p.sz,p.dr,p.k,fun g hg _=>p.h g hg (fun k _ hk=>absurd rfl hk),fun av' hav'=> ?_,fun k b' hs=>(by cases hs),fun k k' b' b2 hs=>by cases hs⟩
    cases hav'
    exact flatA_ok (p.v av hval) hfl
   ·cases hr
  ·cases hr
 ·cases hr
theorem fn_specR {P:Program} {D:Prop} {Γ : FuncId→Option Run} {f:FuncId} {fn:Func} {c:Code} {S:Spec} (hΓ : ∀ B f run,Γ f=some run→RunOK P D B f run) (hx:P.follows .mixedOrders=true) (hf:P.funcs[f]? =some fn) (hb:fn.body=some c) (hc:callable P f=true)
  (H:∀ (pvs:List Pv) (av:AV) (ps:List Prop),S pvs=some (av,ps)→allP ps→∃ (avs:List AV) (inv:List (Nat × LInv)),AvsLe (pvs.map Pv.av) avs∧avs.length≤fn.ntmps∧vc P Γ fn.ntmps inv c ⟨entryS avs 0,[]⟩ (retVC P fn.results.toList av)) (B:Nat):RunOK P D B f (runC S):=by
 refine fn_pure hΓ hx hf hb hc (fun b avs t e hr hp=> ?_) B
 unfold runC pureC at hr
 simp only at hr
 split at hr
 ·rename_i av ps hS
  cases hr
  split at hS
  ·rename_i av' ps' hS'
   cases hS
   obtain⟨h1,h2⟩:=allP_append hp
   obtain⟨h3,h4⟩:=parseL_ok h1
   obtain⟨avs',inv,k1,k2,k3⟩:=H _ _ _ hS' h2
   refine⟨rfl,_,avs',inv,rfl,⟨by rw[k1.1,List.length_map,h3],fun i a v h5 h6=> ?_⟩,k2,k3⟩
   have hi:i<avs.length:=(List.getElem?_eq_some_iff.1 h5).1
   have hip:i<(parseL avs).1.length:=by rw[h3];exact hi
   have hq:=List.getElem?_eq_getElem hip
   have q1:=h4 i a _ h5 hq
   have q2:=k1.2 i _ v (by rw[List.getElem?_map,hq];rfl) h6
   exact⟨fun G F w v hv=>q2.h G F w v (q1.h G F w v hv)⟩
  ·cases hS
 ·cases hr
def intAt (e:Nat→List Cell) (i:Nat):Int:=match e i with
 |[.v (.int .i64 z)]=>z
 |_=>0
def intsE (l:List Int):Nat→List Cell:=fun i=>[.v (.int .i64 (l.getD i 0))]
def ratAt (e:Nat→List Cell) (i:Nat):Rat × Nat:=match e i with
 |[.q x s _,_,_,_]=>(x,s)
 |_=>(0,1)
def ratsE (l:List Rat) (s:Nat):Nat→List Cell:=fun i=>qsC [(l.getD i 0,s)]
theorem AvsLe.cons {a b:AV} {l m:List AV} (h:AVle a b) (k:AvsLe l m):AvsLe (a::l) (b::m):=
 ⟨by simp[k.1],fun i x y h1 h2=>by
  match i,h1,h2 with
  |0,h1,h2=>cases h1;cases h2;exact h
  |i+1,h1,h2=>exact k.2 i x y (by simpa using h1) (by simpa using h2)⟩
theorem AvsLe.nil:AvsLe [] []:=⟨rfl,fun i x y h=>by simp at h⟩
end Go.Proofs.YtmagoiniahpofaaGreat
namespace Go.Proofs.YtmagoiniahpofaaGreat
open Go Go.RowKit
theorem AVle.int {x y:Int} (h:x=y):AVle (.s false [.v (.int .i64 x)]) (.s false [.v (.int .i64 y)]):=by subst h;exact AVle.refl _
theorem AVle.bool {x y:Bool} (h:x=y):AVle (.s false [.v (.bool x)]) (.s false [.v (.bool y)]):=by subst h;exact AVle.refl _
theorem AVle.wrap {i n:Nat} (h:i<n) (hn:n≤1000000000):AVle (.s false [.v (.int .i64 (IntKind.i64.wrap ((i:Int)+1)))]) (.s false [.v (.int .i64 ((i+1:Nat):Int))]):=
 AVle.int (by rw[IntWalk.i64_in _ (by omega)];omega)
theorem AVle.tt {b:Bool} (h:b=true):AVle (.s false [.t]) (.s false [.v (.bool b)]):=AVle.one (CLe.tv h)
theorem AVle.ff {b:Bool} (h:b=false):AVle (.s false [.f]) (.s false [.v (.bool b)]):=AVle.one (CLe.fv h)
theorem CsLe.qs {l m:List (Rat × Nat)} (h:l.length=m.length) (k:∀ (i:Nat) p q,l[i]? =some p→m[i]? =some q→p.1=q.1∧p.2≤q.2):CsLe (qsC l) (qsC m):=by
 induction l generalizing m with
 |nil=>
  cases m with
  |nil=>exact CsLe.refl _
  |cons b m=>cases h
 |cons a l ih=>
  cases m with
  |nil=>cases h
  |cons b m=>
   obtain⟨h1,h2⟩:=k 0 a b rfl rfl
   have:=ih (m:=m) (by simpa using h) (fun i p q h3 h4=>k (i+1) p q (by simpa using h3) (by simpa using h4))
   obtain⟨x,s⟩:=a
   obtain⟨y,t⟩:=b
   exact CsLe.cons (CLe.q h1 h2) (CsLe.cons (CLe.q h1 h2) (CsLe.cons (CLe.q h1 h2) (CsLe.cons (CLe.q h1 h2) this)))
theorem qsC_cl:∀ l:List (Rat × Nat),(qsC l).all Cell.cl=true
 |[]=>rfl
 |(x,s)::l=>by simp[qsC,Cell.cl,qsC_cl l]
theorem CsLe.q1 {x:Rat} {s t:Nat} (h:s≤t):CsLe (qsC [(x,s)]) (qsC [(x,t)]):=CsLe.qs rfl fun i p q h1 h2=>by
 match i,h1,h2 with
 |0,h1,h2=>cases h1;cases h2;exact⟨rfl,h⟩
def gO:List (Nat × Run):=[(14,cmpC),(27,signC),(49,negC),(30,zofC),(29,wholeC)]
theorem gO_ok (D:Prop):∀ p∈gO,∀ B,RunOK Tryz.prog D B p.1 p.2:=by
 intro p hp B
 simp only[gO,List.mem_cons,List.not_mem_nil,or_false] at hp
 rcases hp with rfl | rfl | rfl | rfl | rfl
 ·exact cmpC_ok D B
 ·exact signC_ok D B
 ·exact negC_ok D B
 ·exact zofC_ok D B
 ·exact wholeC_ok D B
def firstI:List Int→Int
 |[]=>0
 |a::l=>if a≠0 then a else firstI l
def first_inv (l:List Int):LInv:=⟨Nat,fun i=>i≤l.length∧firstI (l.drop i)=firstI l,fun i=>⟨[(2,.s false [.v (.int .i64 0)]),(5,.s false [.row 1 l.length (intsE l)]),(6,.s false [.v (.int .i64 l.length)]),(7,.s false [.v (.int .i64 i)])],[]⟩,fun i=>l.length-i,[],[],none⟩
theorem first_vc (l:List Int):vc Tryz.prog (lk gO) Tryz.f23.ntmps [(2,first_inv l)] (Tryz.f23.body.getD .skip) ⟨entryS [.s false [.row 1 l.length (intsE l)]] 0,[]⟩ (retVC Tryz.prog Tryz.f23.results.toList (.s false [.v (.int .i64 (firstI l))]))=((Exists fun (i:Nat)=>(i≤List.length l∧firstI (List.drop i l)=firstI l)∧(SmA (AV.s false [Cell.v (Value.int IntKind.i64 (0:Int))])∧SmA (AV.s false [Cell.row 1 (List.length l) fun (a:Nat)=>[Cell.v (Value.int IntKind.i64 (List.getD l a (0:Int)))]])∧SmA (AV.s false [Cell.v (Value.int IntKind.i64 (↑(List.length l):Int))])∧AVle (AV.s false [Cell.v (Value.int IntKind.i64 (0:Int))]) (AV.s false [Cell.v (Value.int IntKind.i64 (↑i:Int))])∧True)∧True)∧∀ (i:Nat),i≤List.length l∧firstI (List.drop i l)=firstI l→(decide ((↑i:Int)<(↑(List.length l):Int))=true→((0:Int)≤(↑i:Int)∧(↑i:Int)<(↑(List.length l):Int))∧((List.getD l (Int.toNat (↑i:Int)) (0:Int) != (0:Int))=true→AVle (AV.s false [Cell.v (Value.int IntKind.i64 (List.getD l (Int.toNat (↑i:Int)) (0:Int)))]) (AV.s false [Cell.v (Value.int IntKind.i64 (firstI l))]))∧((List.getD l (Int.toNat (↑i:Int)) (0:Int) != (0:Int))=false→Exists fun (i':Nat)=>(i'≤List.length l∧firstI (List.drop i' l)=firstI l)∧List.length l-i'<List.length l-i∧(SmA (AV.s false [Cell.v (Value.int IntKind.i64 (0:Int))])∧SmA (AV.s false [Cell.row 1 (List.length l) fun (a:Nat)=>[Cell.v (Value.int IntKind.i64 (List.getD l a (0:Int)))]])∧SmA (AV.s false [Cell.v (Value.int IntKind.i64 (↑(List.length l):Int))])∧AVle (AV.s false [Cell.v (Value.int IntKind.i64 (IntKind.wrap IntKind.i64 ((↑i:Int)+(1:Int))))]) (AV.s false [Cell.v (Value.int IntKind.i64 (↑i':Int))])∧True)∧True))∧(decide ((↑i:Int)<(↑(List.length l):Int))=false→AVle (AV.s false [Cell.v (Value.int IntKind.i64 (0:Int))]) (AV.s false [Cell.v (Value.int IntKind.i64 (firstI l))]))):=by kernel_rfl
def intsL (n:Nat) (e:Nat→List Cell):List Int:=(List.range n).map (intAt e)
def firstS:Spec
 |[.o (.s false [.row 1 n e])]=>some (.s false [.v (.int .i64 (firstI (intsL n e)))],[AVle (.s false [.row 1 n e]) (.s false [.row 1 (intsL n e).length (intsE (intsL n e))]),n≤1000000])
 |_=>none
theorem first_ok (D:Prop) (B:Nat):RunOK Tryz.prog D B 23 (runC firstS):=by
 refine fn_specR (c:=Tryz.f23.body.getD .skip) (ctx_ok (gO_ok D)) (by kernel_rfl) Tryz.func23 (by kernel_rfl) (by kernel_rfl) ?_ B
 intro pvs av ps h hp
 unfold firstS at h
 split at h
 ·rename_i n e
  cases h
  obtain⟨hp1,hp2,-⟩:=hp
  refine⟨[.s false [.row 1 (intsL n e).length (intsE (intsL n e))]],[(2,first_inv (intsL n e))],AvsLe.cons hp1 AvsLe.nil,by rw[Tryz.ntmps23];simp,?_⟩
  rw[first_vc]
  simp only[SmA,av_refl,true_and,and_true]
  have hlen:(intsL n e).length≤1000000:=by simpa[intsL] using hp2
  generalize intsL n e=l at *
  refine⟨⟨0,⟨Nat.zero_le _,rfl⟩,AVle.refl _⟩,fun i ⟨h1,h2⟩=>⟨fun hb=> ?_,fun hb=> ?_⟩⟩
  ·have hi:i<l.length:=by simpa using hb
   have hd:l.drop i=l.getD i 0::l.drop (i+1):=by
    rw[List.drop_eq_getElem_cons hi]
    simp[List.getD,hi]
   rw[hd] at h2
   simp only[firstI] at h2
   refine⟨by omega,fun hn=> ?_,fun hn=>⟨i+1,⟨hi,?_⟩,?_,AVle.wrap hi (by omega)⟩⟩
   ·simp only[Int.toNat_natCast,bne_iff_ne] at hn
    rw[if_pos hn] at h2
    exact AVle.int h2
   ·simp only[Int.toNat_natCast,bne_eq_false_iff_eq] at hn
    rw[if_neg (by simpa using hn)] at h2
    exact h2
   ·show l.length-(i+1)<l.length-i
    omega
  ·have hi:l.length≤i:=by simpa using hb
   rw[List.drop_eq_nil_of_le hi] at h2
   exact AVle.int h2
 ·cases h
def cmpP2 (x1 y1 x2 y2:Rat):Int:=if cmpR x1 x2≠0 then cmpR x1 x2 else cmpR y1 y2
def gP:List (Nat × Run):=(23,readC (runC firstS))::gO
theorem gP_ok (D:Prop):∀ p∈gP,∀ B,RunOK Tryz.prog D B p.1 p.2:=ctx_cons (readC_ok (first_ok D)) (gO_ok D)
theorem pcmp_vc (x1 y1 x2 y2:Rat) (s1 t1 s2 t2:Nat):vc Tryz.prog (lk gP) Tryz.f7.ntmps [] (Tryz.f7.body.getD .skip) ⟨entryS [.s true (qsC [(x1,s1),(y1,t1)]),.s true (qsC [(x2,s2),(y2,t2)])] 0,[]⟩ (retVC Tryz.prog Tryz.f7.results.toList (.s false [.v (.int .i64 (cmpP2 x1 y1 x2 y2))]))=(SmC (qsC [(x1,s1)])∧SmC (qsC [(x2,s2)])∧(s1≤50000∧s2≤50000)∧SmC (qsC [(y1,t1)])∧SmC (qsC [(y2,t2)])∧(t1≤50000∧t2≤50000)∧AVle (AV.s false [Cell.row 1 2 fun (i:Nat)=>List.getD [[Cell.v (Value.int IntKind.i64 (cmpR x1 x2))],[Cell.v (Value.int IntKind.i64 (cmpR y1 y2))]] i []]) (AV.s false [Cell.row 1 2 fun (a:Nat)=>[Cell.v (Value.int IntKind.i64 (List.getD [cmpR x1 x2,cmpR y1 y2] a (0:Int)))]])∧2≤1000000∧AVle (AV.s false [Cell.v (Value.int IntKind.i64 (firstI [cmpR x1 x2,cmpR y1 y2]))]) (AV.s false [Cell.v (Value.int IntKind.i64 (cmpP2 x1 y1 x2 y2))])):=by kernel_rfl
def pcmpS:Spec
 |[.q [(x1,s1),(y1,t1)],.q [(x2,s2),(y2,t2)]]=>some (.s false [.v (.int .i64 (cmpP2 x1 y1 x2 y2))],[s1≤50000∧s2≤50000∧t1≤50000∧t2≤50000])
 |_=>none
theorem AVle.ints (l:List Int):AVle (.s false [.row 1 l.length fun i=>(l.map fun z=>[Cell.v (.int .i64 z)]).getD i []]) (.s false [.row 1 l.length (intsE l)]):=by
 refine AVle.one (CLe.row rfl (fun i hi=> ?_) (fun i hi=>⟨?_,rfl⟩))
 ·simp only[List.getD,List.getElem?_map,intsE,List.getElem?_eq_getElem hi,Option.map_some,Option.getD_some]
  exact CsLe.refl _
 ·simp[List.getD,List.getElem?_map,List.getElem?_eq_getElem hi,Cell.cl]
theorem AVle.rats {l:List (Rat × Nat)} {S:Nat} (h:∀ p∈l,p.2≤S):AVle (.s false [.row 4 l.length fun i=>(l.map fun p=>qsC [p]).getD i []]) (.s false [.row 4 l.length (ratsE (l.map (·.1)) S)]):=by
 refine AVle.one (CLe.row rfl (fun i hi=> ?_) (fun i hi=>⟨?_,qsC_cl _⟩))
 ·simp only[List.getD,List.getElem?_map,ratsE,List.getElem?_eq_getElem hi,Option.map_some,Option.getD_some]
  exact CsLe.q1 (h _ (List.getElem_mem hi))
 ·simp only[List.getD,List.getElem?_map,List.getElem?_eq_getElem hi,Option.map_some,Option.getD_some]
  exact qsC_cl _
theorem pcmp_ok (D:Prop) (B:Nat):RunOK Tryz.prog D B 7 (runC pcmpS):=by
 refine fn_specR (c:=Tryz.f7.body.getD .skip) (ctx_ok (gP_ok D)) (by kernel_rfl) Tryz.func7 (by kernel_rfl) (by kernel_rfl) ?_ B
 intro pvs av ps h hp
 unfold pcmpS at h
 split at h
 ·rename_i x1 s1 y1 t1 x2 s2 y2 t2
  cases h
  refine⟨[.s true (qsC [(x1,s1),(y1,t1)]),.s true (qsC [(x2,s2),(y2,t2)])],[],AvsLe.refl _,by rw[Tryz.ntmps7];simp,?_⟩
  rw[pcmp_vc]
  simp only[allP,and_true] at hp
  simp only[SmC,cs_refl,true_and]
  refine⟨by omega,by omega,AVle.ints [cmpR x1 x2,cmpR y1 y2],by omega,AVle.int ?_⟩
  simp only[firstI,cmpP2]
  split
  ·rfl
  ·split
   ·rfl
   ·rename_i h;simp at h;rw[h]
 ·cases h
def gQ:List (Nat × Run):=(7,runC pcmpS)::gO
theorem gQ_ok (D:Prop):∀ p∈gQ,∀ B,RunOK Tryz.prog D B p.1 p.2:=ctx_cons (pcmp_ok D) (gO_ok D)
def risP (x1 y1 x2 y2 a b:Rat):Rat:=if 0<cmpP2 x1 y1 x2 y2 then b else a
theorem rising_vc (x1 y1 x2 y2:Rat) (s1 t1 s2 t2:Nat):vc Tryz.prog (lk gQ) Tryz.f90.ntmps [] (Tryz.f90.body.getD .skip) ⟨entryS [.s true (qsC [(x1,s1),(y1,t1),(x2,s2),(y2,t2)])] 0,[]⟩ (retVC Tryz.prog Tryz.f90.results.toList (.s true (qsC [(risP x1 y1 x2 y2 x1 x2,max s1 s2),(risP x1 y1 x2 y2 y1 y2,max t1 t2),(risP x1 y1 x2 y2 x2 x1,max s1 s2),(risP x1 y1 x2 y2 y2 y1,max t1 t2)])))=(SmC (qsC [(x1,s1),(y1,t1)])∧SmC (qsC [(x2,s2),(y2,t2)])∧(s1≤50000∧s2≤50000∧t1≤50000∧t2≤50000)∧(decide (cmpP2 x1 y1 x2 y2>(0:Int))=true→AVle (AV.s true (qsC [(x2,s2),(y2,t2),(x1,s1),(y1,t1)])) (AV.s true (qsC [(risP x1 y1 x2 y2 x1 x2,max s1 s2),(risP x1 y1 x2 y2 y1 y2,max t1 t2),(risP x1 y1 x2 y2 x2 x1,max s1 s2),(risP x1 y1 x2 y2 y2 y1,max t1 t2)])))∧(decide (cmpP2 x1 y1 x2 y2>(0:Int))=false→AVle (AV.s true (qsC [(x1,s1),(y1,t1),(x2,s2),(y2,t2)])) (AV.s true (qsC [(risP x1 y1 x2 y2 x1 x2,max s1 s2),(risP x1 y1 x2 y2 y1 y2,max t1 t2),(risP x1 y1 x2 y2 x2 x1,max s1 s2),(risP x1 y1 x2 y2 y2 y1,max t1 t2)])))):=by kernel_rfl
theorem CsLe.q4 {x1 x2 x3 x4 y1 y2 y3 y4:Rat} {s1 s2 s3 s4 t1 t2 t3 t4:Nat} (h:(x1=y1∧s1≤t1)∧(x2=y2∧s2≤t2)∧(x3=y3∧s3≤t3)∧(x4=y4∧s4≤t4)):CsLe (qsC [(x1,s1),(x2,s2),(x3,s3),(x4,s4)]) (qsC [(y1,t1),(y2,t2),(y3,t3),(y4,t4)]):=CsLe.qs rfl fun i p q h1 h2=>by
 match i,h1,h2 with
 |0,h1,h2=>cases h1;cases h2;exact h.1
 |1,h1,h2=>cases h1;cases h2;exact h.2.1
 |2,h1,h2=>cases h1;cases h2;exact h.2.2.1
 |3,h1,h2=>cases h1;cases h2;exact h.2.2.2
theorem CsLe.q2 {x1 x2 y1 y2:Rat} {s1 s2 t1 t2:Nat} (h:(x1=y1∧s1≤t1)∧(x2=y2∧s2≤t2)):CsLe (qsC [(x1,s1),(x2,s2)]) (qsC [(y1,t1),(y2,t2)]):=CsLe.qs rfl fun i p q h1 h2=>by
 match i,h1,h2 with
 |0,h1,h2=>cases h1;cases h2;exact h.1
 |1,h1,h2=>cases h1;cases h2;exact h.2
def risingS:Spec
 |[.q [(x1,s1),(y1,t1),(x2,s2),(y2,t2)]]=>some (.s true (qsC [(risP x1 y1 x2 y2 x1 x2,max s1 s2),(risP x1 y1 x2 y2 y1 y2,max t1 t2),(risP x1 y1 x2 y2 x2 x1,max s1 s2),(risP x1 y1 x2 y2 y2 y1,max t1 t2)]),[s1≤50000∧s2≤50000∧t1≤50000∧t2≤50000])
 |_=>none
theorem rising_ok (D:Prop) (B:Nat):RunOK Tryz.prog D B 90 (runC risingS):=by
 refine fn_specR (c:=Tryz.f90.body.getD .skip) (ctx_ok (gQ_ok D)) (by kernel_rfl) Tryz.func90 (by kernel_rfl) (by kernel_rfl) ?_ B
 intro pvs av ps h hp
 unfold risingS at h
 split at h
 ·rename_i x1 s1 y1 t1 x2 s2 y2 t2
  cases h
  refine⟨[.s true (qsC [(x1,s1),(y1,t1),(x2,s2),(y2,t2)])],[],AvsLe.refl _,by rw[Tryz.ntmps90];simp,?_⟩
  rw[rising_vc]
  simp only[allP,and_true] at hp
  simp only[SmC,cs_refl,true_and]
  refine⟨by omega,fun hb=>AVle.s (CsLe.q4 ?_),fun hb=>AVle.s (CsLe.q4 ?_)⟩
  ·have h:0<cmpP2 x1 y1 x2 y2:=of_decide_eq_true hb
   simp only[risP,if_pos h,true_and]
   omega
  ·have h:¬ 0<cmpP2 x1 y1 x2 y2:=of_decide_eq_false hb
   simp only[risP,if_neg h,true_and]
   omega
 ·cases h
def gR:List (Nat × Run):=(90,runC risingS)::gQ
theorem gR_ok (D:Prop):∀ p∈gR,∀ B,RunOK Tryz.prog D B p.1 p.2:=ctx_cons (rising_ok D) (gQ_ok D)
def withinB (x1 y1 x2 y2 x y:Rat):Bool:=decide (cmpP2 (risP x1 y1 x2 y2 x1 x2) (risP x1 y1 x2 y2 y1 y2) x y≤0) && decide (cmpP2 x y (risP x1 y1 x2 y2 x2 x1) (risP x1 y1 x2 y2 y2 y1)≤0)
theorem within_vc (x1 y1 x2 y2 x y:Rat) (s1 t1 s2 t2 s t:Nat):vc Tryz.prog (lk gR) Tryz.f54.ntmps [] (Tryz.f54.body.getD .skip) ⟨entryS [.s true (qsC [(x1,s1),(y1,t1),(x2,s2),(y2,t2)]),.s true (qsC [(x,s),(y,t)])] 0,[]⟩ (retVC Tryz.prog Tryz.f54.results.toList (.s false [.v (.bool (withinB x1 y1 x2 y2 x y))]))=(SmC (qsC [(x1,s1),(y1,t1),(x2,s2),(y2,t2)])∧(s1≤50000∧s2≤50000∧t1≤50000∧t2≤50000)∧(decide (cmpP2 (risP x1 y1 x2 y2 x1 x2) (risP x1 y1 x2 y2 y1 y2) x y≤(0:Int))=true→SmC (qsC [(risP x1 y1 x2 y2 x1 x2,max s1 s2),(risP x1 y1 x2 y2 y1 y2,max t1 t2)])∧SmC (qsC [(x,s),(y,t)])∧(max s1 s2≤50000∧s≤50000∧max t1 t2≤50000∧t≤50000)∧decide (cmpP2 (risP x1 y1 x2 y2 x1 x2) (risP x1 y1 x2 y2 y1 y2) x y≤(0:Int))=true∧SmC (qsC [(x,s),(y,t)])∧SmC (qsC [(risP x1 y1 x2 y2 x2 x1,max s1 s2),(risP x1 y1 x2 y2 y2 y1,max t1 t2)])∧(s≤50000∧max s1 s2≤50000∧t≤50000∧max t1 t2≤50000)∧AVle (AV.s false [Cell.v (Value.bool (decide (cmpP2 x y (risP x1 y1 x2 y2 x2 x1) (risP x1 y1 x2 y2 y2 y1)≤(0:Int))))]) (AV.s false [Cell.v (Value.bool (withinB x1 y1 x2 y2 x y))]))∧(decide (cmpP2 (risP x1 y1 x2 y2 x1 x2) (risP x1 y1 x2 y2 y1 y2) x y≤(0:Int))=false→SmC (qsC [(risP x1 y1 x2 y2 x1 x2,max s1 s2),(risP x1 y1 x2 y2 y1 y2,max t1 t2)])∧SmC (qsC [(x,s),(y,t)])∧(max s1 s2≤50000∧s≤50000∧max t1 t2≤50000∧t≤50000)∧decide (cmpP2 (risP x1 y1 x2 y2 x1 x2) (risP x1 y1 x2 y2 y1 y2) x y≤(0:Int))=false∧AVle (AV.s false [Cell.f]) (AV.s false [Cell.v (Value.bool (withinB x1 y1 x2 y2 x y))]))):=by kernel_rfl
def withinS:Spec
 |[.q [(x1,s1),(y1,t1),(x2,s2),(y2,t2)],.q [(x,s),(y,t)]]=>some (.s false [.v (.bool (withinB x1 y1 x2 y2 x y))],[s1≤50000∧s2≤50000∧t1≤50000∧t2≤50000∧s≤50000∧t≤50000])
 |_=>none
theorem within_ok (D:Prop) (B:Nat):RunOK Tryz.prog D B 54 (runC withinS):=by
 refine fn_specR (c:=Tryz.f54.body.getD .skip) (ctx_ok (gR_ok D)) (by kernel_rfl) Tryz.func54 (by kernel_rfl) (by kernel_rfl) ?_ B
 intro pvs av ps h hp
 unfold withinS at h
 split at h
 ·rename_i x1 s1 y1 t1 x2 s2 y2 t2 x s y t
  cases h
  refine⟨[.s true (qsC [(x1,s1),(y1,t1),(x2,s2),(y2,t2)]),.s true (qsC [(x,s),(y,t)])],[],AvsLe.refl _,by rw[Tryz.ntmps54];simp,?_⟩
  rw[within_vc]
  simp only[allP,and_true] at hp
  simp only[SmC,cs_refl,true_and]
  refine⟨by omega,fun hb=>⟨by omega,hb,by omega,AVle.bool ?_⟩,fun hb=>⟨by omega,hb,AVle.ff ?_⟩⟩
  ·rw[withinB,hb,Bool.true_and]
  ·rw[withinB,hb,Bool.false_and]
 ·cases h
def gS:List (Nat × Run):=(54,runC withinS)::(55,runC sideS)::(7,runC pcmpS)::gB
theorem gS_ok:∀ p∈gS,∀ B,RunOK Tryz.prog False B p.1 p.2:=ctx_cons (within_ok False) (ctx_cons side_ok (ctx_cons (pcmp_ok False) gB_ok))
def onB (x1 y1 x2 y2 x y:Rat):Bool:=withinB x1 y1 x2 y2 x y && (cmpR ((x2-x1)*(y-y1)) ((y2-y1)*(x-x1)) == 0)
theorem on_vc (x1 y1 x2 y2 x y:Rat) (s1 t1 s2 t2 s t:Nat):vc Tryz.prog (lk gS) Tryz.f32.ntmps [] (Tryz.f32.body.getD .skip) ⟨entryS [.s true (qsC [(x1,s1),(y1,t1),(x2,s2),(y2,t2)]),.s true (qsC [(x,s),(y,t)])] 0,[]⟩ (retVC Tryz.prog Tryz.f32.results.toList (.s false [.v (.bool (onB x1 y1 x2 y2 x y))]))=((withinB x1 y1 x2 y2 x y=true→SmC (qsC [(x1,s1),(y1,t1),(x2,s2),(y2,t2)])∧SmC (qsC [(x,s),(y,t)])∧(s1≤50000∧s2≤50000∧t1≤50000∧t2≤50000∧s≤50000∧t≤50000)∧withinB x1 y1 x2 y2 x y=true∧SmC (qsC [(x1,s1),(y1,t1)])∧SmC (qsC [(x2,s2),(y2,t2)])∧SmC (qsC [(x,s),(y,t)])∧(s1≤10000∧t1≤10000∧s2≤10000∧t2≤10000∧s≤10000∧t≤10000)∧AVle (AV.s false [Cell.v (Value.bool (cmpR ((x2-x1)*(y-y1)) ((y2-y1)*(x-x1)) == (0:Int)))]) (AV.s false [Cell.v (Value.bool (onB x1 y1 x2 y2 x y))]))∧(withinB x1 y1 x2 y2 x y=false→SmC (qsC [(x1,s1),(y1,t1),(x2,s2),(y2,t2)])∧SmC (qsC [(x,s),(y,t)])∧(s1≤50000∧s2≤50000∧t1≤50000∧t2≤50000∧s≤50000∧t≤50000)∧withinB x1 y1 x2 y2 x y=false∧AVle (AV.s false [Cell.f]) (AV.s false [Cell.v (Value.bool (onB x1 y1 x2 y2 x y))]))):=by kernel_rfl
def onS:Spec
 |[.q [(x1,s1),(y1,t1),(x2,s2),(y2,t2)],.q [(x,s),(y,t)]]=>some (.s false [.v (.bool (onB x1 y1 x2 y2 x y))],[s1≤10000∧s2≤10000∧t1≤10000∧t2≤10000∧s≤10000∧t≤10000])
 |_=>none
theorem on_ok (B:Nat):RunOK Tryz.prog False B 32 (runC onS):=by
 refine fn_specR (c:=Tryz.f32.body.getD .skip) (ctx_ok (gS_ok)) (by kernel_rfl) Tryz.func32 (by kernel_rfl) (by kernel_rfl) ?_ B
 intro pvs av ps h hp
 unfold onS at h
 split at h
 ·rename_i x1 s1 y1 t1 x2 s2 y2 t2 x s y t
  cases h
  refine⟨[.s true (qsC [(x1,s1),(y1,t1),(x2,s2),(y2,t2)]),.s true (qsC [(x,s),(y,t)])],[],AvsLe.refl _,by rw[Tryz.ntmps32];simp,?_⟩
  rw[on_vc]
  simp only[allP,and_true] at hp
  simp only[SmC,cs_refl,true_and]
  refine⟨fun hb=>⟨by omega,hb,by omega,AVle.bool ?_⟩,fun hb=>⟨by omega,hb,AVle.ff ?_⟩⟩
  ·rw[onB,hb,Bool.true_and]
  ·rw[onB,hb,Bool.false_and]
 ·cases h
end Go.Proofs.YtmagoiniahpofaaGreat
namespace Go.Proofs.YtmagoiniahpofaaGreat
open Go Go.RowKit
def zQ:List Cell:=[.v (.slice none 0 0),.f,.v (.slice none 0 0),.f]
def ratsL (n:Nat) (e:Nat→List Cell):List Rat:=(List.range n).map fun i=>(ratAt e i).1
def maxL (n:Nat) (e:Nat→List Cell):Nat:=(List.range n).foldl (fun m i=>max m (ratAt e i).2) 1
def accQ (lt:Rat→Rat→Bool) (l:List Rat) (s i:Nat):List (Rat × Nat):=[(bestR lt (l.take i),s)]
def best_inv (lt:Rat→Rat→Bool) (l:List Rat) (s:Nat):LInv:=⟨Nat,fun i=>i≤l.length,fun i=>⟨[(2,.s false [.own 2 0]),(3,.s false [.own 3 0]),(6,.s false [.row 4 l.length (ratsE l s)]),(7,.s false [.v (.int .i64 l.length)]),(8,.s false [.v (.int .i64 i)])],[(2,.st 37 zQ),(3,.st 37 (qsC (accQ lt l s i)))]⟩,fun i=>l.length-i,[],[],none⟩
def ltR:Rat→Rat→Bool:=fun y o=>decide (y<o)
def gtR:Rat→Rat→Bool:=fun y o=>decide (o<y)
theorem CsLe.zero {s:Nat} (h:1≤s):CsLe zQ (qsC [(0,s)]):=by
 have hz:rl 0≤s:=by
  have:rl 0=1:=by
   unfold rl
   rw[show ((0:Rat).num.natAbs)=0 from rfl,show ((0:Rat).den)=1 from rfl,limbs_one]
   unfold limbs
   rw[dif_pos rfl]
   rfl
  omega
 have l0:limbs 0=[]:=by unfold limbs;rw[dif_pos rfl]
 refine CsLe.cons ⟨fun G F w v h=> ?_⟩ (CsLe.cons ⟨fun G F w v h=> ?_⟩ (CsLe.cons ⟨fun G F w v h=> ?_⟩ (CsLe.cons ⟨fun G F w v h=> ?_⟩ CsLe.nil)))
 ·obtain⟨rfl,_⟩:=v_inv h
  refine GOk.of (.q ⟨none,?_,.inl ?_⟩ hz)
  ·rw[show ((0:Rat).num.natAbs)=0 from rfl,l0];rfl
  ·rw[show ((0:Rat).num.natAbs)=0 from rfl,l0]
 ·have:=bool_inv (b:=false) h (.inl rfl)
  rw[this]
  exact GOk.of (.q (show _=_ by rfl) hz)
 ·obtain⟨rfl,_⟩:=v_inv h
  refine GOk.of (.q ⟨none,0,?_,.inl l0,.inr ⟨rfl,rfl⟩⟩ hz)
  rw[l0];rfl
 ·have:=bool_inv (b:=false) h (.inl rfl)
  rw[this]
  exact GOk.of (.q (show _=_ by rfl) hz)
theorem cmpR_ltR (x y:Rat):decide (cmpR x y<0)=ltR x y:=by
 unfold cmpR ltR
 by_cases h:x<y
 ·simp[h]
 ·by_cases h2:y<x
  ·simp[h,h2]
  ·simp[h,h2]
theorem cmpR_gtR (x y:Rat):decide (cmpR x y>0)=gtR x y:=by
 unfold cmpR gtR
 by_cases h:x<y
 ·simp[h,Rat.not_lt.2 (Rat.le_of_lt h)]
 ·by_cases h2:y<x
  ·simp[h,h2]
  ·simp[h,h2]
theorem best_step {lt:Rat→Rat→Bool} {l:List Rat} {i:Nat} (hi:i<l.length):bestR lt (l.take (i+1))=if i=0 then l.getD i 0 else if lt (l.getD i 0) (bestR lt (l.take i)) then l.getD i 0 else bestR lt (l.take i):=by
 have:l[i]? =some (l.getD i 0):=by simp[List.getD,hi]
 rw[bestR_succ lt l i _ this]
theorem least_vc (l:List Rat) (s:Nat):vc Tryz.prog (lk gO) Tryz.f36.ntmps [(3,best_inv ltR l s)] (Tryz.f36.body.getD .skip) ⟨entryS [.s false [.row 4 l.length (ratsE l s)]] 0,[]⟩ (retVC Tryz.prog Tryz.f36.results.toList (.s true (qsC [(bestR ltR l,s)])))=((Exists fun (i:Nat)=>i≤List.length l∧(SmA (AV.s false [Cell.own 2 0])∧SmA (AV.s false [Cell.own 3 0])∧SmA (AV.s false [Cell.row 4 (List.length l) fun (a:Nat)=>(qsC [(List.getD l a (0:Rat),s)])])∧SmA (AV.s false [Cell.v (Value.int IntKind.i64 (↑(List.length l):Int))])∧AVle (AV.s false [Cell.v (Value.int IntKind.i64 (0:Int))]) (AV.s false [Cell.v (Value.int IntKind.i64 (↑i:Int))])∧True)∧SmB (ABlk.st 37 [Cell.v (Value.slice none 0 0),Cell.f,Cell.v (Value.slice none 0 0),Cell.f])∧ABle (ABlk.st 37 [Cell.v (Value.slice none 0 0),Cell.f,Cell.v (Value.slice none 0 0),Cell.f]) (ABlk.st 37 (qsC [(bestR (fun (a a_1:Rat)=>ltR a a_1) (List.take i l),s)]))∧True)∧∀ (i:Nat),i≤List.length l→(decide ((↑i:Int)<(↑(List.length l):Int))=true→((0:Int)≤(↑i:Int)∧(↑i:Int)<(↑(List.length l):Int))∧(((↑i:Int) == (0:Int))=true→((↑i:Int) == (0:Int))=true∧Exists fun (i':Nat)=>i'≤List.length l∧List.length l-i'<List.length l-i∧(SmA (AV.s false [Cell.own 2 0])∧SmA (AV.s false [Cell.own 3 0])∧SmA (AV.s false [Cell.row 4 (List.length l) fun (a:Nat)=>(qsC [(List.getD l a (0:Rat),s)])])∧SmA (AV.s false [Cell.v (Value.int IntKind.i64 (↑(List.length l):Int))])∧AVle (AV.s false [Cell.v (Value.int IntKind.i64 (IntKind.wrap IntKind.i64 ((↑i:Int)+(1:Int))))]) (AV.s false [Cell.v (Value.int IntKind.i64 (↑i':Int))])∧True)∧SmB (ABlk.st 37 [Cell.v (Value.slice none 0 0),Cell.f,Cell.v (Value.slice none 0 0),Cell.f])∧ABle (ABlk.st 37 (qsC [(List.getD l (Int.toNat (↑i:Int)) (0:Rat),s)])) (ABlk.st 37 (qsC [(bestR (fun (a a_1:Rat)=>ltR a a_1) (List.take i' l),s)]))∧True)∧(((↑i:Int) == (0:Int))=false→((↑i:Int) == (0:Int))=false∧SmC (qsC [(List.getD l (Int.toNat (↑i:Int)) (0:Rat),s)])∧SmC (qsC [(bestR (fun (a a_1:Rat)=>ltR a a_1) (List.take i l),s)])∧(s≤50000∧s≤50000)∧(decide (cmpR (List.getD l (Int.toNat (↑i:Int)) (0:Rat)) (bestR (fun (a a_1:Rat)=>ltR a a_1) (List.take i l))<(0:Int))=true→Exists fun (i':Nat)=>i'≤List.length l∧List.length l-i'<List.length l-i∧(SmA (AV.s false [Cell.own 2 0])∧SmA (AV.s false [Cell.own 3 0])∧SmA (AV.s false [Cell.row 4 (List.length l) fun (a:Nat)=>(qsC [(List.getD l a (0:Rat),s)])])∧SmA (AV.s false [Cell.v (Value.int IntKind.i64 (↑(List.length l):Int))])∧AVle (AV.s false [Cell.v (Value.int IntKind.i64 (IntKind.wrap IntKind.i64 ((↑i:Int)+(1:Int))))]) (AV.s false [Cell.v (Value.int IntKind.i64 (↑i':Int))])∧True)∧SmB (ABlk.st 37 [Cell.v (Value.slice none 0 0),Cell.f,Cell.v (Value.slice none 0 0),Cell.f])∧ABle (ABlk.st 37 (qsC [(List.getD l (Int.toNat (↑i:Int)) (0:Rat),s)])) (ABlk.st 37 (qsC [(bestR (fun (a a_1:Rat)=>ltR a a_1) (List.take i' l),s)]))∧True)∧(decide (cmpR (List.getD l (Int.toNat (↑i:Int)) (0:Rat)) (bestR (fun (a a_1:Rat)=>ltR a a_1) (List.take i l))<(0:Int))=false→Exists fun (i':Nat)=>i'≤List.length l∧List.length l-i'<List.length l-i∧(SmA (AV.s false [Cell.own 2 0])∧SmA (AV.s false [Cell.own 3 0])∧SmA (AV.s false [Cell.row 4 (List.length l) fun (a:Nat)=>(qsC [(List.getD l a (0:Rat),s)])])∧SmA (AV.s false [Cell.v (Value.int IntKind.i64 (↑(List.length l):Int))])∧AVle (AV.s false [Cell.v (Value.int IntKind.i64 (IntKind.wrap IntKind.i64 ((↑i:Int)+(1:Int))))]) (AV.s false [Cell.v (Value.int IntKind.i64 (↑i':Int))])∧True)∧SmB (ABlk.st 37 [Cell.v (Value.slice none 0 0),Cell.f,Cell.v (Value.slice none 0 0),Cell.f])∧ABle (ABlk.st 37 (qsC [(bestR (fun (a a_1:Rat)=>ltR a a_1) (List.take i l),s)])) (ABlk.st 37 (qsC [(bestR (fun (a a_1:Rat)=>ltR a a_1) (List.take i' l),s)]))∧True)))∧(decide ((↑i:Int)<(↑(List.length l):Int))=false→AVle (AV.s true (qsC [(bestR (fun (a a_1:Rat)=>ltR a a_1) (List.take i l),s)])) (AV.s true (qsC [(bestR (fun (a a_1:Rat)=>ltR a a_1) l,s)])))):=by kernel_rfl
def leastS:Spec
 |[.o (.s false [.row 4 n e])]=>some (.s true (qsC [(bestR ltR (ratsL n e),maxL n e)]),[AVle (.s false [.row 4 n e]) (.s false [.row 4 (ratsL n e).length (ratsE (ratsL n e) (maxL n e))]),n≤1000000∧1≤maxL n e∧maxL n e≤50000])
 |_=>none
theorem least_ok (D:Prop) (B:Nat):RunOK Tryz.prog D B 36 (runC leastS):=by
 refine fn_specR (c:=Tryz.f36.body.getD .skip) (ctx_ok (gO_ok D)) (by kernel_rfl) Tryz.func36 (by kernel_rfl) (by kernel_rfl) ?_ B
 intro pvs av ps h hp
 unfold leastS at h
 split at h
 ·rename_i n e
  cases h
  obtain⟨hp1,⟨hp2,hp3,hp4⟩,-⟩:=hp
  refine⟨[.s false [.row 4 (ratsL n e).length (ratsE (ratsL n e) (maxL n e))]],[(3,best_inv ltR (ratsL n e) (maxL n e))],AvsLe.cons hp1 AvsLe.nil,by rw[Tryz.ntmps36];simp,?_⟩
  rw[least_vc]
  have hlen:(ratsL n e).length≤1000000:=by simpa[ratsL] using hp2
  generalize ratsL n e=l at *
  generalize maxL n e=s at *
  simp only[SmA,SmC,SmB,cs_refl,av_refl,ab_refl,true_and,and_true]
  refine⟨⟨0,Nat.zero_le _,AVle.refl _,ABle.st (CsLe.zero hp3)⟩,fun i hi'=>⟨fun hb=> ?_,fun hb=> ?_⟩⟩
  ·have hi:i<l.length:=by simpa using hb
   simp only[Int.toNat_natCast]
   refine⟨by omega,fun h0=>⟨h0,i+1,hi,by omega,AVle.wrap hi (by omega),?_⟩,fun h0=>⟨h0,by omega,fun hc=>⟨i+1,hi,by omega,AVle.wrap hi (by omega),?_⟩,fun hc=>⟨i+1,hi,by omega,AVle.wrap hi (by omega),?_⟩⟩⟩
   ·have:i=0:=by simpa using h0
    rw[show (fun a b=>ltR a b)=ltR from rfl,best_step hi,if_pos this]
    exact ABle.refl _
   ·have h0':¬ i=0:=by simpa using h0
    rw[cmpR_ltR] at hc
    rw[show (fun a b=>ltR a b)=ltR from rfl,best_step hi,if_neg h0',if_pos hc]
    exact ABle.refl _
   ·have h0':¬ i=0:=by simpa using h0
    rw[cmpR_ltR] at hc
    rw[show (fun a b=>ltR a b)=ltR from rfl,best_step hi,if_neg h0',if_neg (by rw[show (fun a b=>ltR a b)=ltR from rfl] at hc;rw[hc];simp)]
    exact ABle.refl _
  ·have hi:l.length≤i:=by simpa using hb
   rw[List.take_of_length_le hi]
   exact AVle.refl _
 ·cases h
theorem most_vc (l:List Rat) (s:Nat):vc Tryz.prog (lk gO) Tryz.f37.ntmps [(3,best_inv gtR l s)] (Tryz.f37.body.getD .skip) ⟨entryS [.s false [.row 4 l.length (ratsE l s)]] 0,[]⟩ (retVC Tryz.prog Tryz.f37.results.toList (.s true (qsC [(bestR gtR l,s)])))=((Exists fun (i:Nat)=>i≤List.length l∧(SmA (AV.s false [Cell.own 2 0])∧SmA (AV.s false [Cell.own 3 0])∧SmA (AV.s false [Cell.row 4 (List.length l) fun (a:Nat)=>(qsC [(List.getD l a (0:Rat),s)])])∧SmA (AV.s false [Cell.v (Value.int IntKind.i64 (↑(List.length l):Int))])∧AVle (AV.s false [Cell.v (Value.int IntKind.i64 (0:Int))]) (AV.s false [Cell.v (Value.int IntKind.i64 (↑i:Int))])∧True)∧SmB (ABlk.st 37 [Cell.v (Value.slice none 0 0),Cell.f,Cell.v (Value.slice none 0 0),Cell.f])∧ABle (ABlk.st 37 [Cell.v (Value.slice none 0 0),Cell.f,Cell.v (Value.slice none 0 0),Cell.f]) (ABlk.st 37 (qsC [(bestR (fun (a a_1:Rat)=>gtR a a_1) (List.take i l),s)]))∧True)∧∀ (i:Nat),i≤List.length l→(decide ((↑i:Int)<(↑(List.length l):Int))=true→((0:Int)≤(↑i:Int)∧(↑i:Int)<(↑(List.length l):Int))∧(((↑i:Int) == (0:Int))=true→((↑i:Int) == (0:Int))=true∧Exists fun (i':Nat)=>i'≤List.length l∧List.length l-i'<List.length l-i∧(SmA (AV.s false [Cell.own 2 0])∧SmA (AV.s false [Cell.own 3 0])∧SmA (AV.s false [Cell.row 4 (List.length l) fun (a:Nat)=>(qsC [(List.getD l a (0:Rat),s)])])∧SmA (AV.s false [Cell.v (Value.int IntKind.i64 (↑(List.length l):Int))])∧AVle (AV.s false [Cell.v (Value.int IntKind.i64 (IntKind.wrap IntKind.i64 ((↑i:Int)+(1:Int))))]) (AV.s false [Cell.v (Value.int IntKind.i64 (↑i':Int))])∧True)∧SmB (ABlk.st 37 [Cell.v (Value.slice none 0 0),Cell.f,Cell.v (Value.slice none 0 0),Cell.f])∧ABle (ABlk.st 37 (qsC [(List.getD l (Int.toNat (↑i:Int)) (0:Rat),s)])) (ABlk.st 37 (qsC [(bestR (fun (a a_1:Rat)=>gtR a a_1) (List.take i' l),s)]))∧True)∧(((↑i:Int) == (0:Int))=false→((↑i:Int) == (0:Int))=false∧SmC (qsC [(List.getD l (Int.toNat (↑i:Int)) (0:Rat),s)])∧SmC (qsC [(bestR (fun (a a_1:Rat)=>gtR a a_1) (List.take i l),s)])∧(s≤50000∧s≤50000)∧(decide (cmpR (List.getD l (Int.toNat (↑i:Int)) (0:Rat)) (bestR (fun (a a_1:Rat)=>gtR a a_1) (List.take i l))>(0:Int))=true→Exists fun (i':Nat)=>i'≤List.length l∧List.length l-i'<List.length l-i∧(SmA (AV.s false [Cell.own 2 0])∧SmA (AV.s false [Cell.own 3 0])∧SmA (AV.s false [Cell.row 4 (List.length l) fun (a:Nat)=>(qsC [(List.getD l a (0:Rat),s)])])∧SmA (AV.s false [Cell.v (Value.int IntKind.i64 (↑(List.length l):Int))])∧AVle (AV.s false [Cell.v (Value.int IntKind.i64 (IntKind.wrap IntKind.i64 ((↑i:Int)+(1:Int))))]) (AV.s false [Cell.v (Value.int IntKind.i64 (↑i':Int))])∧True)∧SmB (ABlk.st 37 [Cell.v (Value.slice none 0 0),Cell.f,Cell.v (Value.slice none 0 0),Cell.f])∧ABle (ABlk.st 37 (qsC [(List.getD l (Int.toNat (↑i:Int)) (0:Rat),s)])) (ABlk.st 37 (qsC [(bestR (fun (a a_1:Rat)=>gtR a a_1) (List.take i' l),s)]))∧True)∧(decide (cmpR (List.getD l (Int.toNat (↑i:Int)) (0:Rat)) (bestR (fun (a a_1:Rat)=>gtR a a_1) (List.take i l))>(0:Int))=false→Exists fun (i':Nat)=>i'≤List.length l∧List.length l-i'<List.length l-i∧(SmA (AV.s false [Cell.own 2 0])∧SmA (AV.s false [Cell.own 3 0])∧SmA (AV.s false [Cell.row 4 (List.length l) fun (a:Nat)=>(qsC [(List.getD l a (0:Rat),s)])])∧SmA (AV.s false [Cell.v (Value.int IntKind.i64 (↑(List.length l):Int))])∧AVle (AV.s false [Cell.v (Value.int IntKind.i64 (IntKind.wrap IntKind.i64 ((↑i:Int)+(1:Int))))]) (AV.s false [Cell.v (Value.int IntKind.i64 (↑i':Int))])∧True)∧SmB (ABlk.st 37 [Cell.v (Value.slice none 0 0),Cell.f,Cell.v (Value.slice none 0 0),Cell.f])∧ABle (ABlk.st 37 (qsC [(bestR (fun (a a_1:Rat)=>gtR a a_1) (List.take i l),s)])) (ABlk.st 37 (qsC [(bestR (fun (a a_1:Rat)=>gtR a a_1) (List.take i' l),s)]))∧True)))∧(decide ((↑i:Int)<(↑(List.length l):Int))=false→AVle (AV.s true (qsC [(bestR (fun (a a_1:Rat)=>gtR a a_1) (List.take i l),s)])) (AV.s true (qsC [(bestR (fun (a a_1:Rat)=>gtR a a_1) l,s)])))):=by kernel_rfl
def mostS:Spec
 |[.o (.s false [.row 4 n e])]=>some (.s true (qsC [(bestR gtR (ratsL n e),maxL n e)]),[AVle (.s false [.row 4 n e]) (.s false [.row 4 (ratsL n e).length (ratsE (ratsL n e) (maxL n e))]),n≤1000000∧1≤maxL n e∧maxL n e≤50000])
 |_=>none
theorem most_ok (D:Prop) (B:Nat):RunOK Tryz.prog D B 37 (runC mostS):=by
 refine fn_specR (c:=Tryz.f37.body.getD .skip) (ctx_ok (gO_ok D)) (by kernel_rfl) Tryz.func37 (by kernel_rfl) (by kernel_rfl) ?_ B
 intro pvs av ps h hp
 unfold mostS at h
 split at h
 ·rename_i n e
  cases h
  obtain⟨hp1,⟨hp2,hp3,hp4⟩,-⟩:=hp
  refine⟨[.s false [.row 4 (ratsL n e).length (ratsE (ratsL n e) (maxL n e))]],[(3,best_inv gtR (ratsL n e) (maxL n e))],AvsLe.cons hp1 AvsLe.nil,by rw[Tryz.ntmps37];simp,?_⟩
  rw[most_vc]
  have hlen:(ratsL n e).length≤1000000:=by simpa[ratsL] using hp2
  generalize ratsL n e=l at *
  generalize maxL n e=s at *
  simp only[SmA,SmC,SmB,cs_refl,av_refl,ab_refl,true_and,and_true]
  refine⟨⟨0,Nat.zero_le _,AVle.refl _,ABle.st (CsLe.zero hp3)⟩,fun i hi'=>⟨fun hb=> ?_,fun hb=> ?_⟩⟩
  ·have hi:i<l.length:=by simpa using hb
   simp only[Int.toNat_natCast]
   refine⟨by omega,fun h0=>⟨h0,i+1,hi,by omega,AVle.wrap hi (by omega),?_⟩,fun h0=>⟨h0,by omega,fun hc=>⟨i+1,hi,by omega,AVle.wrap hi (by omega),?_⟩,fun hc=>⟨i+1,hi,by omega,AVle.wrap hi (by omega),?_⟩⟩⟩
   ·have:i=0:=by simpa using h0
    rw[show (fun a b=>gtR a b)=gtR from rfl,best_step hi,if_pos this]
    exact ABle.refl _
   ·have h0':¬ i=0:=by simpa using h0
    rw[cmpR_gtR] at hc
    rw[show (fun a b=>gtR a b)=gtR from rfl,best_step hi,if_neg h0',if_pos hc]
    exact ABle.refl _
   ·have h0':¬ i=0:=by simpa using h0
    rw[cmpR_gtR] at hc
    rw[show (fun a b=>gtR a b)=gtR from rfl,best_step hi,if_neg h0',if_neg (by rw[show (fun a b=>gtR a b)=gtR from rfl] at hc;rw[hc];simp)]
    exact ABle.refl _
  ·have hi:l.length≤i:=by simpa using hb
   rw[List.take_of_length_le hi]
   exact AVle.refl _
 ·cases h
end Go.Proofs.YtmagoiniahpofaaGreat
namespace Go.Proofs.YtmagoiniahpofaaGreat
open Go Go.RowKit
def ptsE (l:List (Rat × Rat)) (s:Nat):Nat→List Cell:=fun i=>qsC [((l.getD i (0,0)).1,s),((l.getD i (0,0)).2,s)]
theorem ptsE_cl (l:List (Rat × Rat)) (s i:Nat):(ptsE l s i).all Cell.cl=true:=qsC_cl _
theorem ABle.pts {T:TypeId} {l l':List (Rat × Rat)} {s t:Nat} (h:l=l') (hs:s≤t):ABle (.row T 8 l.length (ptsE l s)) (.row T 8 l'.length (ptsE l' t)):=by
  subst h
  exact ABle.row rfl (fun i hi=>CsLe.q2 ⟨⟨rfl,hs⟩,rfl,hs⟩) (fun i hi=>ptsE_cl _ _ _)
theorem row_lit {l:List (Rat × Rat)} {s t i:Nat} (hi:i<l.length) (hs:s≤t):CsLe ((l.map fun p=>qsC [(p.1,s),(p.2,s)]).getD i []) (ptsE l t i):=by
  simp only[List.getD,List.getElem?_map,ptsE,List.getElem?_eq_getElem hi,Option.map_some,Option.getD_some]
  exact CsLe.q2 ⟨⟨rfl,hs⟩,rfl,hs⟩
theorem lit_cl {l:List (Rat × Rat)} {s i:Nat} (hi:i<l.length):((l.map fun p=>qsC [(p.1,s),(p.2,s)]).getD i []).all Cell.cl=true:=by
  simp only[List.getD,List.getElem?_map,List.getElem?_eq_getElem hi,Option.map_some,Option.getD_some]
  exact qsC_cl _
theorem ABle.lit {T:TypeId} {l:List (Rat × Rat)} {s t:Nat} (hs:s≤t):ABle (.row T 8 l.length fun i=>(l.map fun p=>qsC [(p.1,s),(p.2,s)]).getD i []) (.row T 8 l.length (ptsE l t)):=
  ABle.row rfl (fun _i hi=>row_lit hi hs) (fun _i _hi=>ptsE_cl _ _ _)
theorem AVle.lit {l l':List (Rat × Rat)} {s t:Nat} (h:l=l') (hs:s≤t):AVle (.s false [.row 8 l.length fun i=>(l.map fun p=>qsC [(p.1,s),(p.2,s)]).getD i []]) (.s false [.row 8 l'.length (ptsE l' t)]):=by
  subst h
  exact AVle.one (CLe.row rfl (fun i hi=>row_lit hi hs) (fun i hi=>⟨lit_cl hi,ptsE_cl _ _ _⟩))
theorem ABle.snoc {T:TypeId} {l l':List (Rat × Rat)} {x y:Rat} {s t:Nat} (h:l'=l++[(x,y)]) (hs:t≤s):ABle (.row T 8 (l.length+1) fun j=>if j<l.length then ptsE l s j else [qsC [(x,t),(y,t)]].getD (j-l.length) []) (.row T 8 l'.length (ptsE l' s)):=by
  subst h
  refine ABle.row (by simp) (fun i hi=> ?_) (fun i hi=>ptsE_cl _ _ _)
  split
  · rename_i h1
    have:(l++[(x,y)]).getD i (0,0)=l.getD i (0,0):=by simp[List.getD,List.getElem?_append_left h1]
    simp only[ptsE,this]
    exact CsLe.refl _
  · rename_i h1
    have h2:i=l.length:=by omega
    subst h2
    have:(l++[(x,y)]).getD l.length (0,0)=(x,y):=by simp[List.getD]
    simp only[ptsE,this,Nat.sub_self]
    exact CsLe.q2 ⟨⟨rfl,hs⟩,rfl,hs⟩
def crossM (x1 y1 x2 y2 x3 y3 x4 y4:Rat):Rat:=(x2-x1)*(y4-y3)-(y2-y1)*(x4-x3)
def partI (x1 y1 x2 y2 x3 y3 x4 y4:Rat):Rat:=((x3-x1)*(y4-y3)-(y3-y1)*(x4-x3))/crossM x1 y1 x2 y2 x3 y3 x4 y4
def partK (x1 y1 x2 y2 x3 y3 x4 y4:Rat):Rat:=((x3-x1)*(y2-y1)-(y3-y1)*(x2-x1))/crossM x1 y1 x2 y2 x3 y3 x4 y4
def ends4 (x1 y1 x2 y2 x3 y3 x4 y4:Rat):List (Rat × Rat):=[(x1,y1),(x2,y2),(x3,y3),(x4,y4)]
def on2 (x1 y1 x2 y2 x3 y3 x4 y4:Rat) (p:Rat × Rat):Bool:=onB x1 y1 x2 y2 p.1 p.2 && onB x3 y3 x4 y4 p.1 p.2
def endsM (x1 y1 x2 y2 x3 y3 x4 y4:Rat):List (Rat × Rat):=(ends4 x1 y1 x2 y2 x3 y3 x4 y4).filter (on2 x1 y1 x2 y2 x3 y3 x4 y4)
def lowF (l:List (Rat × Rat)) (o:Rat × Rat):Rat × Rat:=l.foldl (fun o q=>if cmpP2 q.1 q.2 o.1 o.2<0 then q else o) o
def highF (l:List (Rat × Rat)) (o:Rat × Rat):Rat × Rat:=l.foldl (fun o q=>if 0<cmpP2 q.1 q.2 o.1 o.2 then q else o) o
def endM (l:List (Rat × Rat)):List (Rat × Rat):=
  if l=[] then [] else if cmpP2 (lowF l (l.getD 0 (0,0))).1 (lowF l (l.getD 0 (0,0))).2 (highF l (l.getD 0 (0,0))).1 (highF l (l.getD 0 (0,0))).2=0 then [lowF l (l.getD 0 (0,0))] else [lowF l (l.getD 0 (0,0)),highF l (l.getD 0 (0,0))]
def meetP (x1 y1 x2 y2 x3 y3 x4 y4:Rat):List (Rat × Rat):=
  if crossM x1 y1 x2 y2 x3 y3 x4 y4≠0 then
    if partI x1 y1 x2 y2 x3 y3 x4 y4<0∨1<partI x1 y1 x2 y2 x3 y3 x4 y4∨partK x1 y1 x2 y2 x3 y3 x4 y4<0∨1<partK x1 y1 x2 y2 x3 y3 x4 y4 then [] else [(x1+(x2-x1)*partI x1 y1 x2 y2 x3 y3 x4 y4,y1+(y2-y1)*partI x1 y1 x2 y2 x3 y3 x4 y4)]
  else endM (endsM x1 y1 x2 y2 x3 y3 x4 y4)
def mS (s:Nat):Nat:=19*s+12
def crS (s:Nat):Nat:=addS (mulS (addS s s) (addS s s)) (mulS (addS s s) (addS s s))
def qiS (s:Nat):Nat:=mulS (crS s) (crS s)
def segC (x1 y1 x2 y2:Rat) (s:Nat):List Cell:=qsC [(x1,s),(y1,s),(x2,s),(y2,s)]
def m1_inv (x1 y1 x2 y2 x3 y3 x4 y4:Rat) (s:Nat):LInv:=⟨Nat,fun i=>i≤4,fun i=>⟨[(2,.s false [.own 2 0]),(3,.s false [.own 3 0]),(14,.s false [.hd 900]),(116,.s false [.hd 116]),(117,.s false [.v (.int .i64 4)]),(118,.s false [.v (.int .i64 i)])],
  [(2,.st 41 (segC x1 y1 x2 y2 s)),(3,.st 41 (segC x3 y3 x4 y4 s)),(116,.row 39 8 4 (ptsE (ends4 x1 y1 x2 y2 x3 y3 x4 y4) s)),(900,.row 39 8 (((ends4 x1 y1 x2 y2 x3 y3 x4 y4).take i).filter (on2 x1 y1 x2 y2 x3 y3 x4 y4)).length (ptsE (((ends4 x1 y1 x2 y2 x3 y3 x4 y4).take i).filter (on2 x1 y1 x2 y2 x3 y3 x4 y4)) s))]⟩,fun i=>4-i,[.nil 14 900 39 8],[.ren 133 900],none⟩
def hdP (l:List (Rat × Rat)):Rat × Rat:=l.getD 0 (0,0)
def m2_inv (x1 y1 x2 y2 x3 y3 x4 y4:Rat) (s:Nat):LInv:=⟨Nat,fun i=>i≤(endsM x1 y1 x2 y2 x3 y3 x4 y4).length,fun i=>⟨[(17,.s false [.own 17 0]),(18,.s false [.own 18 0]),(144,.s false [.hd 900]),(145,.s false [.v (.int .i64 (endsM x1 y1 x2 y2 x3 y3 x4 y4).length)]),(146,.s false [.v (.int .i64 i)])],
  [(17,.st 39 (qsC [((lowF ((endsM x1 y1 x2 y2 x3 y3 x4 y4).take i) (hdP (endsM x1 y1 x2 y2 x3 y3 x4 y4))).1,s),((lowF ((endsM x1 y1 x2 y2 x3 y3 x4 y4).take i) (hdP (endsM x1 y1 x2 y2 x3 y3 x4 y4))).2,s)])),
   (18,.st 39 (qsC [((highF ((endsM x1 y1 x2 y2 x3 y3 x4 y4).take i) (hdP (endsM x1 y1 x2 y2 x3 y3 x4 y4))).1,s),((highF ((endsM x1 y1 x2 y2 x3 y3 x4 y4).take i) (hdP (endsM x1 y1 x2 y2 x3 y3 x4 y4))).2,s)])),
   (900,.row 39 8 (endsM x1 y1 x2 y2 x3 y3 x4 y4).length (ptsE (endsM x1 y1 x2 y2 x3 y3 x4 y4) s))]⟩,fun i=>(endsM x1 y1 x2 y2 x3 y3 x4 y4).length-i,[],[],none⟩
def gT:List (Nat × Run):=(32,runC onS)::(31,runC atS)::gS
theorem gT_ok:∀ p∈gT,∀ B,RunOK Tryz.prog False B p.1 p.2:=ctx_cons on_ok (ctx_cons at_ok gS_ok)
theorem meet_vc (x1 y1 x2 y2 x3 y3 x4 y4:Rat) (s:Nat):vc Tryz.prog (lk gT) Tryz.f8.ntmps [(13,m1_inv x1 y1 x2 y2 x3 y3 x4 y4 s),(22,m2_inv x1 y1 x2 y2 x3 y3 x4 y4 s)] (Tryz.f8.body.getD .skip) ⟨entryS [.s true (segC x1 y1 x2 y2 s),.s true (segC x3 y3 x4 y4 s)] 0,[]⟩ (retVC Tryz.prog Tryz.f8.results.toList (.s false [.row 8 (meetP x1 y1 x2 y2 x3 y3 x4 y4).length (ptsE (meetP x1 y1 x2 y2 x3 y3 x4 y4) (mS s))]))=(let k0:=endsM x1 y1 x2 y2 x3 y3 x4 y4;let k1:=ends4 x1 y1 x2 y2 x3 y3 x4 y4;let k2:=((0:Rat),(0:Rat));let k3:=fun (zz:Nat)=>(qsC [(Prod.fst (highF (List.take zz k0) (hdP k0)),s),(Prod.snd (highF (List.take zz k0) (hdP k0)),s)]);let k4:=fun (zz:Nat)=>(qsC [(Prod.fst (lowF (List.take zz k0) (hdP k0)),s),(Prod.snd (lowF (List.take zz k0) (hdP k0)),s)]);let k5:=fun (zz:Nat)=>(List.getD k0 (Int.toNat (↑zz:Int)) k2);let k6:=AV.s false [Cell.row 8 (List.length (meetP x1 y1 x2 y2 x3 y3 x4 y4)) (ptsE (meetP x1 y1 x2 y2 x3 y3 x4 y4) (mS s))];let k8:=fun (zz:Nat)=>(List.getD k1 (Int.toNat (↑zz:Int)) k2);let k9:=fun (zz:Nat)=>(AV.s false [Cell.v (Value.int IntKind.i64 (IntKind.wrap IntKind.i64 ((↑zz:Int)+(1:Int))))]);let k11:=fun (zz:Nat)=>(AV.s false [Cell.v (Value.int IntKind.i64 (↑zz:Int))]);let k12:=partI x1 y1 x2 y2 x3 y3 x4 y4;let k13:=qsC [(partI x1 y1 x2 y2 x3 y3 x4 y4,qiS s)];let k15:=fun (zz:Nat)=>(qsC [(Prod.fst (List.getD k0 zz k2),s),(Prod.snd (List.getD k0 zz k2),s)]);let k16:=fun (zz:Nat)=>(qsC [(Prod.fst (k5 zz),s),(Prod.snd (k5 zz),s)]);let k17:=qsC [(x1,s),(y1,s),(x2,s),(y2,s)];let k18:=(0:Int);let k19:=ABlk.st 41 (qsC [(x3,s),(y3,s),(x4,s),(y4,s)]);let k20:=fun (zz:Nat)=>(qsC [(Prod.fst (List.getD k1 zz k2),s),(Prod.snd (List.getD k1 zz k2),s)]);let k21:=AV.s false [Cell.hd 900];let k22:=addS s s;let k23:=AV.s false [Cell.v (Value.slice none 0 0)];let k24:=fun (zz:Nat)=>(List.take zz k1);let k25:=fun (zz:Nat)=>(cmpP2 (Prod.fst (lowF (List.take zz k0) (hdP k0))) (Prod.snd (lowF (List.take zz k0) (hdP k0))) (Prod.fst (highF (List.take zz k0) (hdP k0))) (Prod.snd (highF (List.take zz k0) (hdP k0))) == k18);let k26:=signZ (Rat.num (partK x1 y1 x2 y2 x3 y3 x4 y4))<k18;let k27:=AV.s false [Cell.v (Value.int IntKind.i64 (4:Int))];let k28:=(↑(1:Int):Rat);let k29:=signZ (Rat.num k12)<k18;let k31:=fun (zz:Nat)=>(ABlk.st 39 (k4 zz));let k32:=fun (zz:Nat)=>(ABlk.st 39 (k3 zz));let k33:=fun (zz:Nat)=>(cmpP2 (Prod.fst (k5 zz)) (Prod.snd (k5 zz)) (Prod.fst (lowF (List.take zz k0) (hdP k0))) (Prod.snd (lowF (List.take zz k0) (hdP k0)))<k18);let k34:=fun (zz:Nat)=>(qsC [(Prod.fst (k8 zz),s),(Prod.snd (k8 zz),s)]);let k35:=AV.s false [Cell.own 17 0];let k36:=AV.s false [Cell.own 18 0];let k37:=List.length k0;let k38:=qsC [(crossM x1 y1 x2 y2 x3 y3 x4 y4,crS s)];let k39:=qsC [(partK x1 y1 x2 y2 x3 y3 x4 y4,qiS s)];let k40:=ABlk.st 41 k17;let k41:=AV.s false [Cell.own 2 0];let k42:=AV.s false [Cell.own 3 0];let k43:=AV.s false [Cell.hd 116];let k44:=cmpR k12 k28>k18;let k45:=signZ (Rat.num (crossM x1 y1 x2 y2 x3 y3 x4 y4)) != k18;let k46:=fun (zz:Nat)=>(ABlk.st 39 (k16 zz));let k47:=AV.s false [Cell.v (Value.int IntKind.i64 k18)];let k48:=cmpR (partK x1 y1 x2 y2 x3 y3 x4 y4) k28>k18;let k49:=qsC [(x1,s),(y1,s)];let k50:=qsC [(x3,s),(y3,s)];let k51:=qsC [(k28,3)];let k52:=fun (zz:Nat)=>(Prod.fst (k8 zz));let k53:=fun (zz:Nat)=>(Prod.snd (k8 zz));let k54:=qsC [(x2-x1,addS s s)];let k55:=qsC [(y4-y3,addS s s)];let k56:=qsC [(y2-y1,addS s s)];let k57:=qsC [(x4-x3,addS s s)];let k58:=qsC [(x3-x1,addS s s)];let k59:=qsC [(y3-y1,addS s s)];let k7:=fun (zz:Nat)=>(List.filter (on2 x1 y1 x2 y2 x3 y3 x4 y4) (k24 zz));let k10:=fun (zz:Nat)=>(cmpP2 (Prod.fst (k5 zz)) (Prod.snd (k5 zz)) (Prod.fst (highF (List.take zz k0) (hdP k0))) (Prod.snd (highF (List.take zz k0) (hdP k0)))>k18);let k14:=AV.s false [Cell.v (Value.int IntKind.i64 (↑k37:Int))];let k30:=fun (zz:Nat)=>(List.length (k7 zz));SmC (qsC [(x2,s),(y2,s)])∧SmC k49∧(s≤50000∧s≤50000∧s≤50000∧s≤50000)∧SmC (qsC [(x4,s),(y4,s)])∧SmC k50∧(s≤50000∧s≤50000∧s≤50000∧s≤50000)∧SmC k54∧SmC k55∧(addS s s≤50000∧addS s s≤50000)∧SmC k56∧SmC k57∧(addS s s≤50000∧addS s s≤50000)∧SmC (qsC [((x2-x1)*(y4-y3),mulS k22 k22)])∧SmC (qsC [((y2-y1)*(x4-x3),mulS k22 k22)])∧(mulS k22 k22≤50000∧mulS k22 k22≤50000)∧SmC k38∧crS s≤50000∧(k45=true→SmC k50∧SmC k49∧(s≤50000∧s≤50000∧s≤50000∧s≤50000)∧SmC k58∧SmC k55∧(addS s s≤50000∧addS s s≤50000)∧SmC k59∧SmC k57∧(addS s s≤50000∧addS s s≤50000)∧SmC (qsC [((x3-x1)*(y4-y3),mulS k22 k22)])∧SmC (qsC [((y3-y1)*(x4-x3),mulS k22 k22)])∧(mulS k22 k22≤50000∧mulS k22 k22≤50000)∧SmC (qsC [((x3-x1)*(y4-y3)-(y3-y1)*(x4-x3),crS s)])∧SmC k38∧(crS s≤50000∧crS s≤50000)∧crossM x1 y1 x2 y2 x3 y3 x4 y4≠(0:Rat)∧SmC k58∧SmC k56∧(addS s s≤50000∧addS s s≤50000)∧SmC k59∧SmC k54∧(addS s s≤50000∧addS s s≤50000)∧SmC (qsC [((x3-x1)*(y2-y1),mulS k22 k22)])∧SmC (qsC [((y3-y1)*(x2-x1),mulS k22 k22)])∧(mulS k22 k22≤50000∧mulS k22 k22≤50000)∧SmC (qsC [((x3-x1)*(y2-y1)-(y3-y1)*(x2-x1),crS s)])∧SmC k38∧(crS s≤50000∧crS s≤50000)∧crossM x1 y1 x2 y2 x3 y3 x4 y4≠(0:Rat)∧I64s (1:Int)∧CsLe [Cell.z (1:Int) 2 0,Cell.z (1:Int) 2 1] [Cell.z (1:Int) 2 0,Cell.z (1:Int) 2 1]∧(decide k29=true→SmC k13∧qiS s≤50000∧decide k29=true∧AVle k23 k6)∧(decide k29=false→(decide k44=true→SmC k13∧qiS s≤50000∧decide k29=false∧SmC k13∧SmC k51∧(qiS s≤50000∧3≤50000)∧decide k44=true∧AVle k23 k6)∧(decide k44=false→(decide k26=true→SmC k13∧qiS s≤50000∧decide k29=false∧SmC k13∧SmC k51∧(qiS s≤50000∧3≤50000)∧decide k44=false∧SmC k39∧qiS s≤50000∧decide k26=true∧AVle k23 k6)∧(decide k26=false→SmC k13∧qiS s≤50000∧decide k29=false∧SmC k13∧SmC k51∧(qiS s≤50000∧3≤50000)∧decide k44=false∧SmC k39∧qiS s≤50000∧decide k26=false∧SmC k39∧SmC k51∧(qiS s≤50000∧3≤50000)∧(decide k48=true→AVle k23 k6)∧(decide k48=false→SmC k17∧SmC k13∧(s≤10000∧s≤10000∧s≤10000∧s≤10000∧qiS s≤25000)∧AVle (AV.s false [Cell.row 8 1 fun (i:Nat)=>List.getD [(qsC [(x1+(x2-x1)*k12,addS s (mulS k22 (qiS s))),(y1+(y2-y1)*k12,addS s (mulS k22 (qiS s)))])] i []]) k6)))))∧(k45=false→(Exists fun (i:Nat)=>i≤4∧(SmA k41∧SmA k42∧SmA k21∧SmA k43∧AVle (AV.s false [Cell.v (Value.int IntKind.i64 (↑4:Int))]) k27∧AVle k47 (k11 i)∧True)∧SmB k40∧SmB k19∧ABle (ABlk.row 39 8 4 fun (i:Nat)=>List.getD [k49,(qsC [(x2,s),(y2,s)]),k50,(qsC [(x4,s),(y4,s)])] i []) (ABlk.row 39 8 4 fun (a:Nat)=>(k20 a))∧ABle (ABlk.row 39 8 0 fun (_x:Nat)=>[]) (ABlk.row 39 8 (k30 i) fun (a:Nat)=>(qsC [(Prod.fst (List.getD (List.filter (fun (p:Rat × Rat)=>on2 x1 y1 x2 y2 x3 y3 x4 y4 p) (k24 i)) a k2),s),(Prod.snd (List.getD (List.filter (fun (p:Rat × Rat)=>on2 x1 y1 x2 y2 x3 y3 x4 y4 p) (k24 i)) a k2),s)]))∧True)∧∀ (i:Nat),i≤4→(decide ((↑i:Int)<(4:Int))=true→(k18≤(↑i:Int)∧(↑i:Int)<(↑4:Int))∧Int.toNat (↑i:Int)<4∧(onB x1 y1 x2 y2 (k52 i) (k53 i)=true→SmC k17∧SmC (k34 i)∧(s≤10000∧s≤10000∧s≤10000∧s≤10000∧s≤10000∧s≤10000)∧onB x1 y1 x2 y2 (k52 i) (k53 i)=true∧SmC (qsC [(x3,s),(y3,s),(x4,s),(y4,s)])∧SmC (k34 i)∧(s≤10000∧s≤10000∧s≤10000∧s≤10000∧s≤10000∧s≤10000)∧(onB x3 y3 x4 y4 (k52 i) (k53 i)=true→(0≤1∧(List.length (k7 i)+1)*128≤140737488355328)∧Exists fun (i':Nat)=>i'≤4∧4-i'<4-i∧(SmA k41∧SmA k42∧SmA k21∧SmA k43∧SmA k27∧AVle (k9 i) (k11 i')∧True)∧SmB k40∧SmB k19∧SmB (ABlk.row 39 8 4 fun (a:Nat)=>(k20 a))∧ABle (ABlk.row 39 8 (List.length (k7 i)+1) fun (j:Nat)=>if j<List.length (k7 i) then (qsC [(Prod.fst (List.getD (List.filter (fun (p:Rat × Rat)=>on2 x1 y1 x2 y2 x3 y3 x4 y4 p) (k24 i)) j k2),s),(Prod.snd (List.getD (List.filter (fun (p:Rat × Rat)=>on2 x1 y1 x2 y2 x3 y3 x4 y4 p) (k24 i)) j k2),s)]) else List.getD [(k34 i)] (j-List.length (k7 i)) []) (ABlk.row 39 8 (k30 i') fun (a:Nat)=>(qsC [(Prod.fst (List.getD (List.filter (fun (p:Rat × Rat)=>on2 x1 y1 x2 y2 x3 y3 x4 y4 p) (k24 i')) a k2),s),(Prod.snd (List.getD (List.filter (fun (p:Rat × Rat)=>on2 x1 y1 x2 y2 x3 y3 x4 y4 p) (k24 i')) a k2),s)]))∧True)∧(onB x3 y3 x4 y4 (k52 i) (k53 i)=false→Exists fun (i':Nat)=>i'≤4∧4-i'<4-i∧(SmA k41∧SmA k42∧SmA k21∧SmA k43∧SmA k27∧AVle (k9 i) (k11 i')∧True)∧SmB k40∧SmB k19∧SmB (ABlk.row 39 8 4 fun (a:Nat)=>(k20 a))∧ABle (ABlk.row 39 8 (k30 i) fun (a:Nat)=>(qsC [(Prod.fst (List.getD (List.filter (fun (p:Rat × Rat)=>on2 x1 y1 x2 y2 x3 y3 x4 y4 p) (k24 i)) a k2),s),(Prod.snd (List.getD (List.filter (fun (p:Rat × Rat)=>on2 x1 y1 x2 y2 x3 y3 x4 y4 p) (k24 i)) a k2),s)])) (ABlk.row 39 8 (k30 i') fun (a:Nat)=>(qsC [(Prod.fst (List.getD (List.filter (fun (p:Rat × Rat)=>on2 x1 y1 x2 y2 x3 y3 x4 y4 p) (k24 i')) a k2),s),(Prod.snd (List.getD (List.filter (fun (p:Rat × Rat)=>on2 x1 y1 x2 y2 x3 y3 x4 y4 p) (k24 i')) a k2),s)]))∧True))∧(onB x1 y1 x2 y2 (k52 i) (k53 i)=false→SmC k17∧SmC (k34 i)∧(s≤10000∧s≤10000∧s≤10000∧s≤10000∧s≤10000∧s≤10000)∧onB x1 y1 x2 y2 (k52 i) (k53 i)=false∧Exists fun (i':Nat)=>i'≤4∧4-i'<4-i∧(SmA k41∧SmA k42∧SmA k21∧SmA k43∧SmA k27∧AVle (k9 i) (k11 i')∧True)∧SmB k40∧SmB k19∧SmB (ABlk.row 39 8 4 fun (a:Nat)=>(k20 a))∧ABle (ABlk.row 39 8 (k30 i) fun (a:Nat)=>(qsC [(Prod.fst (List.getD (List.filter (fun (p:Rat × Rat)=>on2 x1 y1 x2 y2 x3 y3 x4 y4 p) (k24 i)) a k2),s),(Prod.snd (List.getD (List.filter (fun (p:Rat × Rat)=>on2 x1 y1 x2 y2 x3 y3 x4 y4 p) (k24 i)) a k2),s)])) (ABlk.row 39 8 (k30 i') fun (a:Nat)=>(qsC [(Prod.fst (List.getD (List.filter (fun (p:Rat × Rat)=>on2 x1 y1 x2 y2 x3 y3 x4 y4 p) (k24 i')) a k2),s),(Prod.snd (List.getD (List.filter (fun (p:Rat × Rat)=>on2 x1 y1 x2 y2 x3 y3 x4 y4 p) (k24 i')) a k2),s)]))∧True))∧(decide ((↑i:Int)<(4:Int))=false→(((↑(k30 i):Int) == k18)=true→AVle k23 k6)∧(((↑(k30 i):Int) == k18)=false→(k18≤k18∧k18<(↑(k30 i):Int))∧0<List.length (List.filter (fun (p:Rat × Rat)=>on2 x1 y1 x2 y2 x3 y3 x4 y4 p) (k24 i))∧(k18≤k18∧k18<(↑(k30 i):Int))∧0<List.length (List.filter (fun (p:Rat × Rat)=>on2 x1 y1 x2 y2 x3 y3 x4 y4 p) (k24 i))∧(Exists fun (i_1:Nat)=>i_1≤List.length k0∧(SmA k35∧SmA k36∧SmA k21∧AVle (AV.s false [Cell.v (Value.int IntKind.i64 (↑(k30 i):Int))]) k14∧AVle k47 (k11 i_1)∧True)∧ABle (ABlk.st 39 (qsC [(Prod.fst (List.getD (List.filter (fun (p:Rat × Rat)=>on2 x1 y1 x2 y2 x3 y3 x4 y4 p) (k24 i)) 0 k2),s),(Prod.snd (List.getD (List.filter (fun (p:Rat × Rat)=>on2 x1 y1 x2 y2 x3 y3 x4 y4 p) (k24 i)) 0 k2),s)])) (k31 i_1)∧ABle (ABlk.st 39 (qsC [(Prod.fst (List.getD (List.filter (fun (p:Rat × Rat)=>on2 x1 y1 x2 y2 x3 y3 x4 y4 p) (k24 i)) 0 k2),s),(Prod.snd (List.getD (List.filter (fun (p:Rat × Rat)=>on2 x1 y1 x2 y2 x3 y3 x4 y4 p) (k24 i)) 0 k2),s)])) (k32 i_1)∧ABle (ABlk.row 39 8 (k30 i) fun (a:Nat)=>(qsC [(Prod.fst (List.getD (List.filter (fun (p:Rat × Rat)=>on2 x1 y1 x2 y2 x3 y3 x4 y4 p) (k24 i)) a k2),s),(Prod.snd (List.getD (List.filter (fun (p:Rat × Rat)=>on2 x1 y1 x2 y2 x3 y3 x4 y4 p) (k24 i)) a k2),s)])) (ABlk.row 39 8 k37 fun (a:Nat)=>(k15 a))∧True)∧∀ (i:Nat),i≤List.length k0→(decide ((↑i:Int)<(↑k37:Int))=true→(k18≤(↑i:Int)∧(↑i:Int)<(↑k37:Int))∧Int.toNat (↑i:Int)<List.length k0∧SmC (k16 i)∧SmC (k4 i)∧(s≤50000∧s≤50000∧s≤50000∧s≤50000)∧(decide (k33 i)=true→SmC (k16 i)∧SmC (k3 i)∧(s≤50000∧s≤50000∧s≤50000∧s≤50000)∧(decide (k10 i)=true→Exists fun (i':Nat)=>i'≤List.length k0∧List.length k0-i'<List.length k0-i∧(SmA k35∧SmA k36∧SmA k21∧SmA k14∧AVle (k9 i) (k11 i')∧True)∧ABle (k46 i) (k31 i')∧ABle (k46 i) (k32 i')∧SmB (ABlk.row 39 8 k37 fun (a:Nat)=>(k15 a))∧True)∧(decide (k10 i)=false→Exists fun (i':Nat)=>i'≤List.length k0∧List.length k0-i'<List.length k0-i∧(SmA k35∧SmA k36∧SmA k21∧SmA k14∧AVle (k9 i) (k11 i')∧True)∧ABle (k46 i) (k31 i')∧ABle (k32 i) (k32 i')∧SmB (ABlk.row 39 8 k37 fun (a:Nat)=>(k15 a))∧True))∧(decide (k33 i)=false→SmC (k16 i)∧SmC (k3 i)∧(s≤50000∧s≤50000∧s≤50000∧s≤50000)∧(decide (k10 i)=true→Exists fun (i':Nat)=>i'≤List.length k0∧List.length k0-i'<List.length k0-i∧(SmA k35∧SmA k36∧SmA k21∧SmA k14∧AVle (k9 i) (k11 i')∧True)∧ABle (k31 i) (k31 i')∧ABle (k46 i) (k32 i')∧SmB (ABlk.row 39 8 k37 fun (a:Nat)=>(k15 a))∧True)∧(decide (k10 i)=false→Exists fun (i':Nat)=>i'≤List.length k0∧List.length k0-i'<List.length k0-i∧(SmA k35∧SmA k36∧SmA k21∧SmA k14∧AVle (k9 i) (k11 i')∧True)∧ABle (k31 i) (k31 i')∧ABle (k32 i) (k32 i')∧SmB (ABlk.row 39 8 k37 fun (a:Nat)=>(k15 a))∧True)))∧(decide ((↑i:Int)<(↑k37:Int))=false→SmC (k4 i)∧SmC (k3 i)∧(s≤50000∧s≤50000∧s≤50000∧s≤50000)∧((k25 i)=true→AVle (AV.s false [Cell.row 8 1 fun (i_1:Nat)=>List.getD [(k4 i)] i_1 []]) k6)∧((k25 i)=false→AVle (AV.s false [Cell.row 8 2 fun (i_1:Nat)=>List.getD [(k4 i),(k3 i)] i_1 []]) k6)))))):=by kernel_rfl
theorem lowF_succ {l:List (Rat × Rat)} {o:Rat × Rat} {i:Nat} (h:i<l.length):lowF (l.take (i+1)) o=if cmpP2 (l.getD i (0,0)).1 (l.getD i (0,0)).2 (lowF (l.take i) o).1 (lowF (l.take i) o).2<0 then l.getD i (0,0) else lowF (l.take i) o:=by
  have h':l[i]? =some (l.getD i (0,0)):=by simp[List.getD,h]
  unfold lowF
  rw[List.take_add_one,h',List.foldl_append]
  rfl
theorem highF_succ {l:List (Rat × Rat)} {o:Rat × Rat} {i:Nat} (h:i<l.length):highF (l.take (i+1)) o=if 0<cmpP2 (l.getD i (0,0)).1 (l.getD i (0,0)).2 (highF (l.take i) o).1 (highF (l.take i) o).2 then l.getD i (0,0) else highF (l.take i) o:=by
  have h':l[i]? =some (l.getD i (0,0)):=by simp[List.getD,h]
  unfold highF
  rw[List.take_add_one,h',List.foldl_append]
  rfl
theorem sign_nz (q:Rat):signZ q.num=0↔q=0:=by
  rw[← Rat.num_eq_zero]
  unfold signZ
  constructor
  · intro h
    split at h<;>(try split at h)<;>first | assumption | omega
  · intro h
    rw[h]
    rfl
theorem sign_neg (q:Rat):signZ q.num<0↔q<0:=by
  have h:q<0↔q.num<0:=by rw[Rat.lt_iff];simp
  rw[h]
  unfold signZ
  constructor
  · intro k
    split at k<;>(try split at k)<;>omega
  · intro k
    split<;>(try split)<;>omega
theorem cmpR_pos (q p:Rat):0<cmpR q p↔p<q:=by
  unfold cmpR
  constructor
  · intro h
    split at h
    · omega
    · split at h
      · assumption
      · omega
  · intro h
    rw[if_neg (Rat.not_lt.2 (Rat.le_of_lt h)),if_pos h]
    decide
theorem ABle.more {T:TypeId} {l:List (Rat × Rat)} {f:Rat × Rat→Bool} {s i:Nat} (hi:i<l.length) (h:f (l.getD i (0,0))=true):ABle (.row T 8 (((l.take i).filter f).length+1) fun j=>if j<((l.take i).filter f).length then ptsE ((l.take i).filter f) s j else [qsC [((l.getD i (0,0)).1,s),((l.getD i (0,0)).2,s)]].getD (j-((l.take i).filter f).length) []) (.row T 8 ((l.take (i+1)).filter f).length (ptsE ((l.take (i+1)).filter f) s)):=by
  refine ABle.snoc ?_ (Nat.le_refl _)
  have h':l[i]? =some (l.getD i (0,0)):=by simp[List.getD,hi]
  rw[List.take_add_one,h',List.filter_append]
  simp only[Option.toList_some,List.filter_cons,h,List.filter_nil]
  simp
theorem ABle.same {T:TypeId} {l:List (Rat × Rat)} {f:Rat × Rat→Bool} {s i:Nat} (hi:i<l.length) (h:f (l.getD i (0,0))=false):ABle (.row T 8 ((l.take i).filter f).length (ptsE ((l.take i).filter f) s)) (.row T 8 ((l.take (i+1)).filter f).length (ptsE ((l.take (i+1)).filter f) s)):=by
  refine ABle.pts ?_ (Nat.le_refl _)
  have h':l[i]? =some (l.getD i (0,0)):=by simp[List.getD,hi]
  rw[List.take_add_one,h',List.filter_append]
  simp only[Option.toList_some,List.filter_cons,h,List.filter_nil]
  simp
theorem nz_bool (q:Rat):(signZ q.num != 0)=decide (q≠0):=by
  by_cases h:q=0
  · rw[(sign_nz q).2 h];simp[h]
  · have:signZ q.num≠0:=fun e=>h ((sign_nz q).1 e)
    simp[this,h]
theorem neg_bool (q:Rat):decide (signZ q.num<0)=decide (q<0):=by simp only[sign_neg]
theorem pos_bool (q p:Rat):decide (cmpR q p>0)=decide (p<q):=by simp only[GT.gt,cmpR_pos]
def max8 (a b c d e f g h:Nat):Nat:=max (max (max a b) (max c d)) (max (max e f) (max g h))
def meetS:Spec
  |[.q [(x1,s1),(y1,t1),(x2,s2),(y2,t2)],.q [(x3,s3),(y3,t3),(x4,s4),(y4,t4)]]=>some (.s false [.row 8 (meetP x1 y1 x2 y2 x3 y3 x4 y4).length (ptsE (meetP x1 y1 x2 y2 x3 y3 x4 y4) (mS (max8 s1 t1 s2 t2 s3 t3 s4 t4)))],[max8 s1 t1 s2 t2 s3 t3 s4 t4≤1500])
  |_=>none
theorem meet_ok (B:Nat):RunOK Tryz.prog False B 8 (runC meetS):=by
  refine fn_specR (c:=Tryz.f8.body.getD .skip) (ctx_ok (gT_ok)) (by kernel_rfl) Tryz.func8 (by kernel_rfl) (by kernel_rfl) ?_ B
  intro pvs av ps h hp
  unfold meetS at h
  split at h
  · rename_i x1 s1 y1 t1 x2 s2 y2 t2 x3 s3 y3 t3 x4 s4 y4 t4
    cases h
    obtain⟨hs,-⟩:=hp
    have hm:(s1≤max8 s1 t1 s2 t2 s3 t3 s4 t4∧t1≤max8 s1 t1 s2 t2 s3 t3 s4 t4∧s2≤max8 s1 t1 s2 t2 s3 t3 s4 t4∧t2≤max8 s1 t1 s2 t2 s3 t3 s4 t4)∧s3≤max8 s1 t1 s2 t2 s3 t3 s4 t4∧t3≤max8 s1 t1 s2 t2 s3 t3 s4 t4∧s4≤max8 s1 t1 s2 t2 s3 t3 s4 t4∧t4≤max8 s1 t1 s2 t2 s3 t3 s4 t4:=by unfold max8;omega
    generalize max8 s1 t1 s2 t2 s3 t3 s4 t4=s at *
    obtain⟨⟨m1,m2,m3,m4⟩,m5,m6,m7,m8⟩:=hm
    refine⟨[.s true (segC x1 y1 x2 y2 s),.s true (segC x3 y3 x4 y4 s)],[(13,m1_inv x1 y1 x2 y2 x3 y3 x4 y4 s),(22,m2_inv x1 y1 x2 y2 x3 y3 x4 y4 s)],AvsLe.cons (AVle.s (CsLe.q4 ⟨⟨rfl,m1⟩,⟨rfl,m2⟩,⟨rfl,m3⟩,rfl,m4⟩)) (AvsLe.cons (AVle.s (CsLe.q4 ⟨⟨rfl,m5⟩,⟨rfl,m6⟩,⟨rfl,m7⟩,rfl,m8⟩)) AvsLe.nil),by rw[Tryz.ntmps8];simp,?_⟩
    clear m1 m2 m3 m4 m5 m6 m7 m8
    rw[meet_vc]
    have b1:s≤50000:=by omega
    have b2:s≤10000:=by omega
    have b3:addS s s≤50000:=by simp only[addS];omega
    have b4:mulS (addS s s) (addS s s)≤50000:=by simp only[addS,mulS];omega
    have b5:crS s≤50000:=by simp only[crS,addS,mulS];omega
    have b6:qiS s≤25000:=by simp only[qiS,crS,addS,mulS];omega
    have b7:qiS s≤50000:=by omega
    have b8:addS s (mulS (addS s s) (qiS s))≤mS s:=by simp only[mS,qiS,crS,addS,mulS];omega
    have b9:(3:Nat)≤50000:=by omega
    have bs:s≤mS s:=by simp only[mS];omega
    have bz:I64s (1:Int):=by unfold I64s;omega
    have c1:((1:Int):Rat)=1:=rfl
    simp only[SmA,SmC,SmB,cs_refl,av_refl,ab_refl,true_and,and_true,b1,b2,b3,b4,b5,b6,b7,b9,bz,c1,nz_bool,neg_bool,pos_bool,Int.toNat_natCast,decide_eq_true_eq,decide_eq_false_iff_not,gt_iff_lt,beq_iff_eq,beq_eq_false_iff_ne]
    have nil:crossM x1 y1 x2 y2 x3 y3 x4 y4≠0→(partI x1 y1 x2 y2 x3 y3 x4 y4<0∨1<partI x1 y1 x2 y2 x3 y3 x4 y4∨partK x1 y1 x2 y2 x3 y3 x4 y4<0∨1<partK x1 y1 x2 y2 x3 y3 x4 y4)→AVle (.s false [.v (.slice none 0 0)]) (.s false [.row 8 (meetP x1 y1 x2 y2 x3 y3 x4 y4).length (ptsE (meetP x1 y1 x2 y2 x3 y3 x4 y4) (mS s))]):=fun h1 h2=>AVle.one (CLe.nilrow (by unfold meetP;rw[if_pos h1,if_pos h2];rfl))
    refine⟨fun hz=>⟨hz,hz,fun h1=>⟨h1,nil hz (.inl h1)⟩,fun h1=>⟨fun h2=>⟨h1,h2,nil hz (.inr (.inl h2))⟩,fun h2=>⟨fun h3=>⟨h1,h2,h3,nil hz (.inr (.inr (.inl h3)))⟩,fun h3=>⟨h1,h2,h3,fun h4=>nil hz (.inr (.inr (.inr h4))),fun h4=> ?_⟩⟩⟩⟩,fun hz=> ?_⟩
    · have hm:meetP x1 y1 x2 y2 x3 y3 x4 y4=[(x1+(x2-x1)*partI x1 y1 x2 y2 x3 y3 x4 y4,y1+(y2-y1)*partI x1 y1 x2 y2 x3 y3 x4 y4)]:=by
        unfold meetP
        rw[if_pos hz,if_neg (by rintro (h | h | h | h)<;>contradiction)]
      exact AVle.lit (l:=[(x1+(x2-x1)*partI x1 y1 x2 y2 x3 y3 x4 y4,y1+(y2-y1)*partI x1 y1 x2 y2 x3 y3 x4 y4)]) hm.symm b8
    · have hm:meetP x1 y1 x2 y2 x3 y3 x4 y4=endM (endsM x1 y1 x2 y2 x3 y3 x4 y4):=by
        unfold meetP
        rw[if_neg hz]
      rw[hm]
      have hl:(ends4 x1 y1 x2 y2 x3 y3 x4 y4).length=4:=rfl
      refine⟨⟨0,by omega,AVle.refl _,ABle.lit (l:=ends4 x1 y1 x2 y2 x3 y3 x4 y4) (Nat.le_refl _),ABle.row rfl (fun i hi=>absurd hi (Nat.not_lt_zero _)) (fun i hi=>absurd hi (Nat.not_lt_zero _))⟩,fun i hi=>⟨fun hb=>⟨by omega,by omega,?_,?_⟩,fun hb=> ?_⟩⟩
      · have hlt:i<4:=by omega
        have hw:AVle (.s false [.v (.int .i64 (IntKind.i64.wrap ((i:Int)+1)))]) (.s false [.v (.int .i64 ((i+1:Nat):Int))]):=AVle.wrap hlt (by omega)
        refine fun h1=>⟨h1,fun h2=>⟨⟨by omega,?_⟩,i+1,by omega,by omega,hw,?_⟩,fun h2=>⟨i+1,by omega,by omega,hw,?_⟩⟩
        · have:=List.length_filter_le (on2 x1 y1 x2 y2 x3 y3 x4 y4) ((ends4 x1 y1 x2 y2 x3 y3 x4 y4).take i)
          rw[List.length_take] at this
          omega
        · exact ABle.more (l:=ends4 x1 y1 x2 y2 x3 y3 x4 y4) (f:=on2 x1 y1 x2 y2 x3 y3 x4 y4) (i:=i) hlt (by unfold on2;rw[h1,h2];rfl)
        · exact ABle.same (l:=ends4 x1 y1 x2 y2 x3 y3 x4 y4) (f:=on2 x1 y1 x2 y2 x3 y3 x4 y4) (i:=i) hlt (by unfold on2;rw[h1,h2];rfl)
      · have hlt:i<4:=by omega
        have hw:AVle (.s false [.v (.int .i64 (IntKind.i64.wrap ((i:Int)+1)))]) (.s false [.v (.int .i64 ((i+1:Nat):Int))]):=AVle.wrap hlt (by omega)
        exact fun h1=>⟨h1,i+1,by omega,by omega,hw,ABle.same (l:=ends4 x1 y1 x2 y2 x3 y3 x4 y4) (f:=on2 x1 y1 x2 y2 x3 y3 x4 y4) (i:=i) hlt (by unfold on2;rw[h1];rfl)⟩
      · have h4:i=4:=by omega
        subst h4
        have ht:(ends4 x1 y1 x2 y2 x3 y3 x4 y4).take 4=ends4 x1 y1 x2 y2 x3 y3 x4 y4:=rfl
        have hf:(ends4 x1 y1 x2 y2 x3 y3 x4 y4).filter (fun p=>on2 x1 y1 x2 y2 x3 y3 x4 y4 p)=endsM x1 y1 x2 y2 x3 y3 x4 y4:=rfl
        have hf':(ends4 x1 y1 x2 y2 x3 y3 x4 y4).filter (on2 x1 y1 x2 y2 x3 y3 x4 y4)=endsM x1 y1 x2 y2 x3 y3 x4 y4:=rfl
        simp only[ht,hf]
        have hle:(endsM x1 y1 x2 y2 x3 y3 x4 y4).length≤4:=by
          have:=List.length_filter_le (on2 x1 y1 x2 y2 x3 y3 x4 y4) (ends4 x1 y1 x2 y2 x3 y3 x4 y4)
          rw[hf'] at this
          exact this
        have he:∀ h:(endsM x1 y1 x2 y2 x3 y3 x4 y4).length≠0,endM (endsM x1 y1 x2 y2 x3 y3 x4 y4)=if cmpP2 (lowF (endsM x1 y1 x2 y2 x3 y3 x4 y4) (hdP (endsM x1 y1 x2 y2 x3 y3 x4 y4))).1 (lowF (endsM x1 y1 x2 y2 x3 y3 x4 y4) (hdP (endsM x1 y1 x2 y2 x3 y3 x4 y4))).2 (highF (endsM x1 y1 x2 y2 x3 y3 x4 y4) (hdP (endsM x1 y1 x2 y2 x3 y3 x4 y4))).1 (highF (endsM x1 y1 x2 y2 x3 y3 x4 y4) (hdP (endsM x1 y1 x2 y2 x3 y3 x4 y4))).2=0 then [lowF (endsM x1 y1 x2 y2 x3 y3 x4 y4) (hdP (endsM x1 y1 x2 y2 x3 y3 x4 y4))] else [lowF (endsM x1 y1 x2 y2 x3 y3 x4 y4) (hdP (endsM x1 y1 x2 y2 x3 y3 x4 y4)),highF (endsM x1 y1 x2 y2 x3 y3 x4 y4) (hdP (endsM x1 y1 x2 y2 x3 y3 x4 y4))]:=by
          intro h
          unfold endM
          rw[if_neg (fun e=>h (by rw[e];rfl))]
          rfl
        generalize endsM x1 y1 x2 y2 x3 y3 x4 y4=l at *
        refine⟨fun h0=>AVle.one (CLe.nilrow (by have:l=[]:=List.eq_nil_of_length_eq_zero (by omega);rw[this];rfl)),fun h0=>⟨by omega,by omega,by omega,by omega,⟨0,by omega,⟨AVle.refl _,AVle.refl _⟩,ABle.refl _,ABle.refl _,ABle.refl _⟩,fun i hi=>⟨fun hb=>⟨by omega,by omega,?_⟩,fun hb=> ?_⟩⟩⟩
        · have hlt:i<l.length:=by omega
          have hw:AVle (.s false [.v (.int .i64 (IntKind.i64.wrap ((i:Int)+1)))]) (.s false [.v (.int .i64 ((i+1:Nat):Int))]):=AVle.wrap hlt (by omega)
          have hlo:=lowF_succ (o:=hdP l) hlt
          have hhi:=highF_succ (o:=hdP l) hlt
          refine⟨fun h1=>⟨fun h2=>⟨i+1,by omega,by omega,hw,?_,?_⟩,fun h2=>⟨i+1,by omega,by omega,hw,?_,?_⟩⟩,fun h1=>⟨fun h2=>⟨i+1,by omega,by omega,hw,?_,?_⟩,fun h2=>⟨i+1,by omega,by omega,hw,?_,?_⟩⟩⟩
          · rw[hlo,if_pos h1];exact ABle.refl _
          · rw[hhi,if_pos h2];exact ABle.refl _
          · rw[hlo,if_pos h1];exact ABle.refl _
          · rw[hhi,if_neg h2];exact ABle.refl _
          · rw[hlo,if_neg h1];exact ABle.refl _
          · rw[hhi,if_pos h2];exact ABle.refl _
          · rw[hlo,if_neg h1];exact ABle.refl _
          · rw[hhi,if_neg h2];exact ABle.refl _
        · have hi':l.take i=l:=List.take_of_length_le (by omega)
          rw[hi',he (by omega)]
          refine⟨fun h=> ?_,fun h=> ?_⟩
          · rw[if_pos h]
            exact AVle.lit (l:=[lowF l (hdP l)]) rfl bs
          · rw[if_neg h]
            exact AVle.lit (l:=[lowF l (hdP l),highF l (hdP l)]) rfl bs
  · cases h
end Go.Proofs.YtmagoiniahpofaaGreat
namespace Go.Proofs.YtmagoiniahpofaaGreat
open Go Go.RowKit
theorem grid_vc (x y:Int):vc Tryz.prog (lk gA) Tryz.f45.ntmps [] (Tryz.f45.body.getD .skip) ⟨entryS [.s true [.v (.int .i64 x),.v (.int .i64 y)]] 0,[]⟩ (retVC Tryz.prog Tryz.f45.results.toList (.s true (qsC [((x:Rat),3),((y:Rat),3)])))=(I64s x∧CsLe [Cell.z x 2 0,Cell.z x 2 1] [Cell.z x 2 0,Cell.z x 2 1]∧I64s y∧CsLe [Cell.z y 2 0,Cell.z y 2 1] [Cell.z y 2 0,Cell.z y 2 1]∧SmA (AV.s true (qsC [((↑x:Rat),3),((↑y:Rat),3)]))):=by kernel_rfl
def gridS:Spec
 |[.o (.s true [.v (.int .i64 x),.v (.int .i64 y)])]=>some (.s true (qsC [((x:Rat),3),((y:Rat),3)]),[I64s x∧I64s y])
 |_=>none
theorem grid_ok (B:Nat):RunOK Tryz.prog False B 45 (runC gridS):=by
 refine fn_specR (c:=Tryz.f45.body.getD .skip) (ctx_ok (gA_ok)) (by kernel_rfl) Tryz.func45 (by kernel_rfl) (by kernel_rfl) ?_ B
 intro pvs av ps h hp
 unfold gridS at h
 split at h
 ·rename_i x y
  cases h
  obtain⟨⟨h1,h2⟩,-⟩:=hp
  refine⟨[.s true [.v (.int .i64 x),.v (.int .i64 y)]],[],AvsLe.refl _,by rw[Tryz.ntmps45];simp,?_⟩
  rw[grid_vc]
  simp only[SmA,cs_refl,av_refl,true_and,and_true]
  exact⟨h1,h2⟩
 ·cases h
end Go.Proofs.YtmagoiniahpofaaGreat
