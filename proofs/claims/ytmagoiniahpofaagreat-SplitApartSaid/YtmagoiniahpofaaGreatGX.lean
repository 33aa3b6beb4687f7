/-
  nat.Div, nat.Gcd: the walks.
  zed: made, Of, Big, Neg, Sign, Cmp, Abs: the walks.
  zed: Neg, Sign, Cmp, Abs, Mul: the walks.
  zed: Cmp, Abs: the walks.
  zed.Add: the walk.
  zed.Sub: the walk.
-/
import Derived.Test.YtmagoiniahpofaaGreatGM
import Derived.Test.YtmagoiniahpofaaGreatGPar
import Derived.Test.YtmagoiniahpofaaGreatSyA
namespace Go.Proofs.YtmagoiniahpofaaGreat
open Go Go.RowKit
theorem natDiv_any (x y:Nat) (v u:Value) (w:World) (hv:NatIs w v x) (hu:NatIs w u y) (hx:(limbs x).length≤800000) :
  Calls Tryz.prog 101 #[v,u] w fun e w'=>DivR x y w' e∧Below w.heap.size w w':=by
 by_cases h0:y=0
 ·subst h0
  exact natDiv_zero x v u w hv hu
 by_cases h1:x<y
 ·exact natDiv_less x y v u w hv hu h1 (by omega)
 by_cases h2:(limbs y).length=1
 ·exact natDiv_one x y v u w hv hu (by omega) (by omega) h2
 ·refine natDiv_many x y v u w hv hu (by omega) hx ?_
  have:limbs y≠[]:=fun e=>h0 (limbs_nil.1 e)
  have:=List.length_pos_iff.2 this
  omega
def GcdRel (w:World) (G k:Nat) (wr:World):Prop:=
 ∃ (x y:Nat) (a b:Option Addr),y<k∧Nat.gcd x y=G∧(limbs x).length≤800000∧(limbs y).length≤800000∧Row32 wr a (limbs x)∧Row32 wr b (limbs y)∧BlkC 33 wr w.heap.size [.slice a (limbs x).length (limbs x).length]∧
  BlkC 33 wr (w.heap.size+1) [.slice b (limbs y).length (limbs y).length]∧BlkC 33 wr (w.heap.size+1+1) [.slice none 0 0]∧Below w.heap.size w wr
set_option maxHeartbeats 4000000 in
set_option maxRecDepth 100000 in
theorem natGcd_any (x y:Nat) (v u:Value) (w:World) (hv:NatIs w v x) (hu:NatIs w u y) (hx:(limbs x).length≤800000) (hy:(limbs y).length≤800000) :
  Calls Tryz.prog 83 #[v,u] w fun e w'=>∃ r,e= .returned r∧NatIs w' r (Nat.gcd x y)∧Below w.heap.size w w':=by
 obtain⟨a,rfl,hr⟩:=hv
 obtain⟨b,rfl,hs⟩:=hu
 have HB1:Hid (BlkC 33 (((w.alloc (.cells #[.slice a (limbs x).length (limbs x).length] 33)).alloc (.cells #[.slice b (limbs y).length (limbs y).length] 33)).alloc (.cells #[.slice none 0 0] 33)) w.heap.size [.slice a (limbs x).length (limbs x).length]):=((BlkC.new _ w [.slice a (limbs x).length (limbs x).length]).still (grown_alloc _ _ none)).still (grown_alloc _ _ none)
 have HB2:Hid (BlkC 33 (((w.alloc (.cells #[.slice a (limbs x).length (limbs x).length] 33)).alloc (.cells #[.slice b (limbs y).length (limbs y).length] 33)).alloc (.cells #[.slice none 0 0] 33)) (w.heap.size+1) [.slice b (limbs y).length (limbs y).length]):=(blk_at (cs:=[.slice b (limbs y).length (limbs y).length]) (by simp)).still (grown_alloc _ _ none)
 have HB3:Hid (BlkC 33 (((w.alloc (.cells #[.slice a (limbs x).length (limbs x).length] 33)).alloc (.cells #[.slice b (limbs y).length (limbs y).length] 33)).alloc (.cells #[.slice none 0 0] 33)) (w.heap.size+1+1) [.slice none 0 0]):=blk_at (cs:=[.slice none 0 0]) (by simp)
 have HG:Hid (Own w.heap.size w (((w.alloc (.cells #[.slice a (limbs x).length (limbs x).length] 33)).alloc (.cells #[.slice b (limbs y).length (limbs y).length] 33)).alloc (.cells #[.slice none 0 0] 33))):=((own_alloc _ _).alloc (by simp) _).alloc (by simp;omega) _
 have HR:=Lib.hid (Row32.own hr HG.out)
 have HS:=Lib.hid (Row32.own hs HG.out)
 obtain⟨G,hG⟩:∃ G,Nat.gcd x y=G:=⟨_,rfl⟩
 have HGG:=Lib.hid hG
 rw[hG]
 clear hr hs hG
 go_enter Tryz.func83,Tryz.ntmps83
 go_wp2_with fail
 go_loopg [] (y+1) (fun k wr=>Hid (GcdRel w G k wr))
 case atStart=>exact⟨x,y,a,b,by omega,HGG.out,hx,hy,HR.out,HS.out,HB1.out,HB2.out,HB3.out,HG.out.b⟩
 case round=>
  clear HB1 HB2 HB3 HG HR HS HGG
  obtain⟨p,q,a,b,hqk,hgc,hpl,hql,hra,hrb,hb1,hb2,hb3,hbl⟩:=hrel.out
  have HGC:=Lib.hid hgc
  have HP:Hid (NatIs wr (.agg #[.slice a (limbs p).length (limbs p).length]) p):=⟨a,rfl,hra⟩
  have HQ:Hid (NatIs wr (.agg #[.slice b (limbs q).length (limbs q).length]) q):=⟨b,rfl,hrb⟩
  have HB1:=Lib.hid hb1
  have HB2:=Lib.hid hb2
  have HB3:=Lib.hid hb3
  have HBL:=Lib.hid hbl
  have HRB:=Lib.hid hrb
  have HRA:=Lib.hid hra
  have HPL:=Lib.hid hpl
  have HQL:=Lib.hid hql
  have x1:=blk_cell hb1
  have x2:=blk_cell hb2
  have x3:=blk_cell hb3
  have f1:=hb1.free 0
  have f2:=hb2.free 0
  have f3:=hb3.free 0
  have l3:=hb3.lt
  clear hrel hgc hra hrb hb1 hb2 hb3 hbl
  by_cases h0:q=0
  ·subst h0
   rw[limbs_zero] at x2
   simp only[List.length_nil] at x2
   have hgp:G=p:=by rw[← HGC.out,Nat.gcd_zero_right]
   go_wp2_with fail
   refine nat_ret rfl rfl rfl (HB3.out.set 0 _) ⟨_,rfl,?_,below_set HBL.out (by omega) _ _⟩
   rw[hgp]
   exact HP.out.keep (keep_set HB3.out (by decide) _)
  ·have hq0:0<(limbs q).length:=List.length_pos_iff.2 (fun e=>h0 (limbs_nil.1 e))
   have hq1:(0:Int)<((limbs q).length:Int):=by omega
   have HQ0:Hid (0<q):=Nat.pos_of_ne_zero h0
   clear h0
   go_wp2_with fail
   refine (natDiv_any p q _ _ _ HP.out HQ.out hpl).mono ?_
   rintro e w1 ⟨hd,hb⟩
   rcases hd with ⟨h,_⟩ | ⟨_,qv,rv,rfl,hqv,hrv⟩
   ·exact absurd h (by have:=HQ0.out;omega)
   have hm:p%q<q:=Nat.mod_lt _ HQ0.out
   have HRV:=Lib.hid hrv
   obtain⟨aq,rfl,hqr⟩:=hqv
   obtain⟨ar,rfl,hrr⟩:=hrv
   have hlr:=limbs_mono (Nat.le_of_lt hm)
   have HGC2:Hid (Nat.gcd q (p%q)=G):=by
    show _=_
    rw[← HGC.out,Nat.gcd_comm p q,Nat.gcd_rec q p,Nat.gcd_comm]
   have HC1:=Lib.hid (HB1.out.still (grown_of_below hb none))
   have HC2:=Lib.hid (HB2.out.still (grown_of_below hb none))
   have HC3:=Lib.hid (HB3.out.still (grown_of_below hb none))
   have HBL1:Hid (Below w.heap.size w w1):=HBL.out.trans (hb.mono HBL.out.size)
   have HRB1:=Lib.hid (HRB.out.keep (keep_below hb))
   have HRR1:=Lib.hid hrr
   obtain⟨nq,hnq⟩:∃ n,n=(limbs (p/q)).length:=⟨_,rfl⟩
   obtain⟨nr,hnr⟩:∃ n,n=(limbs (p%q)).length:=⟨_,rfl⟩
   obtain⟨n2,hn2⟩:∃ n,n=(limbs q).length:=⟨_,rfl⟩
   obtain⟨n1,hn1⟩:∃ n,n=(limbs p).length:=⟨_,rfl⟩
   rw[← hnq,← hnr]
   rw[← hn1] at HC1
   rw[← hn2] at HC2
   have x1:=blk_cell HC1.out
   have x2:=blk_cell HC2.out
   have f1:=HC1.out.free 0
   have f2:=HC2.out.free 0
   have l1:=HC1.out.lt
   have l2:=HC2.out.lt
   have HNR:=Lib.hid hnr
   have HN2:=Lib.hid hn2
   have hm2:p%q+1<gk:=by omega
   have HLR:=Lib.hid hlr
   have HE2:Hid (BlkC 33 (w1.setCell ⟨w.heap.size,0,none⟩ (.slice b n2 n2)) (w.heap.size+1) [.slice b n2 n2]):=HC2.out.set_ne (by omega) 0 _
   have HF1:Hid (BlkC 33 ((((w1.setCell ⟨w.heap.size,0,none⟩ (.slice b n2 n2)).setCell ⟨w.heap.size+1,0,none⟩ (.slice ar nr nr)).alloc (.cells #[.slice aq nq nq] 33)).alloc (.cells #[.slice ar nr nr] 33)) w.heap.size [.slice b n2 n2]):=(((HC1.out.set 0 (.slice b n2 n2)).set_ne (by omega) 0 _).still (grown_alloc _ _ none)).still (grown_alloc _ _ none)
   have HF2:Hid (BlkC 33 ((((w1.setCell ⟨w.heap.size,0,none⟩ (.slice b n2 n2)).setCell ⟨w.heap.size+1,0,none⟩ (.slice ar nr nr)).alloc (.cells #[.slice aq nq nq] 33)).alloc (.cells #[.slice ar nr nr] 33)) (w.heap.size+1) [.slice ar nr nr]):=((HE2.out.set 0 _).still (grown_alloc _ _ none)).still (grown_alloc _ _ none)
   have HF3:Hid (BlkC 33 ((((w1.setCell ⟨w.heap.size,0,none⟩ (.slice b n2 n2)).setCell ⟨w.heap.size+1,0,none⟩ (.slice ar nr nr)).alloc (.cells #[.slice aq nq nq] 33)).alloc (.cells #[.slice ar nr nr] 33)) (w.heap.size+1+1) [.slice none 0 0]):=(((HC3.out.set_ne (by omega) 0 _).set_ne (by omega) 0 _).still (grown_alloc _ _ none)).still (grown_alloc _ _ none)
   have HFK:Hid (Keep w1 ((((w1.setCell ⟨w.heap.size,0,none⟩ (.slice b n2 n2)).setCell ⟨w.heap.size+1,0,none⟩ (.slice ar nr nr)).alloc (.cells #[.slice aq nq nq] 33)).alloc (.cells #[.slice ar nr nr] 33))):=(((keep_set HC1.out (by decide) _).trans (keep_set HE2.out (by decide) _)).trans (keep_grown (grown_alloc _ _ none))).trans (keep_grown (grown_alloc _ _ none))
   have HFB0:Hid (Below w.heap.size w ((w1.setCell ⟨w.heap.size,0,none⟩ (.slice b n2 n2)).setCell ⟨w.heap.size+1,0,none⟩ (.slice ar nr nr))):=below_set (below_set HBL1.out (Nat.le_refl _) 0 _) (by omega) 0 _
   have HFB:Hid (Below w.heap.size w ((((w1.setCell ⟨w.heap.size,0,none⟩ (.slice b n2 n2)).setCell ⟨w.heap.size+1,0,none⟩ (.slice ar nr nr)).alloc (.cells #[.slice aq nq nq] 33)).alloc (.cells #[.slice ar nr nr] 33))):=(HFB0.out.alloc HFB0.out.size _).alloc (by have:=HFB0.out.size;simp at this ⊢;omega) _
   clear hb HB1 HB2 HB3 HBL HRB HP HQ HRA hqr hrr hnq hnr hn1 hn2 HRV hlr f3 l3 x3 hm
   go_wp2_with fail
   go_region
   all_goals go_wp2_with fail
   all_goals go_roundg (gk-1)
   case measure=>omega
   case rel=>
    refine⟨q,p%q,b,ar,by omega,HGC2.out,HQL.out,by have:=HLR.out;have:=HQL.out;omega,HRB1.out.keep HFK.out,HRR1.out.keep HFK.out,?_,?_,HF3.out,below_same HFB.out rfl rfl rfl rfl⟩
    ·rw[← HN2.out]
     exact HF1.out
    ·rw[← HNR.out]
     exact HF2.out
end Go.Proofs.YtmagoiniahpofaaGreat
namespace Go.Proofs.YtmagoiniahpofaaGreat
open Go Go.RowKit
def ZC (w:World) (cs:List Value) (z:Int):Prop:=∃ a,cs=[.slice a (limbs z.natAbs).length (limbs z.natAbs).length,.bool (decide (z<0))]∧Row32 w a (limbs z.natAbs)
def ZIs (w:World) (v:Value) (z:Int):Prop:=∃ cs,v= .agg cs.toArray∧ZC w cs z
theorem ZC.keep {w w':World} {cs:List Value} {z:Int} (h:ZC w cs z) (k:Keep w w'):ZC w' cs z:=by
 obtain⟨a,h1,h2⟩:=h
 exact⟨a,h1,h2.keep k⟩
theorem ZIs.keep {w w':World} {v:Value} {z:Int} (h:ZIs w v z) (k:Keep w w'):ZIs w' v z:=by
 obtain⟨cs,h1,h2⟩:=h
 exact⟨cs,h1,h2.keep k⟩
theorem Gr.zIs {w w':World} {v:Value} {z:Int} (g:Gr w w') (h:ZIs w v z):ZIs w' v z:=h.keep g.keep
theorem ZIs.parts {w:World} {v:Value} {z:Int} (h:ZIs w v z):∃ (a:Option Addr) (n:Nat) (b:Bool),v= .agg #[.slice a n n,.bool b]:=by
 obtain⟨cs,rfl,a,rfl,_⟩:=h
 exact⟨a,_,_,rfl⟩
theorem z_nat {w:World} {a:Option Addr} {n:Nat} {b:Bool} {z:Int} (h:ZIs w (.agg #[.slice a n n,.bool b]) z):NatIs w (.agg #[.slice a n n]) z.natAbs∧decide (z<0)=b:=by
 obtain⟨cs,e,a',rfl,h2⟩:=h
 simp only[Value.agg.injEq,Array.mk.injEq,List.cons.injEq,Value.slice.injEq,Value.bool.injEq,and_true] at e
 obtain⟨⟨rfl,h3,_⟩,rfl⟩:=e
 exact⟨⟨a,by rw[← h3],h2⟩,rfl⟩
theorem z_mk {w:World} {a:Option Addr} {x:Nat} {b:Bool} {z:Int} {n:Nat} (h:Row32 w a (limbs x)) (hn:n=(limbs x).length) (hz:z.natAbs=x) (hb:decide (z<0)=b):ZIs w (.agg #[.slice a n n,.bool b]) z:=by
 subst hn hz hb
 exact⟨_,rfl,a,rfl,h⟩
def sgnZ (x:Nat) (b:Bool):Int:=if b then -(x:Int) else x
theorem sgnZ_abs (x:Nat) (b:Bool):(sgnZ x b).natAbs=x:=by cases b<;>simp[sgnZ]
theorem sgnZ_neg (x:Nat) (b:Bool):decide (sgnZ x b<0)=(b && decide (0<x)):=by
 cases b
 ·simp[sgnZ]
 ·simp[sgnZ]
set_option maxHeartbeats 4000000 in
set_option maxRecDepth 100000 in
theorem made_any (x:Nat) (b:Bool) (v:Value) (w:World) (hv:NatIs w v x) (hx:(limbs x).length≤1000000) :
  Calls Tryz.prog 52 #[v,.bool b] w fun e w'=>∃ r,e= .returned r∧ZIs w' r (sgnZ x b)∧Own w.heap.size w w':=by
 have HV:=Lib.hid hv
 obtain⟨a,rfl,hr⟩:=hv
 have HR:=Lib.hid hr
 have HXL:=Lib.hid hx
 have HBP:=Lib.hid (bitsN_pos x)
 obtain⟨n,hn⟩:∃ n,n=(limbs x).length:=⟨_,rfl⟩
 have HN:=Lib.hid hn
 rw[← hn] at HV ⊢
 clear hn hr hx
 have HB1:Hid (BlkC 33 ((w.alloc (.cells #[.slice a n n] 33)).alloc (.cells #[.slice none 0 0,.bool false] 35)) w.heap.size [.slice a n n]):=(BlkC.new _ w [.slice a n n]).still (grown_alloc _ _ none)
 have HB2:Hid (BlkC 35 ((w.alloc (.cells #[.slice a n n] 33)).alloc (.cells #[.slice none 0 0,.bool false] 35)) (w.heap.size+1) [.slice none 0 0,.bool false]):=blk_at (cs:=[.slice none 0 0,.bool false]) (by simp)
 have HG:Hid (Own w.heap.size w ((w.alloc (.cells #[.slice a n n] 33)).alloc (.cells #[.slice none 0 0,.bool false] 35))):=(own_alloc _ _).alloc (by simp) _
 have HV1:=Lib.hid (Gr.natIs HG.out HV.out)
 have HV2:Hid (NatIs ((w.alloc (.cells #[.slice a n n] 33)).alloc (.cells #[.slice none 0 0,.bool false] 35)).drew (.agg #[.slice a n n]) x):=HV1.out.keep (fun _ _ h=>h)
 cases b with
 |false=>
  go_enter Tryz.func52,Tryz.ntmps52
  go_wp2_with fail
  go_region
  all_goals go_wp2_with fail
  have HF:Hid (BlkC 35 ((w.alloc (.cells #[.slice a n n] 33)).alloc (.cells #[.slice a n n,.bool false] 35)).drew (w.heap.size+1) [.slice a n n,.bool false]):=blk_at (w:=w.alloc (.cells #[.slice a n n] 33)) (cs:=[.slice a n n,.bool false]) (by simp)
  have HK:Hid (Own w.heap.size w ((w.alloc (.cells #[.slice a n n] 33)).alloc (.cells #[.slice a n n,.bool false] 35)).drew):=((own_alloc _ _).alloc (by simp) _).drew
  exact blk_ret rfl (by kernel_rfl) (by kernel_rfl) rfl rfl HF.out ⟨_,rfl,z_mk (HR.out.keep (Gr.keep HK.out)) HN.out (sgnZ_abs x false) (by rw[sgnZ_neg];rfl),HK.out⟩
 |true=>
  go_enter Tryz.func52,Tryz.ntmps52
  go_wp2_with fail
  have x1:=blk_cell HB1.out
  obtain⟨bb,hbb⟩:∃ b,decide (0<x)=b:=⟨_,rfl⟩
  have HBB:Hid ((true && decide (0<x))=bb):=by show _=_;rw[hbb];rfl
  have hbb2:decide ((0:Int)<(bitsN x:Int))=bb:=by
   rw[← hbb]
   have:=HBP.out
   rw[decide_eq_decide]
   omega
  have hbb3:decide (0<bitsN x)=bb:=by
   rw[← hbb]
   have:=HBP.out
   rw[decide_eq_decide]
   omega
  clear hbb
  go_region_held3 (fun w'=>w'.cell? ⟨w.heap.size,0,none⟩=some (.slice a n n)) (first | go_keep | exact own_cell hg9 x1)
   ((go_at_call 88;refine (natBits_any x _ _ HV2.out HXL.out).mono ?_;rintro e w9 ⟨rfl,hg9⟩;have HC2:=Lib.hid ((show BlkC 35 ((w.alloc (.cells #[.slice a n n] 33)).alloc (.cells #[.slice none 0 0,.bool false] 35)).drew (w.heap.size+1) [.slice none 0 0,.bool false] from HB2.out).still (Gr.grown hg9));have y0:=HC2.out.cell 0;have y1:=HC2.out.cell 1;have f0:=HC2.out.free 0;have f1:=HC2.out.free 1;simp only[List.getElem?_cons_zero,List.getElem?_cons_succ] at y0 y1))
  go_wp2_with fail
  have HL2:Hid (Own w.heap.size w w9):=HG.out.drew.call (by simpa using HG.out.size) hg9
  have HF:Hid (BlkC 35 ((w9.setCell ⟨w.heap.size+1,0,none⟩ (.slice a n n)).setCell ⟨w.heap.size+1,1,none⟩ (.bool bb)) (w.heap.size+1) [.slice a n n,.bool bb]):=(HC2.out.set 0 (.slice a n n)).set 1 (.bool bb)
  have HK:Hid (Keep w9 ((w9.setCell ⟨w.heap.size+1,0,none⟩ (.slice a n n)).setCell ⟨w.heap.size+1,1,none⟩ (.bool bb))):=(keep_set HC2.out (by decide) _).trans (keep_set (HC2.out.set 0 (.slice a n n)) (by decide) _)
  have HK2:Hid (Own w.heap.size w ((w9.setCell ⟨w.heap.size+1,0,none⟩ (.slice a n n)).setCell ⟨w.heap.size+1,1,none⟩ (.bool bb))):=(HL2.out.set (by omega) 0 _).set (by omega) 1 _
  exact blk_ret rfl (by kernel_rfl) (by kernel_rfl) rfl rfl HF.out ⟨_,rfl,z_mk ((HR.out.keep (Gr.keep HL2.out)).keep HK.out) HN.out (sgnZ_abs x true) (by rw[sgnZ_neg];exact HBB.out),HK2.out⟩
theorem z_shut {T:TypeId} {w0:World} {g:Nat} {c0 c1 x y:Value} {z:Int} (hv:ZIs w0 (.agg #[c0,c1]) z) (hB:BlkC T w0 g [x,y]) (hT:T≠127) :
  BlkC T ((w0.setCell ⟨g,0,none⟩ c0).setCell ⟨g,1,none⟩ c1) g [c0,c1]∧ZIs ((w0.setCell ⟨g,0,none⟩ c0).setCell ⟨g,1,none⟩ c1) (.agg #[c0,c1]) z∧Keep w0 ((w0.setCell ⟨g,0,none⟩ c0).setCell ⟨g,1,none⟩ c1):=by
 have hk:Keep w0 ((w0.setCell ⟨g,0,none⟩ c0).setCell ⟨g,1,none⟩ c1):=(keep_set hB hT _).trans (keep_set (hB.set 0 c0) hT _)
 exact⟨(hB.set 0 c0).set 1 c1,hv.keep hk,hk⟩
theorem own_set2 {w w0:World} {B g:Nat} (h:Own B w w0) (hg:B≤g) (c0 c1:Value):Own B w ((w0.setCell ⟨g,0,none⟩ c0).setCell ⟨g,1,none⟩ c1):=(h.set hg 0 c0).set hg 1 c1
theorem z_ret {T:TypeId} {R:Ending→World→Prop} {a:Act} {w:World} {g:Nat} {x y:Value} {f:Func} {t:Tmp} (h:f.results= #[.cell t 35])
  (hp:a.tmps.getD t undef= .pointer (some ⟨g,0,none⟩)) (ha:a.defers=[]) (hB:BlkC T w g [x,y]) (hR:R (.returned (.agg #[x,y])) w):bodyPost Tryz.prog f R .ret a w:=
 blk_ret h (by kernel_rfl) (by kernel_rfl) hp ha hB hR
theorem blk2 {T:TypeId} {w:World} {g:Nat} {x y:Value} (h:BlkC T w g [x,y]):w.cell? ⟨g,0,none⟩=some x∧w.cell? ⟨g,1,none⟩=some y∧w.frozen? ⟨g,0,none⟩=false∧w.frozen? ⟨g,1,none⟩=false∧g<w.heap.size:=
 ⟨by rw[h.cell 0];rfl,by rw[h.cell 1];rfl,h.free 0,h.free 1,h.lt⟩
set_option maxHeartbeats 4000000 in
set_option maxRecDepth 100000 in
theorem zedOf_any (n:Int) (w:World) (h0 : -9223372036854775808≤n) (h1:n≤9223372036854775807) :
  Calls Tryz.prog 30 #[.int .i64 n] w fun e w'=>∃ r,e= .returned r∧ZIs w' r n∧Own w.heap.size w w':=by
 have HB:Hid (BlkC 35 (w.alloc (.cells #[.slice none 0 0,.bool false] 35)) w.heap.size [.slice none 0 0,.bool false]):=BlkC.new _ _ _
 have HG:Hid (Own w.heap.size w (w.alloc (.cells #[.slice none 0 0,.bool false] 35))):=own_alloc _ _
 obtain⟨x,hx⟩:∃ x,x=n.natAbs:=⟨_,rfl⟩
 have hxl:(limbs x).length≤2:=(limbs_len x 2).2 (by omega)
 have hxb:x<18446744073709551616:=by omega
 by_cases hn:n<0
 ·have e1:IntKind.u64.wrap (-(n+1))+1=(x:Int):=by
   show (-(n+1))%18446744073709551616+1=_
   omega
  have e2:(-(n+1))%18446744073709551616+1=(x:Int):=e1
  have e3 : -(n+1)+1=(x:Int):=by omega
  have e4:sgnZ x true=n:=by simp[sgnZ];omega
  have HE:=Lib.hid e4
  clear e4 hx
  go_enter Tryz.func30,Tryz.ntmps30
  go_wp2_with fail
  refine (natOf_any x _ hxb).mono ?_
  rintro e w1 ⟨v1,rfl,hv1,hg1⟩
  have HG1:=Lib.hid (HG.out.call HG.out.size hg1)
  have HB1:=Lib.hid (HB.out.still (Gr.grown hg1))
  have HV1:=Lib.hid hv1
  obtain⟨a1,rfl,_⟩:=hv1
  clear hg1 e1 e2 e3
  go_wp2_with fail
  refine (made_any x true _ _ HV1.out (by omega)).mono ?_
  rintro e w2 ⟨v2,rfl,hv2,hg2⟩
  rw[HE.out] at hv2
  have HG2:=Lib.hid (HG1.out.call HG1.out.size hg2)
  have HB2:=Lib.hid (HB1.out.still (Gr.grown hg2))
  have HV2:=Lib.hid hv2
  obtain⟨x0,x1,x2,x3,x4⟩:=blk2 HB2.out
  obtain⟨a2,n2,b2,rfl⟩:=hv2.parts
  clear hg2 hv2
  go_wp2_with fail
  obtain⟨s1,s2,s3⟩:=z_shut HV2.out HB2.out (by decide)
  exact z_ret rfl rfl rfl s1 ⟨_,rfl,s2,own_set2 HG2.out (Nat.le_refl _) _ _⟩
 ·have e1:IntKind.u64.wrap n=(x:Int):=by
   show n%18446744073709551616=_
   omega
  have e2:n%18446744073709551616=(x:Int):=e1
  have e4:sgnZ x false=n:=by simp[sgnZ];omega
  obtain⟨y,hy⟩:∃ y:Int,y=n:=⟨_,rfl⟩
  have hnx:n=(x:Int):=by omega
  subst hnx
  have HE:=Lib.hid e4
  clear e4 e1 e2 hx hy
  go_enter Tryz.func30,Tryz.ntmps30
  go_wp2_with fail
  refine (natOf_any x _ hxb).mono ?_
  rintro e w1 ⟨v1,rfl,hv1,hg1⟩
  have HG1:=Lib.hid (HG.out.call HG.out.size hg1)
  have HB1:=Lib.hid (HB.out.still (Gr.grown hg1))
  have HV1:=Lib.hid hv1
  obtain⟨a1,rfl,_⟩:=hv1
  clear hg1
  go_wp2_with fail
  refine (made_any x false _ _ HV1.out (by omega)).mono ?_
  rintro e w2 ⟨v2,rfl,hv2,hg2⟩
  rw[HE.out] at hv2
  have HG2:=Lib.hid (HG1.out.call HG1.out.size hg2)
  have HB2:=Lib.hid (HB1.out.still (Gr.grown hg2))
  have HV2:=Lib.hid hv2
  obtain⟨x0,x1,x2,x3,x4⟩:=blk2 HB2.out
  obtain⟨a2,n2,b2,rfl⟩:=hv2.parts
  clear hg2 hv2
  go_wp2_with fail
  obtain⟨s1,s2,s3⟩:=z_shut HV2.out HB2.out (by decide)
  exact z_ret rfl rfl rfl s1 ⟨_,rfl,s2,own_set2 HG2.out (Nat.le_refl _) _ _⟩
set_option maxHeartbeats 4000000 in
set_option maxRecDepth 100000 in
theorem big_any (x:Nat) (v:Value) (w:World) (hv:NatIs w v x) (hx:(limbs x).length≤1000000) :
  Calls Tryz.prog 85 #[v] w fun e w'=>∃ r,e= .returned r∧ZIs w' r (x:Int)∧Own w.heap.size w w':=by
 have HV:=Lib.hid hv
 have HXL:=Lib.hid hx
 obtain⟨a,rfl,_⟩:=hv
 obtain⟨n,hn⟩:∃ n,n=(limbs x).length:=⟨_,rfl⟩
 rw[← hn] at HV ⊢
 clear hn hx
 have HB:Hid (BlkC 35 ((w.alloc (.cells #[.slice a n n] 33)).alloc (.cells #[.slice none 0 0,.bool false] 35)) (w.heap.size+1) [.slice none 0 0,.bool false]):=blk_at (cs:=[.slice none 0 0,.bool false]) (by simp)
 have HG:Hid (Own w.heap.size w ((w.alloc (.cells #[.slice a n n] 33)).alloc (.cells #[.slice none 0 0,.bool false] 35))):=(own_alloc _ _).alloc (by simp) _
 have HV1:=Lib.hid (Gr.natIs HG.out HV.out)
 go_enter Tryz.func85,Tryz.ntmps85
 go_wp2_with fail
 refine (made_any x false _ _ HV1.out HXL.out).mono ?_
 rintro e w2 ⟨v2,rfl,hv2,hg2⟩
 have HG2:=Lib.hid (HG.out.call HG.out.size hg2)
 have HB2:=Lib.hid (HB.out.still (Gr.grown hg2))
 have HV2:Hid (ZIs w2 v2 (x:Int)):=hv2
 obtain⟨x0,x1,x2,x3,x4⟩:=blk2 HB2.out
 obtain⟨a2,n2,b2,rfl⟩:=hv2.parts
 clear hg2 hv2
 go_wp2_with fail
 obtain⟨s1,s2,s3⟩:=z_shut HV2.out HB2.out (by decide)
 exact z_ret rfl rfl rfl s1 ⟨_,rfl,s2,own_set2 HG2.out (by omega) _ _⟩
end Go.Proofs.YtmagoiniahpofaaGreat
namespace Go.Proofs.YtmagoiniahpofaaGreat
open Go Go.RowKit
def signZ (z:Int):Int:=if z<0 then -1 else if z=0 then 0 else 1
theorem sgn_neg {z:Int} {b:Bool} (h:decide (z<0)=b):sgnZ z.natAbs (!b)= -z:=by
 subst h
 by_cases hz:z<0
 ·simp[sgnZ,hz];omega
 ·simp[sgnZ,hz];omega
theorem sgn_same {z:Int} {b:Bool} (h:decide (z<0)=b):sgnZ z.natAbs b=z:=by
 subst h
 by_cases hz:z<0
 ·simp[sgnZ,hz];omega
 ·simp[sgnZ,hz];omega
theorem sgn_mul {x y:Int} {b c:Bool} (h:decide (x<0)=b) (k:decide (y<0)=c):sgnZ (x.natAbs*y.natAbs) (!(b == c))=x*y:=by
 have h1:=sgn_same h
 have h2:=sgn_same k
 have e1:x=sgnZ x.natAbs b:=h1.symm
 have e2:y=sgnZ y.natAbs c:=h2.symm
 conv=>rhs;rw[e1,e2]
 cases b<;>cases c<;>simp[sgnZ,Int.mul_neg,Int.neg_mul]
section
variable (w:World) (a:Option Addr) (n:Nat) (b:Bool)
abbrev zW:World:=(w.alloc (.cells #[.slice a n n,.bool b] 35)).alloc (.cells #[.slice none 0 0,.bool false] 35)
theorem zW_1:BlkC 35 (zW w a n b) w.heap.size [.slice a n n,.bool b]:=(BlkC.new _ w [.slice a n n,.bool b]).still (grown_alloc _ _ none)
theorem zW_2:BlkC 35 (zW w a n b) (w.heap.size+1) [.slice none 0 0,.bool false]:=blk_at (cs:=[.slice none 0 0,.bool false]) (by simp)
theorem zW_g:Own w.heap.size w (zW w a n b):=(own_alloc _ _).alloc (by simp) _
variable (c:Option Addr) (m:Nat) (d:Bool)
abbrev zV:World:=((w.alloc (.cells #[.slice a n n,.bool b] 35)).alloc (.cells #[.slice c m m,.bool d] 35)).alloc (.cells #[.slice none 0 0,.bool false] 35)
theorem zV_1:BlkC 35 (zV w a n b c m d) w.heap.size [.slice a n n,.bool b]:=((BlkC.new _ w [.slice a n n,.bool b]).still (grown_alloc _ _ none)).still (grown_alloc _ _ none)
theorem zV_2:BlkC 35 (zV w a n b c m d) (w.heap.size+1) [.slice c m m,.bool d]:=(blk_at (cs:=[.slice c m m,.bool d]) (by simp)).still (grown_alloc _ _ none)
theorem zV_3:BlkC 35 (zV w a n b c m d) (w.heap.size+1+1) [.slice none 0 0,.bool false]:=blk_at (cs:=[.slice none 0 0,.bool false]) (by simp)
theorem zV_g:Own w.heap.size w (zV w a n b c m d):=((own_alloc _ _).alloc (by simp) _).alloc (by simp;omega) _
end
set_option maxHeartbeats 4000000 in
set_option maxRecDepth 100000 in
theorem neg_any (z:Int) (v:Value) (w:World) (hv:ZIs w v z) (hx:(limbs z.natAbs).length≤1000000) :
  Calls Tryz.prog 86 #[v] w fun e w'=>∃ r,e= .returned r∧ZIs w' r (-z)∧Own w.heap.size w w':=by
 obtain⟨a,n,b,rfl⟩:=hv.parts
 obtain⟨hn,hb⟩:=z_nat hv
 have HXL:=Lib.hid hx
 have HS:=Lib.hid (sgn_neg hb)
 have HB1:=Lib.hid (zW_1 w a n b)
 have HB2:=Lib.hid (zW_2 w a n b)
 have HG:=Lib.hid (zW_g w a n b)
 have HN1:=Lib.hid (Gr.natIs HG.out hn)
 clear hv hn hb hx
 go_enter Tryz.func86,Tryz.ntmps86
 go_wp2_with fail
 refine (made_any z.natAbs (!b) _ _ HN1.out HXL.out).mono ?_
 rintro e w2 ⟨v2,rfl,hv2,hg2⟩
 rw[HS.out] at hv2
 have HG2:=Lib.hid (HG.out.call HG.out.size hg2)
 have HC2:=Lib.hid (HB2.out.still (Gr.grown hg2))
 have HV2:=Lib.hid hv2
 obtain⟨x0,x1,x2,x3,x4⟩:=blk2 HC2.out
 obtain⟨a2,n2,b2,rfl⟩:=hv2.parts
 clear hg2 hv2
 go_wp2_with fail
 obtain⟨s1,s2,s3⟩:=z_shut HV2.out HC2.out (by decide)
 exact z_ret rfl rfl rfl s1 ⟨_,rfl,s2,own_set2 HG2.out (by omega) _ _⟩
set_option maxHeartbeats 4000000 in
set_option maxRecDepth 100000 in
theorem sign_any (z:Int) (v:Value) (w:World) (hv:ZIs w v z) (hx:(limbs z.natAbs).length≤1000000) :
  Calls Tryz.prog 50 #[v] w fun e w'=>e= .returned (.int .i64 (signZ z))∧Own w.heap.size w w':=by
 obtain⟨a,n,b,rfl⟩:=hv.parts
 obtain⟨hn,hb⟩:=z_nat hv
 have HXL:=Lib.hid hx
 have HG:Hid (Own w.heap.size w (w.alloc (.cells #[.slice a n n,.bool b] 35))):=own_alloc _ _
 have HN1:=Lib.hid (Gr.natIs HG.out hn)
 have HBP:=Lib.hid (bitsN_pos z.natAbs)
 clear hv hn hx
 cases b with
 |true=>
  have hz:z<0:=of_decide_eq_true hb
  have hs:signZ z= -1:=by unfold signZ;rw[if_pos hz]
  clear hb hz
  go_enter Tryz.func50,Tryz.ntmps50
  go_wp2_with fail
  go_ret
  exact⟨by first | rfl | exact ret_int hs.symm,HG.out⟩
 |false=>
  have hz:¬ z<0:=of_decide_eq_false hb
  by_cases h0:z=0
  ·have hs:signZ z=0:=by unfold signZ;rw[if_neg hz,if_pos h0]
   have hbz:bitsN z.natAbs=0:=by have:=HBP.out;omega
   have hbz2:((bitsN z.natAbs:Int) == 0)=true:=by simp;omega
   have hbz3:(bitsN z.natAbs == 0)=true:=by simp;omega
   have HS:=Lib.hid hs
   clear hb hz h0 hbz hs
   go_enter Tryz.func50,Tryz.ntmps50
   go_wp2_with fail
   refine (natBits_any z.natAbs _ _ HN1.out HXL.out).mono ?_
   rintro e w2 ⟨rfl,hg2⟩
   have HG2:=Lib.hid (HG.out.call HG.out.size hg2)
   clear hg2
   go_wp2_with fail
   go_ret
   exact⟨by first | rfl | exact ret_int HS.out.symm,HG2.out⟩
  ·have hs:signZ z=1:=by unfold signZ;rw[if_neg hz,if_neg h0]
   have hbz2:((bitsN z.natAbs:Int) == 0)=false:=by have:=HBP.out;simp;omega
   have hbz3:(bitsN z.natAbs == 0)=false:=by have:=HBP.out;simp;omega
   have HS:=Lib.hid hs
   clear hb hz h0 hs
   go_enter Tryz.func50,Tryz.ntmps50
   go_wp2_with fail
   refine (natBits_any z.natAbs _ _ HN1.out HXL.out).mono ?_
   rintro e w2 ⟨rfl,hg2⟩
   have HG2:=Lib.hid (HG.out.call HG.out.size hg2)
   clear hg2
   go_wp2_with fail
   go_ret
   exact⟨by first | rfl | exact ret_int HS.out.symm,HG2.out⟩
set_option maxHeartbeats 4000000 in
set_option maxRecDepth 100000 in
theorem mulZ_any (x y:Int) (v u:Value) (w:World) (hv:ZIs w v x) (hu:ZIs w u y) (hx:(limbs x.natAbs).length≤400000) (hy:(limbs y.natAbs).length≤400000) :
  Calls Tryz.prog 39 #[v,u] w fun e w'=>∃ r,e= .returned r∧ZIs w' r (x*y)∧Own w.heap.size w w':=by
 obtain⟨a,n,b,rfl⟩:=hv.parts
 obtain⟨c,m,d,rfl⟩:=hu.parts
 obtain⟨hn,hb⟩:=z_nat hv
 obtain⟨hm,hd⟩:=z_nat hu
 have HXL:=Lib.hid hx
 have HYL:=Lib.hid hy
 have HS:=Lib.hid (sgn_mul hb hd)
 have hml:(limbs (x.natAbs*y.natAbs)).length≤1000000:=by
  have h1:=val_lt (limbs_limb x.natAbs)
  have h2:=val_lt (limbs_limb y.natAbs)
  rw[val_limbs] at h1 h2
  have h3:(limbs (x.natAbs*y.natAbs)).length≤(limbs x.natAbs).length+(limbs y.natAbs).length:=by
   rw[limbs_len,Nat.pow_add]
   exact Nat.mul_lt_mul'' h1 h2
  omega
 have HML:=Lib.hid hml
 have HB1:=Lib.hid (zV_1 w a n b c m d)
 have HB2:=Lib.hid (zV_2 w a n b c m d)
 have HB3:Hid (BlkC 35 (zV w a n b c m d).drew (w.heap.size+1+1) [.slice none 0 0,.bool false]):=zV_3 w a n b c m d
 have HG:Hid (Own w.heap.size w (zV w a n b c m d).drew):=(zV_g w a n b c m d).drew
 have HN1:=Lib.hid (Gr.natIs HG.out hn)
 have HN2:=Lib.hid (Gr.natIs HG.out hm)
 have x0:=(blk2 HB1.out).1
 have x1:=(blk2 HB1.out).2.1
 have x2:=(blk2 HB2.out).1
 have x3:=(blk2 HB2.out).2.1
 have ne1:¬ w.heap.size=w.heap.size+1+1:=by omega
 have ne2:¬ w.heap.size+1+1=w.heap.size:=by omega
 clear hv hu hn hm hb hd hx hy hml
 go_enter Tryz.func39,Tryz.ntmps39
 go_wp2_with fail
 go_region_held3 (fun w'=>w'.cell? ⟨w.heap.size,0,none⟩=some (.slice a n n)∧w'.cell? ⟨w.heap.size,1,none⟩=some (.bool b)∧w'.cell? ⟨w.heap.size+1,0,none⟩=some (.slice c m m)∧w'.cell? ⟨w.heap.size+1,1,none⟩=some (.bool d)) (first | go_keep | exact⟨own_cell hg9 x0,own_cell hg9 x1,own_cell hg9 x2,own_cell hg9 x3⟩ | exact⟨own_cell hg8 (own_cell hg9 x0),own_cell hg8 (own_cell hg9 x1),own_cell hg8 (own_cell hg9 x2),own_cell hg8 (own_cell hg9 x3)⟩ | (try dsimp only;repeat' apply And.intro;all_goals go_keep))
  (first
   |(go_at_call 61;refine (natMul_any x.natAbs y.natAbs _ _ _ HN1.out HN2.out HXL.out HYL.out).mono ?_;rintro e w9 ⟨v9,rfl,hv9,hg9⟩;have HV9:=Lib.hid hv9;have HG9:=Lib.hid (HG.out.call HG.out.size hg9);have HC9:=Lib.hid (HB3.out.still (Gr.grown hg9));obtain⟨a9,rfl,_⟩:=hv9)
   |(go_at_call 52;refine (made_any _ _ _ _ HV9.out HML.out).mono ?_;rintro e w8 ⟨v8,rfl,hv8,hg8⟩;rw[HS.out] at hv8;have HV8:=Lib.hid hv8;have HG8:=Lib.hid (HG9.out.call HG9.out.size hg8);have HC8:=Lib.hid (HC9.out.still (Gr.grown hg8));obtain⟨y0,y1,y2,y3,y4⟩:=blk2 HC8.out;obtain⟨a8,n8,b8,rfl⟩:=hv8.parts;clear hv8))
 go_wp2_with fail
 obtain⟨s1,s2,s3⟩:=z_shut HV8.out HC8.out (by decide)
 exact z_ret rfl rfl rfl s1 ⟨_,rfl,s2,own_set2 HG8.out (by omega) _ _⟩
end Go.Proofs.YtmagoiniahpofaaGreat
namespace Go.Proofs.YtmagoiniahpofaaGreat
open Go Go.RowKit
theorem cmp_abs_pos {x y:Int} (hx:¬ x<0) (hy:¬ y<0):cmpZ (x.natAbs:Int) (y.natAbs:Int)=cmpZ x y:=by
 have e1:(x.natAbs:Int)=x:=by omega
 have e2:(y.natAbs:Int)=y:=by omega
 rw[e1,e2]
theorem cmp_abs_neg {x y:Int} (hx:x<0) (hy:y<0):cmpZ (y.natAbs:Int) (x.natAbs:Int)=cmpZ x y:=by
 unfold cmpZ
 by_cases h1:x<y
 ·rw[if_pos (by omega),if_pos h1]
 ·rw[if_neg (by omega),if_neg h1]
  by_cases h2:y<x
  ·rw[if_pos (by omega),if_pos h2]
  ·rw[if_neg (by omega),if_neg h2]
set_option maxHeartbeats 4000000 in
set_option maxRecDepth 100000 in
theorem zCmp_any (x y:Int) (v u:Value) (w:World) (hv:ZIs w v x) (hu:ZIs w u y) (hx:(limbs x.natAbs).length≤1000000) (hy:(limbs y.natAbs).length≤1000000) :
  Calls Tryz.prog 41 #[v,u] w fun e w'=>e= .returned (.int .i64 (cmpZ x y))∧Own w.heap.size w w':=by
 obtain⟨a,n,b,rfl⟩:=hv.parts
 obtain⟨c,m,d,rfl⟩:=hu.parts
 obtain⟨hn,hb⟩:=z_nat hv
 obtain⟨hm,hd⟩:=z_nat hu
 have HXL:=Lib.hid hx
 have HYL:=Lib.hid hy
 have HG:Hid (Own w.heap.size w ((w.alloc (.cells #[.slice a n n,.bool b] 35)).alloc (.cells #[.slice c m m,.bool d] 35))):=(own_alloc _ _).alloc (by simp) _
 have HN1:=Lib.hid (Gr.natIs HG.out hn)
 have HN2:=Lib.hid (Gr.natIs HG.out hm)
 clear hv hu hn hm hx hy
 cases b with
 |true=>
  have hx:x<0:=of_decide_eq_true hb
  cases d with
  |true=>
   have HS:=Lib.hid (cmp_abs_neg hx (of_decide_eq_true hd))
   clear hb hd hx
   go_enter Tryz.func41,Tryz.ntmps41
   go_wp2_with fail
   refine (natCmp_any y.natAbs x.natAbs _ _ _ HN2.out HN1.out HYL.out).mono ?_
   rintro e w2 ⟨rfl,hg2⟩
   have HG2:=Lib.hid (HG.out.call HG.out.size hg2)
   clear hg2
   go_wp2_with fail
   go_ret
   exact⟨by first | rfl | exact ret_int HS.out,HG2.out⟩
  |false=>
   have hy:¬ y<0:=of_decide_eq_false hd
   have hs:cmpZ x y= -1:=by unfold cmpZ;rw[if_pos (by omega)]
   clear hb hd hx hy
   go_enter Tryz.func41,Tryz.ntmps41
   go_wp2_with fail
   go_ret
   exact⟨by first | rfl | exact ret_int hs.symm,HG.out⟩
 |false=>
  have hx:¬ x<0:=of_decide_eq_false hb
  cases d with
  |true=>
   have hy:y<0:=of_decide_eq_true hd
   have hs:cmpZ x y=1:=by unfold cmpZ;rw[if_neg (by omega),if_pos (by omega)]
   clear hb hd hx hy
   go_enter Tryz.func41,Tryz.ntmps41
   go_wp2_with fail
   go_ret
   exact⟨by first | rfl | exact ret_int hs.symm,HG.out⟩
  |false=>
   have HS:=Lib.hid (cmp_abs_pos hx (of_decide_eq_false hd))
   clear hb hd hx
   go_enter Tryz.func41,Tryz.ntmps41
   go_wp2_with fail
   refine (natCmp_any x.natAbs y.natAbs _ _ _ HN1.out HN2.out HXL.out).mono ?_
   rintro e w2 ⟨rfl,hg2⟩
   have HG2:=Lib.hid (HG.out.call HG.out.size hg2)
   clear hg2
   go_wp2_with fail
   go_ret
   exact⟨by first | rfl | exact ret_int HS.out,HG2.out⟩
set_option maxHeartbeats 4000000 in
set_option maxRecDepth 100000 in
theorem abs_any (z:Int) (v:Value) (w:World) (hv:ZIs w v z) :
  Calls Tryz.prog 82 #[v] w fun e w'=>∃ r,e= .returned r∧NatIs w' r z.natAbs∧Own w.heap.size w w':=by
 obtain⟨a,n,b,rfl⟩:=hv.parts
 obtain⟨hn,hb⟩:=z_nat hv
 have HB:Hid (BlkC 33 ((w.alloc (.cells #[.slice a n n,.bool b] 35)).alloc (.cells #[.slice a n n] 33)) (w.heap.size+1) [.slice a n n]):=blk_at (cs:=[.slice a n n]) (by simp)
 have HG:Hid (Own w.heap.size w ((w.alloc (.cells #[.slice a n n,.bool b] 35)).alloc (.cells #[.slice a n n] 33))):=(own_alloc _ _).alloc (by simp) _
 have HN1:=Lib.hid (Gr.natIs HG.out hn)
 clear hv hn hb
 go_enter Tryz.func82,Tryz.ntmps82
 go_wp2_with fail
 exact nat_ret rfl rfl rfl HB.out ⟨_,rfl,HN1.out,HG.out⟩
end Go.Proofs.YtmagoiniahpofaaGreat
namespace Go.Proofs.YtmagoiniahpofaaGreat
open Go Go.RowKit
theorem sgn_add_same {x y:Int} {b:Bool} (h:decide (x<0)=b) (k:decide (y<0)=b):sgnZ (x.natAbs+y.natAbs) b=x+y:=by
 cases b
 ·have:=of_decide_eq_false h;have:=of_decide_eq_false k;simp[sgnZ];omega
 ·have:=of_decide_eq_true h;have:=of_decide_eq_true k;simp[sgnZ];omega
theorem sgn_add_ge {x y:Int} {b:Bool} (h:decide (x<0)=b) (k:decide (y<0)= !b) (hle:y.natAbs≤x.natAbs):sgnZ (x.natAbs-y.natAbs) b=x+y:=by
 cases b
 ·have:=of_decide_eq_false h;have:=of_decide_eq_true k;simp[sgnZ];omega
 ·have:=of_decide_eq_true h;have:=of_decide_eq_false k;simp[sgnZ];omega
theorem sgn_add_lt {x y:Int} {b:Bool} (h:decide (x<0)=b) (k:decide (y<0)= !b) (hlt:x.natAbs<y.natAbs):sgnZ (y.natAbs-x.natAbs) (!b)=x+y:=by
 cases b
 ·have:=of_decide_eq_false h;have:=of_decide_eq_true k;simp[sgnZ];omega
 ·have:=of_decide_eq_true h;have:=of_decide_eq_false k;simp[sgnZ];omega
theorem add_len (x y:Nat) {k:Nat} (hx:(limbs x).length≤k) (hy:(limbs y).length≤k):(limbs (x+y)).length≤k+1:=by
 rw[limbs_len] at hx hy ⊢
 rw[Nat.pow_succ]
 omega
set_option maxHeartbeats 8000000 in
set_option maxRecDepth 100000 in
theorem zAdd_any (x y:Int) (v u:Value) (w:World) (hv:ZIs w v x) (hu:ZIs w u y) (hx:(limbs x.natAbs).length≤900000) (hy:(limbs y.natAbs).length≤900000) :
  Calls Tryz.prog 87 #[v,u] w fun e w'=>∃ r,e= .returned r∧ZIs w' r (x+y)∧Own w.heap.size w w':=by
 obtain⟨a,n,b,rfl⟩:=hv.parts
 obtain⟨c,m,d,rfl⟩:=hu.parts
 obtain⟨hn,hb⟩:=z_nat hv
 obtain⟨hm,hd⟩:=z_nat hu
 have HXL:=Lib.hid hx
 have HYL:=Lib.hid hy
 have HML:=Lib.hid (add_len x.natAbs y.natAbs hx hy)
 have ne1:¬ w.heap.size=w.heap.size+1+1:=by omega
 have ne2:¬ w.heap.size+1+1=w.heap.size:=by omega
 by_cases hbd:d=b
 ·subst hbd
  have HS:=Lib.hid (sgn_add_same hb hd)
  have HB1:=Lib.hid (zV_1 w a n d c m d)
  have HB2:=Lib.hid (zV_2 w a n d c m d)
  have HB3:Hid (BlkC 35 (zV w a n d c m d).drew (w.heap.size+1+1) [.slice none 0 0,.bool false]):=zV_3 w a n d c m d
  have HG:Hid (Own w.heap.size w (zV w a n d c m d).drew):=(zV_g w a n d c m d).drew
  have HN1:=Lib.hid (Gr.natIs HG.out hn)
  have HN2:=Lib.hid (Gr.natIs HG.out hm)
  have x0:=(blk2 HB1.out).1
  have x1:=(blk2 HB1.out).2.1
  have x2:=(blk2 HB2.out).1
  have hdd:(d == d)=true:=by simp
  clear hv hu hn hm hb hd hx hy
  go_enter Tryz.func87,Tryz.ntmps87
  go_wp2_with fail
  go_region_held3 (fun w'=>w'.cell? ⟨w.heap.size,0,none⟩=some (.slice a n n)∧w'.cell? ⟨w.heap.size,1,none⟩=some (.bool d)∧w'.cell? ⟨w.heap.size+1,0,none⟩=some (.slice c m m)) (first | go_keep | exact⟨own_cell hg9 x0,own_cell hg9 x1,own_cell hg9 x2⟩ | exact⟨own_cell hg8 (own_cell hg9 x0),own_cell hg8 (own_cell hg9 x1),own_cell hg8 (own_cell hg9 x2)⟩ | (try dsimp only;repeat' apply And.intro;all_goals go_keep))
   (first
    |(go_at_call 103;refine (natAdd_any x.natAbs y.natAbs _ _ _ HN1.out HN2.out HXL.out HYL.out).mono ?_;rintro e w9 ⟨v9,rfl,hv9,hg9⟩;have HV9:=Lib.hid hv9;have HG9:=Lib.hid (HG.out.call HG.out.size hg9);have HC9:=Lib.hid (HB3.out.still (Gr.grown hg9));obtain⟨a9,rfl,_⟩:=hv9)
    |(go_at_call 52;refine (made_any _ _ _ _ HV9.out (by have:=HML.out;omega)).mono ?_;rintro e w8 ⟨v8,rfl,hv8,hg8⟩;rw[HS.out] at hv8;have HV8:=Lib.hid hv8;have HG8:=Lib.hid (HG9.out.call HG9.out.size hg8);have HC8:=Lib.hid (HC9.out.still (Gr.grown hg8));obtain⟨y0,y1,y2,y3,y4⟩:=blk2 HC8.out;obtain⟨a8,n8,b8,rfl⟩:=hv8.parts;clear hv8))
  go_wp2_with fail
  obtain⟨s1,s2,s3⟩:=z_shut HV8.out HC8.out (by decide)
  exact z_ret rfl rfl rfl s1 ⟨_,rfl,s2,own_set2 HG8.out (by omega) _ _⟩
 ·have hdb:d= !b:=by cases b<;>cases d<;>simp_all
  subst hdb
  have HSG:=Lib.hid (fun h=>sgn_add_ge (x:=x) (y:=y) hb hd h)
  have HSL:=Lib.hid (fun h=>sgn_add_lt (x:=x) (y:=y) hb hd h)
  have HB1:=Lib.hid (zV_1 w a n b c m (!b))
  have HB2:=Lib.hid (zV_2 w a n b c m (!b))
  have HB3:=Lib.hid (zV_3 w a n b c m (!b))
  have HG:=Lib.hid (zV_g w a n b c m (!b))
  have HN1:=Lib.hid (Gr.natIs HG.out hn)
  have HN2:=Lib.hid (Gr.natIs HG.out hm)
  have hdd:(b == !b)=false:=by cases b<;>rfl
  clear hv hu hn hm hb hd hx hy hbd
  go_enter Tryz.func87,Tryz.ntmps87
  go_wp2_with fail
  refine (natSub_any x.natAbs y.natAbs _ _ _ HN1.out HN2.out HXL.out).mono ?_
  rintro e w1 ⟨hs,hg1⟩
  have HG1:=Lib.hid (HG.out.call HG.out.size hg1)
  have HC1:=Lib.hid (HB1.out.still (Gr.grown hg1))
  have HC2:=Lib.hid (HB2.out.still (Gr.grown hg1))
  have HC3:=Lib.hid (HB3.out.still (Gr.grown hg1))
  have HN3:=Lib.hid (Gr.natIs hg1 HN1.out)
  have HN4:=Lib.hid (Gr.natIs hg1 HN2.out)
  obtain⟨x0,x1,_,_,x4⟩:=blk2 HC1.out
  obtain⟨y0,y1,_,_,y4⟩:=blk2 HC2.out
  obtain⟨z0,z1,z2,z3,z4⟩:=blk2 HC3.out
  clear hg1 HN1 HN2 HB1 HB2 HB3 HG
  rcases hs with ⟨hle,r,rfl,hr⟩ | ⟨hlt,r,rfl,hr⟩
  ·have HS:=Lib.hid (HSG.out hle)
   have HR:=Lib.hid hr
   obtain⟨ar,rfl,_⟩:=hr
   obtain⟨nr,hnr⟩:∃ q,q=(limbs (x.natAbs-y.natAbs)).length:=⟨_,rfl⟩
   rw[← hnr] at HR ⊢
   have hlr:(limbs (x.natAbs-y.natAbs)).length≤900000:=Nat.le_trans (limbs_mono (Nat.sub_le _ _)) HXL.out
   have HLR:=Lib.hid hlr
   have HG2:=Lib.hid (HG1.out.alloc HG1.out.size (.cells #[.slice ar nr nr] 33))
   have HD3:=Lib.hid (HC3.out.still (grown_alloc _ (.cells #[.slice ar nr nr] 33) none))
   have HR2:=Lib.hid (Gr.natIs (own_alloc _ (.cells #[.slice ar nr nr] 33)) HR.out)
   clear hle hnr hlr HSG HSL HN3 HN4
   go_wp2_with fail
   refine (made_any _ b _ _ HR2.out (by have:=HLR.out;omega)).mono ?_
   rintro e w8 ⟨v8,rfl,hv8,hg8⟩
   rw[HS.out] at hv8
   have HV8:=Lib.hid hv8
   have HG8:=Lib.hid (HG2.out.call HG2.out.size hg8)
   have HC8:=Lib.hid (HD3.out.still (Gr.grown hg8))
   obtain⟨t0,t1,t2,t3,t4⟩:=blk2 HC8.out
   obtain⟨a8,n8,b8,rfl⟩:=hv8.parts
   clear hv8 hg8
   go_wp2_with fail
   obtain⟨s1,s2,s3⟩:=z_shut HV8.out HC8.out (by decide)
   exact z_ret rfl rfl rfl s1 ⟨_,rfl,s2,own_set2 HG8.out (by omega) _ _⟩
  ·have HS:=Lib.hid (HSL.out hlt)
   obtain⟨ar,rfl,_⟩:=hr
   rw[limbs_zero]
   have HLT:=Lib.hid hlt
   have HG2:=Lib.hid (HG1.out.alloc HG1.out.size (.cells #[.slice ar 0 0] 33))
   have HD2:=Lib.hid (HC2.out.still (grown_alloc _ (.cells #[.slice ar 0 0] 33) none))
   have HD3:=Lib.hid (HC3.out.still (grown_alloc _ (.cells #[.slice ar 0 0] 33) none))
   have HN5:=Lib.hid (Gr.natIs (own_alloc _ (.cells #[.slice ar 0 0] 33)) HN3.out)
   have HN6:=Lib.hid (Gr.natIs (own_alloc _ (.cells #[.slice ar 0 0] 33)) HN4.out)
   clear hlt HSG HSL HN3 HN4
   go_wp2_with fail
   refine (natSub_any y.natAbs x.natAbs _ _ _ HN6.out HN5.out HYL.out).mono ?_
   rintro e w3 ⟨hs,hg3⟩
   rcases hs with ⟨_,r,rfl,hr⟩ | ⟨hl,_⟩
   case inr=>exact absurd hl (by have:=HLT.out;omega)
   have HG3:=Lib.hid (HG2.out.call HG2.out.size hg3)
   have HE2:=Lib.hid (HD2.out.still (Gr.grown hg3))
   have HE3:=Lib.hid (HD3.out.still (Gr.grown hg3))
   have HR:=Lib.hid hr
   obtain⟨af,rfl,_⟩:=hr
   obtain⟨nr,hnr⟩:∃ q,q=(limbs (y.natAbs-x.natAbs)).length:=⟨_,rfl⟩
   rw[← hnr] at HR ⊢
   have hlr:(limbs (y.natAbs-x.natAbs)).length≤900000:=Nat.le_trans (limbs_mono (Nat.sub_le _ _)) HYL.out
   have HLR:=Lib.hid hlr
   obtain⟨p0,p1,_,_,p4⟩:=blk2 HE2.out
   have HG4:=Lib.hid (HG3.out.alloc HG3.out.size (.cells #[.slice af nr nr] 33))
   have HF3:=Lib.hid (HE3.out.still (grown_alloc _ (.cells #[.slice af nr nr] 33) none))
   have HR2:=Lib.hid (Gr.natIs (own_alloc _ (.cells #[.slice af nr nr] 33)) HR.out)
   clear hg3 hnr hlr
   go_wp2_with fail
   refine (made_any _ (!b) _ _ HR2.out (by have:=HLR.out;omega)).mono ?_
   rintro e w8 ⟨v8,rfl,hv8,hg8⟩
   rw[HS.out] at hv8
   have HV8:=Lib.hid hv8
   have HG8:=Lib.hid (HG4.out.call HG4.out.size hg8)
   have HC8:=Lib.hid (HF3.out.still (Gr.grown hg8))
   obtain⟨t0,t1,t2,t3,t4⟩:=blk2 HC8.out
   obtain⟨a8,n8,b8,rfl⟩:=hv8.parts
   clear hv8 hg8
   go_wp2_with fail
   obtain⟨s1,s2,s3⟩:=z_shut HV8.out HC8.out (by decide)
   exact z_ret rfl rfl rfl s1 ⟨_,rfl,s2,own_set2 HG8.out (by omega) _ _⟩
end Go.Proofs.YtmagoiniahpofaaGreat
namespace Go.Proofs.YtmagoiniahpofaaGreat
open Go Go.RowKit
end Go.Proofs.YtmagoiniahpofaaGreat
namespace Go.Proofs.YtmagoiniahpofaaGreat
open Go Go.RowKit
def RC (w:World) (cs:List Value) (q:Rat):Prop:=∃ c1 c2 D,cs=c1++c2∧ZC w c1 q.num∧ZC w c2 D∧(D=q.den∨(D=0∧q.den=1))
def RIs (w:World) (v:Value) (q:Rat):Prop:=∃ cs,v= .agg cs.toArray∧RC w cs q
theorem RC.keep {w w':World} {cs:List Value} {q:Rat} (h:RC w cs q) (k:Keep w w'):RC w' cs q:=by
 obtain⟨c1,c2,D,h1,h2,h3,h4⟩:=h
 exact⟨c1,c2,D,h1,h2.keep k,h3.keep k,h4⟩
theorem RIs.keep {w w':World} {v:Value} {q:Rat} (h:RIs w v q) (k:Keep w w'):RIs w' v q:=by
 obtain⟨cs,h1,h2⟩:=h
 exact⟨cs,h1,h2.keep k⟩
theorem RIs.parts {w:World} {v:Value} {q:Rat} (h:RIs w v q):∃ (a:Option Addr) (n:Nat) (b:Bool) (c:Option Addr) (m:Nat) (d:Bool),v= .agg #[.slice a n n,.bool b,.slice c m m,.bool d]:=by
 obtain⟨cs,rfl,c1,c2,D,rfl,⟨a,rfl,_⟩,⟨c,rfl,_⟩,_⟩:=h
 exact⟨a,_,_,c,_,_,rfl⟩
theorem r_parts {w:World} {a c:Option Addr} {n m:Nat} {b d:Bool} {q:Rat} (h:RIs w (.agg #[.slice a n n,.bool b,.slice c m m,.bool d]) q) :
  ZIs w (.agg #[.slice a n n,.bool b]) q.num∧∃ D,ZIs w (.agg #[.slice c m m,.bool d]) D∧(D=q.den∨(D=0∧q.den=1)):=by
 obtain⟨cs,e,c1,c2,D,rfl,⟨a',rfl,h1⟩,⟨c',rfl,h2⟩,h3⟩:=h
 simp only[Value.agg.injEq,List.cons_append,List.nil_append,Array.mk.injEq,List.cons.injEq,Value.slice.injEq,Value.bool.injEq,and_true] at e
 obtain⟨⟨rfl,rfl,_⟩,rfl,⟨rfl,rfl,_⟩,rfl⟩:=e
 exact⟨⟨_,rfl,a,rfl,h1⟩,D,⟨_,rfl,c,rfl,h2⟩,h3⟩
theorem r_mk {w:World} {a c:Option Addr} {n m:Nat} {b d:Bool} {q:Rat} (h1:ZIs w (.agg #[.slice a n n,.bool b]) q.num) (h2:ZIs w (.agg #[.slice c m m,.bool d]) q.den):RIs w (.agg #[.slice a n n,.bool b,.slice c m m,.bool d]) q:=by
 obtain⟨c1,e1,h1⟩:=h1
 obtain⟨c2,e2,h2⟩:=h2
 refine⟨c1++c2,?_,c1,c2,_,rfl,h1,h2,.inl rfl⟩
 simp only[Value.agg.injEq] at e1 e2
 have f1:=congrArg Array.toList e1
 have f2:=congrArg Array.toList e2
 simp only at f1 f2
 rw[← f1,← f2]
 rfl
theorem signZ_ne {z:Int} (h:z≠0):((signZ z) == 0)=false:=by
 unfold signZ
 by_cases h1:z<0
 ·simp[h1]
 ·simp[h1,h]
section
variable (w:World) (a:Option Addr) (n:Nat) (b:Bool) (c:Option Addr) (m:Nat) (d:Bool)
abbrev rzW:World:=(w.alloc (.cells #[.slice a n n,.bool b,.slice c m m,.bool d] 37)).alloc (.cells #[.slice none 0 0,.bool false] 35)
theorem rzW_1:BlkC 37 (rzW w a n b c m d) w.heap.size [.slice a n n,.bool b,.slice c m m,.bool d]:=(BlkC.new _ w [.slice a n n,.bool b,.slice c m m,.bool d]).still (grown_alloc _ _ none)
theorem rzW_2:BlkC 35 (rzW w a n b c m d) (w.heap.size+1) [.slice none 0 0,.bool false]:=blk_at (cs:=[.slice none 0 0,.bool false]) (by simp)
theorem rzW_g:Own w.heap.size w (rzW w a n b c m d):=(own_alloc _ _).alloc (by simp) _
end
theorem blk4 {T:TypeId} {w:World} {g:Nat} {x y z t:Value} (h:BlkC T w g [x,y,z,t]):w.cell? ⟨g,0,none⟩=some x∧w.cell? ⟨g,1,none⟩=some y∧w.cell? ⟨g,2,none⟩=some z∧w.cell? ⟨g,3,none⟩=some t:=
 ⟨by rw[h.cell 0];rfl,by rw[h.cell 1];rfl,by rw[h.cell 2];rfl,by rw[h.cell 3];rfl⟩
set_option maxHeartbeats 4000000 in
set_option maxRecDepth 100000 in
theorem den_any (q:Rat) (v:Value) (w:World) (hv:RIs w v q) (hx:(limbs q.den).length≤1000000) :
  Calls Tryz.prog 40 #[v] w fun e w'=>∃ r,e= .returned r∧ZIs w' r (q.den:Int)∧Own w.heap.size w w':=by
 obtain⟨a,n,b,c,m,d,rfl⟩:=hv.parts
 obtain⟨_,D,hD,hd⟩:=r_parts hv
 have HB1:=Lib.hid (rzW_1 w a n b c m d)
 have HB2:=Lib.hid (rzW_2 w a n b c m d)
 have HG:=Lib.hid (rzW_g w a n b c m d)
 have HD:=Lib.hid (Gr.zIs HG.out hD)
 have hDl:(limbs D.natAbs).length≤1000000:=by
  rcases hd with rfl | ⟨rfl,_⟩
  ·exact hx
  ·rw[Int.natAbs_zero,limbs_zero];simp
 have HDL:=Lib.hid hDl
 have HQ:=Lib.hid (den_ne q)
 have HDD:=Lib.hid hd
 clear hv hD hx hDl hd
 go_enter Tryz.func40,Tryz.ntmps40
 go_wp2_with fail
 refine (sign_any D _ _ HD.out HDL.out).mono ?_
 rintro e w1 ⟨rfl,hg1⟩
 have HG1:=Lib.hid (HG.out.call HG.out.size hg1)
 have HC1:=Lib.hid (HB1.out.still (Gr.grown hg1))
 have HC2:=Lib.hid (HB2.out.still (Gr.grown hg1))
 have HD1:=Lib.hid (Gr.zIs hg1 HD.out)
 clear hg1 HB1 HB2 HG HD
 by_cases h0:D=0
 ·subst h0
  have hs:(signZ 0 == 0)=true:=rfl
  have hq1:(q.den:Int)=1:=by
   rcases HDD.out with h | ⟨_,h⟩
   ·exact absurd h.symm HQ.out
   ·rw[h];rfl
  go_wp2_with fail
  refine (zedOf_any 1 _ (by omega) (by omega)).mono ?_
  rintro e w2 ⟨v2,rfl,hv2,hg2⟩
  rw[← hq1] at hv2
  have HG2:=Lib.hid (HG1.out.call HG1.out.size hg2)
  have HE2:=Lib.hid (HC2.out.still (Gr.grown hg2))
  have HV2:=Lib.hid hv2
  obtain⟨y0,y1,y2,y3,y4⟩:=blk2 HE2.out
  obtain⟨a8,n8,b8,rfl⟩:=hv2.parts
  clear hv2 hg2 hq1
  go_wp2_with fail
  obtain⟨s1,s2,s3⟩:=z_shut HV2.out HE2.out (by decide)
  exact z_ret rfl rfl rfl s1 ⟨_,rfl,s2,own_set2 HG2.out (by omega) _ _⟩
 ·have hs:=signZ_ne h0
  have HDQ:Hid (D=q.den):=by
   rcases HDD.out with h | ⟨h,_⟩;· exact h
   ·exact absurd h h0
  obtain⟨x0,x1,x2,x3⟩:=blk4 HC1.out
  obtain⟨y0,y1,y2,y3,y4⟩:=blk2 HC2.out
  clear h0
  go_wp2_with fail
  obtain⟨s1,s2,s3⟩:=z_shut HD1.out HC2.out (by decide)
  rw[HDQ.out] at s2
  exact z_ret rfl rfl rfl s1 ⟨_,rfl,s2,own_set2 HG1.out (by omega) _ _⟩
end Go.Proofs.YtmagoiniahpofaaGreat
namespace Go.Proofs.YtmagoiniahpofaaGreat
open Go Go.RowKit
theorem r_shut {T:TypeId} {w0:World} {g:Nat} {c0 c1 c2 c3 x y z t:Value} {q:Rat} (hv:RIs w0 (.agg #[c0,c1,c2,c3]) q) (hB:BlkC T w0 g [x,y,z,t]) (hT:T≠127) :
  BlkC T ((((w0.setCell ⟨g,0,none⟩ c0).setCell ⟨g,1,none⟩ c1).setCell ⟨g,2,none⟩ c2).setCell ⟨g,3,none⟩ c3) g [c0,c1,c2,c3]∧RIs ((((w0.setCell ⟨g,0,none⟩ c0).setCell ⟨g,1,none⟩ c1).setCell ⟨g,2,none⟩ c2).setCell ⟨g,3,none⟩ c3) (.agg #[c0,c1,c2,c3]) q:=by
 have h1:=hB.set 0 c0
 have h2:=h1.set 1 c1
 have h3:=h2.set 2 c2
 have hk:Keep w0 ((((w0.setCell ⟨g,0,none⟩ c0).setCell ⟨g,1,none⟩ c1).setCell ⟨g,2,none⟩ c2).setCell ⟨g,3,none⟩ c3):=(((keep_set hB hT _).trans (keep_set h1 hT _)).trans (keep_set h2 hT _)).trans (keep_set h3 hT _)
 exact⟨h3.set 3 c3,hv.keep hk⟩
theorem own_set4 {w w0:World} {B g:Nat} (h:Own B w w0) (hg:B≤g) (c0 c1 c2 c3:Value):Own B w ((((w0.setCell ⟨g,0,none⟩ c0).setCell ⟨g,1,none⟩ c1).setCell ⟨g,2,none⟩ c2).setCell ⟨g,3,none⟩ c3):=(((h.set hg 0 c0).set hg 1 c1).set hg 2 c2).set hg 3 c3
theorem r_ret {T:TypeId} {R:Ending→World→Prop} {a:Act} {w:World} {g:Nat} {x y z u:Value} {f:Func} {t:Tmp} (h:f.results= #[.cell t 37])
  (hp:a.tmps.getD t undef= .pointer (some ⟨g,0,none⟩)) (ha:a.defers=[]) (hB:BlkC T w g [x,y,z,u]) (hR:R (.returned (.agg #[x,y,z,u])) w):bodyPost Tryz.prog f R .ret a w:=
 blk_ret h (by kernel_rfl) (by kernel_rfl) hp ha hB hR
theorem blk4f {T:TypeId} {w:World} {g:Nat} {x y z t:Value} (h:BlkC T w g [x,y,z,t]):w.frozen? ⟨g,0,none⟩=false∧w.frozen? ⟨g,1,none⟩=false∧w.frozen? ⟨g,2,none⟩=false∧w.frozen? ⟨g,3,none⟩=false∧g<w.heap.size:=
 ⟨h.free 0,h.free 1,h.free 2,h.free 3,h.lt⟩
section
variable (w:World) (a:Option Addr) (n:Nat) (b:Bool) (c:Option Addr) (m:Nat) (d:Bool)
abbrev zrW:World:=(w.alloc (.cells #[.slice a n n,.bool b] 35)).alloc (.cells #[.slice none 0 0,.bool false,.slice none 0 0,.bool false] 37)
theorem zrW_1:BlkC 35 (zrW w a n b) w.heap.size [.slice a n n,.bool b]:=(BlkC.new _ w [.slice a n n,.bool b]).still (grown_alloc _ _ none)
theorem zrW_2:BlkC 37 (zrW w a n b) (w.heap.size+1) [.slice none 0 0,.bool false,.slice none 0 0,.bool false]:=blk_at (cs:=[.slice none 0 0,.bool false,.slice none 0 0,.bool false]) (by simp)
theorem zrW_g:Own w.heap.size w (zrW w a n b):=(own_alloc _ _).alloc (by simp) _
end
set_option maxHeartbeats 4000000 in
set_option maxRecDepth 100000 in
theorem whole_any (z:Int) (v:Value) (w:World) (hv:ZIs w v z) :
  Calls Tryz.prog 29 #[v] w fun e w'=>∃ r,e= .returned r∧RIs w' r (z:Rat)∧Own w.heap.size w w':=by
 obtain⟨a,n,b,rfl⟩:=hv.parts
 have HB1:=Lib.hid (zrW_1 w a n b)
 have HB2:Hid (BlkC 37 (zrW w a n b).drew (w.heap.size+1) [.slice none 0 0,.bool false,.slice none 0 0,.bool false]):=zrW_2 w a n b
 have HG:Hid (Own w.heap.size w (zrW w a n b).drew):=(zrW_g w a n b).drew
 have HN1:=Lib.hid (Gr.zIs HG.out hv)
 obtain⟨x0,x1,x2,x3,x4⟩:=blk2 HB1.out
 clear hv
 go_enter Tryz.func29,Tryz.ntmps29
 go_wp2_with fail
 go_region_held3 (fun w'=>w'.cell? ⟨w.heap.size,0,none⟩=some (.slice a n n)∧w'.cell? ⟨w.heap.size,1,none⟩=some (.bool b)) (first | go_keep | exact⟨own_cell hg9 x0,own_cell hg9 x1⟩ | (try dsimp only;repeat' apply And.intro;all_goals go_keep))
  (first | (go_at_call 30;refine (zedOf_any 1 _ (by omega) (by omega)).mono ?_;rintro e w9 ⟨v9,rfl,hv9,hg9⟩;have HV9:=Lib.hid hv9;have HG9:=Lib.hid (HG.out.call HG.out.size hg9);have HC9:=Lib.hid (HB2.out.still (Gr.grown hg9));have HN9:=Lib.hid (Gr.zIs hg9 HN1.out);obtain⟨y0,y1,y2,y3,y4⟩:=blk4f HC9.out;obtain⟨z0,z1,z2,z3⟩:=blk4 HC9.out;obtain⟨a8,n8,b8,rfl⟩:=hv9.parts;clear hv9))
 go_wp2_with fail
 obtain⟨s1,s2⟩:=r_shut (r_mk (q:=(z:Rat)) HN9.out HV9.out) HC9.out (by decide)
 exact r_ret rfl rfl rfl s1 ⟨_,rfl,s2,own_set4 HG9.out (by omega) _ _ _ _⟩
section
variable (w:World) (a:Option Addr) (n:Nat) (b:Bool) (c:Option Addr) (m:Nat) (d:Bool)
abbrev rrW:World:=(w.alloc (.cells #[.slice a n n,.bool b,.slice c m m,.bool d] 37)).alloc (.cells #[.slice none 0 0,.bool false,.slice none 0 0,.bool false] 37)
theorem rrW_1:BlkC 37 (rrW w a n b c m d) w.heap.size [.slice a n n,.bool b,.slice c m m,.bool d]:=(BlkC.new _ w [.slice a n n,.bool b,.slice c m m,.bool d]).still (grown_alloc _ _ none)
theorem rrW_2:BlkC 37 (rrW w a n b c m d) (w.heap.size+1) [.slice none 0 0,.bool false,.slice none 0 0,.bool false]:=blk_at (cs:=[.slice none 0 0,.bool false,.slice none 0 0,.bool false]) (by simp)
theorem rrW_g:Own w.heap.size w (rrW w a n b c m d):=(own_alloc _ _).alloc (by simp) _
abbrev r1W:World:=w.alloc (.cells #[.slice a n n,.bool b,.slice c m m,.bool d] 37)
theorem r1W_1:BlkC 37 (r1W w a n b c m d) w.heap.size [.slice a n n,.bool b,.slice c m m,.bool d]:=BlkC.new _ w [.slice a n n,.bool b,.slice c m m,.bool d]
theorem r1W_g:Own w.heap.size w (r1W w a n b c m d):=own_alloc _ _
end
theorem r_mk' {w:World} {a c:Option Addr} {n m:Nat} {b d:Bool} {q:Rat} {D:Int} (h1:ZIs w (.agg #[.slice a n n,.bool b]) q.num) (h2:ZIs w (.agg #[.slice c m m,.bool d]) D) (h3:D=q.den∨(D=0∧q.den=1)):RIs w (.agg #[.slice a n n,.bool b,.slice c m m,.bool d]) q:=by
 obtain⟨c1,e1,h1⟩:=h1
 obtain⟨c2,e2,h2⟩:=h2
 refine⟨c1++c2,?_,c1,c2,_,rfl,h1,h2,h3⟩
 simp only[Value.agg.injEq] at e1 e2
 have f1:=congrArg Array.toList e1
 have f2:=congrArg Array.toList e2
 simp only at f1 f2
 rw[← f1,← f2]
 rfl
set_option maxHeartbeats 4000000 in
set_option maxRecDepth 100000 in
theorem fsign_any (q:Rat) (v:Value) (w:World) (hv:RIs w v q) (hx:(limbs q.num.natAbs).length≤1000000) :
  Calls Tryz.prog 27 #[v] w fun e w'=>e= .returned (Value.int .i64 (signZ q.num))∧Own w.heap.size w w':=by
 obtain⟨a,n,b,c,m,d,rfl⟩:=hv.parts
 obtain⟨hN,_⟩:=r_parts hv
 have HB1:=Lib.hid (r1W_1 w a n b c m d)
 have HG:=Lib.hid (r1W_g w a n b c m d)
 have HN:=Lib.hid (Gr.zIs HG.out hN)
 have HX:=Lib.hid hx
 obtain⟨x0,x1,x2,x3⟩:=blk4 HB1.out
 clear hv hN hx
 go_enter Tryz.func27,Tryz.ntmps27
 go_wp2_with fail
 refine (sign_any q.num _ _ HN.out HX.out).mono ?_
 rintro e w1 ⟨rfl,hg1⟩
 have HG1:=Lib.hid (HG.out.call HG.out.size hg1)
 clear hg1
 go_wp2_with fail
 go_ret
 exact⟨rfl,HG1.out⟩
set_option maxHeartbeats 4000000 in
set_option maxRecDepth 100000 in
theorem fneg_any (q:Rat) (v:Value) (w:World) (hv:RIs w v q) (hx:(limbs q.num.natAbs).length≤1000000) :
  Calls Tryz.prog 49 #[v] w fun e w'=>∃ r,e= .returned r∧RIs w' r (-q)∧Own w.heap.size w w':=by
 obtain⟨a,n,b,c,m,d,rfl⟩:=hv.parts
 obtain⟨hN,D,hD,hd⟩:=r_parts hv
 have HB1:Hid (BlkC 37 (rrW w a n b c m d).drew w.heap.size [.slice a n n,.bool b,.slice c m m,.bool d]):=rrW_1 w a n b c m d
 have HB2:Hid (BlkC 37 (rrW w a n b c m d).drew (w.heap.size+1) [.slice none 0 0,.bool false,.slice none 0 0,.bool false]):=rrW_2 w a n b c m d
 have HG:Hid (Own w.heap.size w (rrW w a n b c m d).drew):=(rrW_g w a n b c m d).drew
 have HN:=Lib.hid (Gr.zIs HG.out hN)
 have HD:=Lib.hid (Gr.zIs HG.out hD)
 have HX:=Lib.hid hx
 have HDD:=Lib.hid hd
 obtain⟨x0,x1,x2,x3⟩:=blk4 HB1.out
 have ne1:¬ w.heap.size=w.heap.size+1:=by omega
 have ne2:¬ w.heap.size+1=w.heap.size:=by omega
 clear hv hN hD hd hx
 go_enter Tryz.func49,Tryz.ntmps49
 go_wp2_with fail
 go_region_held3 (fun w'=>w'.cell? ⟨w.heap.size,0,none⟩=some (.slice a n n)∧w'.cell? ⟨w.heap.size,1,none⟩=some (.bool b)∧w'.cell? ⟨w.heap.size,2,none⟩=some (.slice c m m)∧w'.cell? ⟨w.heap.size,3,none⟩=some (.bool d)) (first | go_keep | exact⟨own_cell hg9 x0,own_cell hg9 x1,own_cell hg9 x2,own_cell hg9 x3⟩ | (try dsimp only;repeat' apply And.intro;all_goals go_keep))
  (first | (go_at_call 86;refine (neg_any q.num _ _ HN.out HX.out).mono ?_;rintro e w9 ⟨v9,rfl,hv9,hg9⟩;have HV9:=Lib.hid hv9;have HG9:=Lib.hid (HG.out.call HG.out.size hg9);have HC9:=Lib.hid (HB2.out.still (Gr.grown hg9));have HN9:=Lib.hid (Gr.zIs hg9 HD.out);obtain⟨y0,y1,y2,y3,y4⟩:=blk4f HC9.out;obtain⟨z0,z1,z2,z3⟩:=blk4 HC9.out;obtain⟨a8,n8,b8,rfl⟩:=hv9.parts;clear hv9))
 go_wp2_with fail
 obtain⟨s1,s2⟩:=r_shut (r_mk' (q:= -q) HV9.out HN9.out HDD.out) HC9.out (by decide)
 exact r_ret rfl rfl rfl s1 ⟨_,rfl,s2,own_set4 HG9.out (by omega) _ _ _ _⟩
end Go.Proofs.YtmagoiniahpofaaGreat
namespace Go.Proofs.YtmagoiniahpofaaGreat
open Go Go.RowKit
inductive Pt where
 |any
 |is (v:Value)
 |n (k:Nat)
 |z (k:Int)
 |q (k:Rat)
 |p (K:World→Value→Prop) (h:∀ (w w':World) (v:Value),Keep w w'→K w v→K w' v)
def Pt.ok (w:World):Pt→Value→Prop
 | .any,_=>True
 | .is u,v=>v=u
 | .n k,v=>NatIs w v k
 | .z k,v=>ZIs w v k
 | .q k,v=>RIs w v k
 | .p K _,v=>K w v
theorem Pt.ok.gr {w w':World} (g:Gr w w'):∀ {p:Pt} {v:Value},p.ok w v→p.ok w' v
 | .any,_,_=>trivial
 | .is _,_,h=>h
 | .n _,_,h=>Gr.natIs g h
 | .z _,_,h=>Gr.zIs g h
 | .q _,_,h=>RIs.keep h g.keep
 | .p _ hk,_,h=>hk _ _ _ g.keep h
theorem par_value {P:Program} {o:Oper} {a:Act} {w w':World} {v:Value} {K:Value→World→Prop} (h:(execOp a.eval o).run P w= .ok (.value v) w') (k:K v w'):ParOK P o a w K:=by
 intro Q
 unfold Oper.wp
 rw[h,Oper.upon_value]
 exact⟨v,rfl,k⟩
theorem par_call {P:Program} {o:Oper} {a:Act} {w w':World} {f:FuncId} {xs:Array Value} {K:Value→World→Prop} (h:(execOp a.eval o).run P w= .ok (.enter f xs) w') (k:Calls P f xs w' fun e w''=>∃ v,e= .returned v∧K v w''):ParOK P o a w K:=by
 intro Q
 unfold Oper.wp
 rw[h,Oper.upon_enter]
 refine k.mono ?_
 rintro e w'' ⟨v,rfl,hk⟩
 exact⟨v,rfl,hk⟩
theorem region_own {P:Program} {id:Nat} {ops:List Oper} {m:Nat} {a0:Act} {w0:World} {Q:Exit→Act→World→Prop} (hx:P.follows .mixedOrders=true) (hp:parB m ops=true) (hm:a0.tmps.size=m)
  (s:Nat→Pt)
  (hstep:∀ i o a w,ops[i]? =some o→Gr w0.drew w→
   (∀ j p d,ops[j]? =some p→(o.after.any fun e=>Region.binds .any e && e.on == j)=true→p.dst=some d→(s j).ok w (a.tmps.getD d undef))→
   (∀ t,(∀ p∈ops,p.dst≠some t)→a.tmps.getD t undef=a0.tmps.getD t undef)→
   ParOK P o a w (fun v w'=>Gr w w'∧(s i).ok w' v))
  (hend:∀ (vs:Nat→Value) w,Gr w0.drew w→(∀ j p d,ops[j]? =some p→p.dst=some d→(s j).ok w (vs d))→Q .normal (putAll ops vs a0) w) :
  (Code.region id ops.toArray true).wp P Q a0 w0:=by
 refine region_par hx hp hm (fun _ w=>Gr w0.drew w) (fun i v w=>(s i).ok w v) (fun _ _ _ _ h=>h) (Own.refl _ _) ?_ ?_
 ·intro i o f a w hi hW hf hdep hS hfr
  intro Q'
  refine Oper.wp_mono ?_ (hstep i o a w hi hW (fun j p d hp hj hd=>hS j p d hp (by
   rw[Array.any_eq_true'] at hj
   obtain⟨e,he,hb⟩:=hj
   simp only[Bool.and_eq_true,beq_iff_eq] at hb
   rw[← hb.2]
   exact hdep e he hb.1) hd) hfr Q')
  rintro a' w' ⟨v,rfl,hg,hv⟩
  exact⟨v,rfl,fun _ _ h=>Pt.ok.gr hg h,hW.call hW.size hg,hv⟩
 ·intro vs w hW hS
  exact hend vs w hW hS
theorem limbs_mul_len (x y:Nat):(limbs (x*y)).length≤(limbs x).length+(limbs y).length:=by
 have h1:=val_lt (limbs_limb x)
 have h2:=val_lt (limbs_limb y)
 rw[val_limbs] at h1 h2
 rw[limbs_len,Nat.pow_add]
 exact Nat.mul_lt_mul'' h1 h2
theorem limbs_mulZ (x y:Int):(limbs (x*y).natAbs).length≤(limbs x.natAbs).length+(limbs y.natAbs).length:=by
 rw[Int.natAbs_mul]
 exact limbs_mul_len _ _
end Go.Proofs.YtmagoiniahpofaaGreat
namespace Go.Proofs.YtmagoiniahpofaaGreat
open Go Go.RowKit
section
variable (w:World) (a:Option Addr) (n:Nat) (b:Bool) (c:Option Addr) (m:Nat) (d:Bool) (a':Option Addr) (n':Nat) (b':Bool) (c':Option Addr) (m':Nat) (d':Bool)
abbrev r2W:World:=(w.alloc (.cells #[.slice a n n,.bool b,.slice c m m,.bool d] 37)).alloc (.cells #[.slice a' n' n',.bool b',.slice c' m' m',.bool d'] 37)
theorem r2W_1:BlkC 37 (r2W w a n b c m d a' n' b' c' m' d') w.heap.size [.slice a n n,.bool b,.slice c m m,.bool d]:=(BlkC.new _ w [.slice a n n,.bool b,.slice c m m,.bool d]).still (grown_alloc _ _ none)
theorem r2W_2:BlkC 37 (r2W w a n b c m d a' n' b' c' m' d') (w.heap.size+1) [.slice a' n' n',.bool b',.slice c' m' m',.bool d']:=blk_at (cs:=[.slice a' n' n',.bool b',.slice c' m' m',.bool d']) (by simp)
theorem r2W_g:Own w.heap.size w (r2W w a n b c m d a' n' b' c' m' d'):=(own_alloc _ _).alloc (by simp) _
end
set_option maxHeartbeats 4000000 in
set_option maxRecDepth 100000 in
theorem fcmp_any (q p:Rat) (v u:Value) (w:World) (hv:RIs w v q) (hu:RIs w u p) (hq:(limbs q.num.natAbs).length+(limbs q.den).length≤400000) (hp:(limbs p.num.natAbs).length+(limbs p.den).length≤400000) :
  Calls Tryz.prog 14 #[v,u] w fun e w'=>e= .returned (Value.int .i64 (cmpR q p))∧Own w.heap.size w w':=by
 obtain⟨a,n,b,c,m,d,rfl⟩:=hv.parts
 obtain⟨a',n',b',c',m',d',rfl⟩:=hu.parts
 have HB1:Hid (BlkC 37 (r2W w a n b c m d a' n' b' c' m' d').drew w.heap.size [.slice a n n,.bool b,.slice c m m,.bool d]):=r2W_1 w a n b c m d a' n' b' c' m' d'
 have HB2:Hid (BlkC 37 (r2W w a n b c m d a' n' b' c' m' d').drew (w.heap.size+1) [.slice a' n' n',.bool b',.slice c' m' m',.bool d']):=r2W_2 w a n b c m d a' n' b' c' m' d'
 have HG:Hid (Own w.heap.size w (r2W w a n b c m d a' n' b' c' m' d').drew):=(r2W_g w a n b c m d a' n' b' c' m' d').drew
 have HV:=Lib.hid (RIs.keep hv (Gr.keep HG.out))
 have HU:=Lib.hid (RIs.keep hu (Gr.keep HG.out))
 have HQ:=Lib.hid hq
 have HP:=Lib.hid hp
 clear hv hu hq hp
 go_enter Tryz.func14,Tryz.ntmps14
 go_wp2_with fail
 refine region_own (s:=fun
  |0=> .is (.pointer (some ⟨w.heap.size,0,none⟩)) | 1=> .z q.num | 2=> .q p | 3=> .z p.den | 4=> .z (q.num*p.den)
  |5=> .is (.pointer (some ⟨w.heap.size+1,0,none⟩)) | 6=> .z p.num | 7=> .q q | 8=> .z q.den | 9=> .z (p.num*q.den)
  |10=> .is (.int .i64 (cmpR q p)) | _=> .is (.int .i64 (cmpR q p))) (by kernel_rfl) (by kernel_rfl) rfl ?_ ?_
 ·intro i o A W hi hg hdep hfr
  rcases i with _ | _ | _ | _ | _ | _ | _ | _ | _ | _ | _ | _ | i
  all_goals (simp at hi)
  all_goals (try subst hi)
  ·have t2:=hfr 2 (by simp)
   refine par_value (v:= .pointer (some ⟨w.heap.size,0,none⟩)) (w':=W) ?_ ⟨Own.refl _ _,rfl⟩
   simp[go_sem,Act.eval,t2]
  ·have t5:A.tmps.getD 5 undef= .pointer (some ⟨w.heap.size,0,none⟩):=hdep 0 _ 5 rfl (by kernel_rfl) rfl
   obtain⟨x0,x1,x2,x3⟩:=blk4 (HB1.out.still (Gr.grown hg))
   refine par_value (v:= .agg #[.slice a n n,.bool b]) (w':=W) ?_ ⟨Own.refl _ _,Gr.zIs hg (r_parts HV.out).1⟩
   simp[go_sem,Act.eval,t5,x0,x1]
  ·have t3:=hfr 3 (by simp)
   obtain⟨x0,x1,x2,x3⟩:=blk4 (HB2.out.still (Gr.grown hg))
   refine par_value (v:= .agg #[.slice a' n' n',.bool b',.slice c' m' m',.bool d']) (w':=W) ?_ ⟨Own.refl _ _,HU.out.keep (Gr.keep hg)⟩
   simp[go_sem,Act.eval,t3,x0,x1,x2,x3]
  ·have t7:RIs W (A.tmps.getD 7 undef) p:=hdep 2 _ 7 rfl (by kernel_rfl) rfl
   refine par_call (w':=W) (f:=40) (xs:= #[A.tmps.getD 7 undef]) (by simp[go_sem,Act.eval]) ?_
   refine (den_any p _ _ t7 (by have:=HP.out;omega)).mono ?_
   rintro e w1 ⟨r,rfl,hr,hg1⟩
   exact⟨r,rfl,hg1,hr⟩
  ·have t6:ZIs W (A.tmps.getD 6 undef) q.num:=hdep 1 _ 6 rfl (by kernel_rfl) rfl
   have t8:ZIs W (A.tmps.getD 8 undef) p.den:=hdep 3 _ 8 rfl (by kernel_rfl) rfl
   refine par_call (w':=W) (f:=39) (xs:= #[A.tmps.getD 6 undef,A.tmps.getD 8 undef]) (by simp[go_sem,Act.eval]) ?_
   refine (mulZ_any _ _ _ _ _ t6 t8 (by have:=HQ.out;omega) (by have:=HP.out;rw[Int.natAbs_natCast];omega)).mono ?_
   rintro e w1 ⟨r,rfl,hr,hg1⟩
   exact⟨r,rfl,hg1,hr⟩
  ·have t3:=hfr 3 (by simp)
   refine par_value (v:= .pointer (some ⟨w.heap.size+1,0,none⟩)) (w':=W) ?_ ⟨Own.refl _ _,rfl⟩
   simp[go_sem,Act.eval,t3]
  ·have t10:A.tmps.getD 10 undef= .pointer (some ⟨w.heap.size+1,0,none⟩):=hdep 5 _ 10 rfl (by kernel_rfl) rfl
   obtain⟨x0,x1,x2,x3⟩:=blk4 (HB2.out.still (Gr.grown hg))
   refine par_value (v:= .agg #[.slice a' n' n',.bool b']) (w':=W) ?_ ⟨Own.refl _ _,Gr.zIs hg (r_parts HU.out).1⟩
   simp[go_sem,Act.eval,t10,x0,x1]
  ·have t2:=hfr 2 (by simp)
   obtain⟨x0,x1,x2,x3⟩:=blk4 (HB1.out.still (Gr.grown hg))
   refine par_value (v:= .agg #[.slice a n n,.bool b,.slice c m m,.bool d]) (w':=W) ?_ ⟨Own.refl _ _,HV.out.keep (Gr.keep hg)⟩
   simp[go_sem,Act.eval,t2,x0,x1,x2,x3]
  ·have t12:RIs W (A.tmps.getD 12 undef) q:=hdep 7 _ 12 rfl (by kernel_rfl) rfl
   refine par_call (w':=W) (f:=40) (xs:= #[A.tmps.getD 12 undef]) (by simp[go_sem,Act.eval]) ?_
   refine (den_any q _ _ t12 (by have:=HQ.out;omega)).mono ?_
   rintro e w1 ⟨r,rfl,hr,hg1⟩
   exact⟨r,rfl,hg1,hr⟩
  ·have t11:ZIs W (A.tmps.getD 11 undef) p.num:=hdep 6 _ 11 rfl (by kernel_rfl) rfl
   have t13:ZIs W (A.tmps.getD 13 undef) q.den:=hdep 8 _ 13 rfl (by kernel_rfl) rfl
   refine par_call (w':=W) (f:=39) (xs:= #[A.tmps.getD 11 undef,A.tmps.getD 13 undef]) (by simp[go_sem,Act.eval]) ?_
   refine (mulZ_any _ _ _ _ _ t11 t13 (by have:=HP.out;omega) (by have:=HQ.out;rw[Int.natAbs_natCast];omega)).mono ?_
   rintro e w1 ⟨r,rfl,hr,hg1⟩
   exact⟨r,rfl,hg1,hr⟩
  ·have t9:ZIs W (A.tmps.getD 9 undef) (q.num*p.den):=hdep 4 _ 9 rfl (by kernel_rfl) rfl
   have t14:ZIs W (A.tmps.getD 14 undef) (p.num*q.den):=hdep 9 _ 14 rfl (by kernel_rfl) rfl
   refine par_call (w':=W) (f:=41) (xs:= #[A.tmps.getD 9 undef,A.tmps.getD 14 undef]) (by simp[go_sem,Act.eval]) ?_
   have l1:=limbs_mulZ q.num p.den
   have l2:=limbs_mulZ p.num q.den
   rw[Int.natAbs_natCast] at l1 l2
   have:=HP.out
   have:=HQ.out
   refine (zCmp_any _ _ _ _ _ t9 t14 (by omega) (by omega)).mono ?_
   rintro e w1 ⟨rfl,hg1⟩
   exact⟨_,rfl,hg1,by rw[cmpR_num];rfl⟩
  ·have t15:A.tmps.getD 15 undef= .int .i64 (cmpR q p):=hdep 10 _ 15 rfl (by kernel_rfl) rfl
   refine par_value (v:= .int .i64 (cmpR q p)) (w':=W) ?_ ⟨Own.refl _ _,rfl⟩
   simp[go_sem,Act.eval,t15]
 ·intro vs W hg hs
  have t4:vs 4= .int .i64 (cmpR q p):=hs 11 _ 4 rfl rfl
  have hgo:=HG.out.call HG.out.size hg
  simp only[putAll,List.foldl_cons,List.foldl_nil,Act.put,List.setIfInBounds_toArray,List.set_cons_succ,List.set_cons_zero,t4]
  go_wp2_with fail
  go_ret
  exact⟨rfl,hgo⟩
end Go.Proofs.YtmagoiniahpofaaGreat
namespace Go.Proofs.YtmagoiniahpofaaGreat
open Go Go.RowKit
def PJ2 (ops:List Oper) (W:(Nat→Bool)→Act→World→Prop) (S:Nat→Value→World→Prop) (a0:Act) (listed:Array Bool) (a:Act) (w:World):Prop:=
 listed.size=ops.length∧W (fun j=>listed.getD j false) a w∧a.defers=a0.defers∧a.tmps.size=a0.tmps.size∧
  (∀ t,(∀ j o,ops[j]? =some o→listed.getD j false=true→o.dst≠some t)→a.tmps[t]? =a0.tmps[t]?)∧
  (∀ j o d,ops[j]? =some o→listed.getD j false=true→o.dst=some d→S j (a.tmps.getD d undef) w)∧
  (∀ j o,ops[j]? =some o→listed.getD j false=true→∀ e∈o.after,Region.binds .any e=true→listed.getD e.on false=true)
theorem par_any2 {P:Program} {ops:List Oper} {m:Nat} {a0:Act} {Q:Exit→Act→World→Prop} (hp:parB m ops=true) (hm:a0.tmps.size=m)
  (W:(Nat→Bool)→Act→World→Prop) (S:Nat→Value→World→Prop)
  (hW:∀ f g a w,(∀ j,j<ops.length→f j=g j)→W f a w→W g a w)
  (hstep:∀ i o f a w,ops[i]? =some o→W f a w→f i=false→(∀ e∈o.after,Region.binds .any e=true→f e.on=true)→
   (∀ j p d,ops[j]? =some p→f j=true→p.dst=some d→S j (a.tmps.getD d undef) w)→
   (∀ j p,ops[j]? =some p→f j=true→∀ e∈p.after,Region.binds .any e=true→f e.on=true)→
   (∀ t,(∀ p∈ops,p.dst≠some t)→a.tmps.getD t undef=a0.tmps.getD t undef)→
   a.tmps.size=a0.tmps.size→
   ParOK P o a w (fun v w'=>(∀ j u,S j u w→S j u w')∧W (upd f i) (a.put o.dst v) w'∧S i v w'))
  (hend:∀ (vs:Nat→Value) w,W (fun _=>true) (putAll ops vs a0) w→(∀ j p d,ops[j]? =some p→p.dst=some d→S j (vs d) w)→Q .normal (putAll ops vs a0) w) :
  ∀ (fuel:Nat) (listed:Array Bool) (a:Act) (w:World),listed.toList.count false≤fuel→PJ2 ops W S a0 listed a w→wpAny P .any ops.toArray Q fuel listed a w:=by
 have fin:∀ listed a w,PJ2 ops W S a0 listed a w→Region.ready .any ops.toArray listed=[]→Q .normal a w:=by
  intro listed a w ⟨j1,j2,j3,j4,j5,j6,j7⟩ hr
  have hall:=ready_nil hp j1 hr
  have e:a=putAll ops (fun t=>a.tmps.getD t undef) a0:=by
   obtain⟨p1,p2,p3⟩:=foldl_put (fun t=>a.tmps.getD t undef) ops a0
   have et:a.tmps=(putAll ops (fun t=>a.tmps.getD t undef) a0).tmps:=by
    apply Array.ext_getElem?
    intro t
    rw[p3 t]
    by_cases hc:(∃ o∈ops,o.dst=some t)∧t<a0.tmps.size
    ·rw[if_pos hc]
     have:t<a.tmps.size:=by rw[j4];exact hc.2
     simp[Array.getD_eq_getD_getElem?,Array.getElem?_eq_getElem this]
    ·rw[if_neg hc]
     by_cases ht:t<a0.tmps.size
     ·exact j5 t (fun j o ho _ hd=>hc ⟨⟨o,List.mem_of_getElem? ho,hd⟩,ht⟩)
     ·rw[Array.getElem?_eq_none (by omega),Array.getElem?_eq_none (by omega)]
   calc a=⟨a.tmps,a.defers⟩:=rfl
    _=⟨(putAll ops (fun t=>a.tmps.getD t undef) a0).tmps,(putAll ops (fun t=>a.tmps.getD t undef) a0).defers⟩:=by rw[← et,p1,j3]
    _=_:=rfl
  have j2':=hW _ (fun _=>true) a w (fun j hj=>hall j hj) j2
  rw[e] at j2' ⊢
  refine hend _ w j2' (fun j p d hj hd=> ?_)
  have hjl:j<ops.length:=(List.getElem?_eq_some_iff.1 hj).1
  exact j6 j p d hj (hall j hjl) hd
 intro fuel
 induction fuel with
 |zero=>
  intro listed a w hc hJ
  have hr:Region.ready .any ops.toArray listed=[]:=by
   apply List.eq_nil_iff_forall_not_mem.2
   intro i hi
   have h1:=(ready_mem hi).1
   have:=count_set h1
   omega
  exact⟨hr,fin _ _ _ hJ hr⟩
 |succ fuel ih=>
  intro listed a w hc hJ
  refine⟨fin _ _ _ hJ,fun i hi=> ?_⟩
  obtain⟨h1,o,ho,hdep⟩:=ready_mem hi
  obtain⟨j1,j2,j3,j4,j5,j6,j7⟩:=hJ
  obtain⟨hg,_,hdst⟩:=par_spec hp ho
  have hil:i<listed.size:=by rw[j1];exact (List.getElem?_eq_some_iff.1 ho).1
  have hf:listed.getD i false=false:=by
   simp only[Array.getD_eq_getD_getElem?,Array.getElem?_eq_getElem hil,Option.getD_some] at h1 ⊢
   exact h1
  have hfr:∀ t,(∀ p∈ops,p.dst≠some t)→a.tmps.getD t undef=a0.tmps.getD t undef:=fun t ht=>by
   simp only[Array.getD_eq_getD_getElem?,j5 t (fun j o ho _=>ht o (List.mem_of_getElem? ho))]
  have hok:=hstep i o _ a w ho j2 hf hdep j6 j7 hfr j4
  unfold wpOp
  have ho2:ops.toArray[i]? =some o:=by simpa using ho
  simp only[ho2]
  have hw:Region.wanted o (yielded ops.toArray a.tmps)=true:=by simp[Region.wanted,hg]
  rw[if_pos hw]
  refine .inl (oper_wp_of hok ?_)
  intro v w' ⟨hmono,hW',hS'⟩
  have hget:∀ j,(listed.setIfInBounds i true).getD j false=upd (fun j=>listed.getD j false) i j:=fun j=>by
   unfold upd
   simp only[Array.getD_eq_getD_getElem?,Array.getElem?_setIfInBounds]
   by_cases hij:i=j
   ·subst hij;simp[hil]
   ·rw[if_neg hij,if_neg (Ne.symm hij)]
  refine ih _ _ _ (by have:=count_set h1;omega) ⟨by simp[j1],?_,?_,?_,?_,?_,?_⟩
  ·exact hW _ _ _ w' (fun j _=>(hget j).symm) hW'
  ·cases hd:o.dst<;>simp[Act.put,j3]
  ·cases hd:o.dst<;>simp[Act.put,j4]
  ·intro t ht
   cases hd:o.dst with
   |none=>exact j5 t (fun j p hj hl=>ht j p hj (by rw[hget];unfold upd;split<;>first | rfl | exact hl))
   |some d=>
    have hne:d≠t:=by
     rintro rfl
     exact ht i o ho (by rw[hget];simp[upd]) hd
    simp only[Act.put,Array.getElem?_setIfInBounds,if_neg hne]
    exact j5 t (fun j p hj hl=>ht j p hj (by rw[hget];unfold upd;split<;>first | rfl | exact hl))
  ·intro j p d hj hl hd
   by_cases hij:j=i
   ·subst hij
    rw[ho] at hj
    cases hj
    have hdm:=(hdst d hd).1
    simp only[hd,Act.put,Array.getD_eq_getD_getElem?,Array.getElem?_setIfInBounds,if_pos,j4,hm,hdm,Option.getD_some]
    exact hS'
   ·have hl2:listed.getD j false=true:=by rw[hget] at hl;unfold upd at hl;rwa [if_neg hij] at hl
    have h3:=hmono _ _ (j6 j p d hj hl2 hd)
    cases hd2:o.dst with
    |none=>exact h3
    |some d2=>
     have hne:d2≠d:=by
      rintro rfl
      exact hij ((hdst d2 hd2).2 j p hj hd)
     simp only[Act.put,Array.getD_eq_getD_getElem?,Array.getElem?_setIfInBounds,if_neg hne]
     simpa[Array.getD_eq_getD_getElem?] using h3
  ·intro j p hj hl e he hb
   rw[hget]
   unfold upd
   split
   ·rfl
   ·by_cases hij:j=i
    ·subst hij
     rw[ho] at hj
     cases hj
     exact hdep e he hb
    ·have hl2:listed.getD j false=true:=by rw[hget] at hl;unfold upd at hl;rwa [if_neg hij] at hl
     exact j7 j p hj hl2 e he hb
theorem region_act {P:Program} {id:Nat} {ops:List Oper} {m:Nat} {a0:Act} {w0:World} {Q:Exit→Act→World→Prop} (hx:P.follows .mixedOrders=true) (hp:parB m ops=true) (hm:a0.tmps.size=m)
  (W:(Nat→Bool)→Act→World→Prop) (S:Nat→Value→World→Prop)
  (hW:∀ f g a w,(∀ j,j<ops.length→f j=g j)→W f a w→W g a w) (h0:W (fun _=>false) a0 w0.drew)
  (hstep:∀ i o f a w,ops[i]? =some o→W f a w→f i=false→(∀ e∈o.after,Region.binds .any e=true→f e.on=true)→
   (∀ j p d,ops[j]? =some p→f j=true→p.dst=some d→S j (a.tmps.getD d undef) w)→
   (∀ j p,ops[j]? =some p→f j=true→∀ e∈p.after,Region.binds .any e=true→f e.on=true)→
   (∀ t,(∀ p∈ops,p.dst≠some t)→a.tmps.getD t undef=a0.tmps.getD t undef)→
   a.tmps.size=a0.tmps.size→
   ParOK P o a w (fun v w'=>(∀ j u,S j u w→S j u w')∧W (upd f i) (a.put o.dst v) w'∧S i v w'))
  (hend:∀ (vs:Nat→Value) w,W (fun _=>true) (putAll ops vs a0) w→(∀ j p d,ops[j]? =some p→p.dst=some d→S j (vs d) w)→Q .normal (putAll ops vs a0) w) :
  (Code.region id ops.toArray true).wp P Q a0 w0:=by
 refine wp_region_any hx ?_
 refine par_any2 hp hm W S hW hstep hend _ _ _ _ (by simp) ⟨by simp,?_,rfl,rfl,fun _ _=>rfl,?_,?_⟩
 ·refine hW _ _ _ _ (fun j hj=> ?_) h0
  simp[Array.getD_eq_getD_getElem?,hj]
 ·intro j o d hj hl
  have hjl:j<ops.length:=(List.getElem?_eq_some_iff.1 hj).1
  simp[Array.getD_eq_getD_getElem?,hjl] at hl
 ·intro j o hj hl
  have hjl:j<ops.length:=(List.getElem?_eq_some_iff.1 hj).1
  simp[Array.getD_eq_getD_getElem?,hjl] at hl
end Go.Proofs.YtmagoiniahpofaaGreat
namespace Go.Proofs.YtmagoiniahpofaaGreat
open Go Go.RowKit
theorem Pt.ok.keep {w w':World} (k:Keep w w'):∀ {p:Pt} {v:Value},p.ok w v→p.ok w' v
 | .any,_,_=>trivial
 | .is _,_,h=>h
 | .n _,_,h=>NatIs.keep h k
 | .z _,_,h=>ZIs.keep h k
 | .q _,_,h=>RIs.keep h k
 | .p _ hk,_,h=>hk _ _ _ k h
theorem region_mem {P:Program} {id:Nat} {ops:List Oper} {m:Nat} {a0:Act} {w0:World} {Q:Exit→Act→World→Prop} (hx:P.follows .mixedOrders=true) (hp:parB m ops=true) (hm:a0.tmps.size=m)
  (s:Nat→Pt) (J:(Nat→Bool)→Act→World→Prop) (hJ:∀ f g a w,(∀ j,j<ops.length→f j=g j)→J f a w→J g a w) (h0:J (fun _=>false) a0 w0.drew)
  (hstep:∀ i o f a w,ops[i]? =some o→J f a w→f i=false→
   (∀ j p d,ops[j]? =some p→(o.after.any fun e=>Region.binds .any e && e.on == j)=true→p.dst=some d→(s j).ok w (a.tmps.getD d undef))→
   (∀ j,(o.after.any fun e=>Region.binds .any e && e.on == j)=true→f j=true)→
   (∀ k p j,ops[k]? =some p→f k=true→(p.after.any fun e=>Region.binds .any e && e.on == j)=true→f j=true)→
   (∀ t,(∀ p∈ops,p.dst≠some t)→a.tmps.getD t undef=a0.tmps.getD t undef)→
   a.tmps.size=a0.tmps.size→
   ParOK P o a w (fun v w'=>Keep w w'∧J (upd f i) (a.put o.dst v) w'∧(s i).ok w' v))
  (hend:∀ (vs:Nat→Value) w,J (fun _=>true) (putAll ops vs a0) w→(∀ j p d,ops[j]? =some p→p.dst=some d→(s j).ok w (vs d))→Q .normal (putAll ops vs a0) w) :
  (Code.region id ops.toArray true).wp P Q a0 w0:=by
 refine region_act hx hp hm J (fun i v w=>(s i).ok w v) hJ h0 ?_ hend
 intro i o f a w hi hW hf hdep hS hcl hfr hsz
 have hany:∀ (p:Oper) j,(∀ e∈p.after,Region.binds .any e=true→f e.on=true)→(p.after.any fun e=>Region.binds .any e && e.on == j)=true→f j=true:=by
  intro p j h hj
  rw[Array.any_eq_true'] at hj
  obtain⟨e,he,hb⟩:=hj
  simp only[Bool.and_eq_true,beq_iff_eq] at hb
  rw[← hb.2]
  exact h e he hb.1
 intro Q'
 refine Oper.wp_mono ?_ (hstep i o f a w hi hW hf (fun j p d hp hj hd=>hS j p d hp (hany o j hdep hj) hd) (fun j hj=>hany o j hdep hj) (fun k p j hk hfk hj=>hany p j (hcl k p hk hfk) hj) hfr hsz Q')
 rintro a' w' ⟨v,rfl,hk,hj,hv⟩
 exact⟨v,rfl,fun _ _ h=>Pt.ok.keep hk h,hj,hv⟩
section
variable {B:Nat} {w0:World} {bx:List (TypeId × Nat × List Value)} {T:TypeId} {g i:Nat} {q:Rat} {f:Nat→Bool} {w:World}
end
end Go.Proofs.YtmagoiniahpofaaGreat
namespace Go.Proofs.YtmagoiniahpofaaGreat
open Go Go.RowKit
structure Tg where
 d:Nat
 ia:Option Nat
 st:Nat
 T:TypeId
 K:Bool→World→List Value→Prop
 kk:∀ (c:Bool) (w w':World) (cs:List Value),Keep w w'→K c w cs→K c w' cs
def Tg.there (t:Tg) (f:Nat→Bool):Prop:=∀ i,t.ia=some i→f i=true
structure MM (B:Nat) (w0 wk:World) (bx:List (TypeId × Nat × List Value)) (tg:List Tg) (f:Nat→Bool) (a:Act) (w:World):Prop where
 b:Below B w0 w
 k:Keep wk w
 hs:B≤w.heap.size
 kept:∀ x:TypeId × Nat × List Value,x∈bx→BlkC x.1 w x.2.1 x.2.2
 at':∀ t:Tg,t∈tg→t.there f→∃ g cs,a.tmps.getD t.d undef= .pointer (some ⟨g,0,none⟩)∧B≤g∧BlkC t.T w g cs∧t.K (f t.st) w cs∧∀ x:TypeId × Nat × List Value,x∈bx→x.2.1≠g
 ne:∀ t u:Tg,t∈tg→u∈tg→t.d≠u.d→t.there f→u.there f→a.tmps.getD t.d undef≠a.tmps.getD u.d undef
section
variable {B:Nat} {w0 wk:World} {bx:List (TypeId × Nat × List Value)} {tg:List Tg} {f:Nat→Bool} {a:Act} {w:World}
theorem put_other {o:Option Nat} {d:Nat} (v:Value) (h:o≠some d):(a.put o v).tmps.getD d undef=a.tmps.getD d undef:=by
 cases o with
 |none=>rfl
 |some x=>
  have hx:x≠d:=fun e=>h (by rw[e])
  simp only[Act.put,Array.getD_eq_getD_getElem?,Array.getElem?_setIfInBounds,if_neg hx]
theorem put_same {d:Nat} (v:Value) (h:d<a.tmps.size):(a.put (some d) v).tmps.getD d undef=v:=by
 simp[Act.put,Array.getD_eq_getD_getElem?,h]
theorem there_upd {t:Tg} {i:Nat} (h:t.ia≠some i):t.there (upd f i)↔t.there f:=by
 unfold Tg.there upd
 constructor
 ·intro g j hj
  have:=g j hj
  rwa [if_neg (by rintro rfl;exact h hj)] at this
 ·intro g j hj
  rw[if_neg (by rintro rfl;exact h hj)]
  exact g j hj
theorem MM.ext {g:Nat→Bool} {n:Nat} (hn:∀ t,t∈tg→t.st<n∧∀ i,t.ia=some i→i<n) (e:∀ j,j<n→f j=g j) (h:MM B w0 wk bx tg f a w):MM B w0 wk bx tg g a w:=by
 have ht:∀ t,t∈tg→(t.there g↔t.there f):=fun t ht=>by
  unfold Tg.there
  constructor
  ·intro k i hi;rw[e i ((hn t ht).2 i hi)];exact k i hi
  ·intro k i hi;rw[← e i ((hn t ht).2 i hi)];exact k i hi
 refine⟨h.b,h.k,h.hs,h.kept,fun t hm hth=> ?_,fun t u h1 h2 hd c1 c2=>h.ne t u h1 h2 hd ((ht t h1).1 c1) ((ht u h2).1 c2)⟩
 rw[← e t.st (hn t hm).1]
 exact h.at' t hm ((ht t hm).1 hth)
theorem MM.gr (h:MM B w0 wk bx tg f a w) {w':World} (hb:Below w.heap.size w w') (i:Nat) (o:Option Nat) (v:Value)
  (hc:∀ t,t∈tg→o≠some t.d∧t.ia≠some i∧t.st≠i):MM B w0 wk bx tg (upd f i) (a.put o v) w':=by
 have hg:=grown_of_below hb none
 refine⟨h.b.trans (hb.mono h.hs),h.k.trans (keep_grown hg),Nat.le_trans h.hs hb.size,fun x hx=>(h.kept x hx).still hg,fun t hm hth=> ?_,fun t u h1 h2 hd c1 c2=> ?_⟩
 ·obtain⟨c1,c2,c3⟩:=hc t hm
  obtain⟨g,cs,k1,k2,k3,k4,k5⟩:=h.at' t hm ((there_upd c2).1 hth)
  refine⟨g,cs,by rw[put_other v c1];exact k1,k2,k3.still hg,?_,k5⟩
  have e:upd f i t.st=f t.st:=by unfold upd;rw[if_neg c3]
  rw[e]
  exact t.kk _ _ _ _ (keep_grown hg) k4
 ·obtain⟨d1,d2,d3⟩:=hc t h1
  obtain⟨e1,e2,e3⟩:=hc u h2
  rw[put_other v d1,put_other v e1]
  exact h.ne t u h1 h2 hd ((there_upd d2).1 c1) ((there_upd e2).1 c2)
theorem MM.same (h:MM B w0 wk bx tg f a w) (i:Nat) (o:Option Nat) (v:Value)
  (hc:∀ t,t∈tg→o≠some t.d∧t.ia≠some i∧t.st≠i):MM B w0 wk bx tg (upd f i) (a.put o v) w:=
 h.gr (Below.refl _ _) i o v hc
theorem MM.new (h:MM B w0 wk bx tg f a w) {t0:Tg} {cs:List Value} (i:Nat) (hm0:t0∈tg) (hi:t0.ia=some i) (hsz:t0.d<a.tmps.size) (hst:f t0.st=false) (hne:t0.st≠i)
  (hc:∀ t,t∈tg→t=t0∨(t0.d≠t.d∧t.ia≠some i∧t.st≠i)) (hk0:t0.K false (w.alloc (.cells cs.toArray t0.T)) cs) :
  MM B w0 wk bx tg (upd f i) (a.put (some t0.d) (.pointer (some ⟨w.heap.size,0,none⟩))) (w.alloc (.cells cs.toArray t0.T)):=by
 have hb:Below w.heap.size w (w.alloc (.cells cs.toArray t0.T)):=(Below.refl _ _).alloc (Nat.le_refl _) _
 have hg:=grown_of_below hb none
 have old:∀ t,t∈tg→t≠t0→t.there (upd f i)→∃ g cs',(a.put (some t0.d) (.pointer (some ⟨w.heap.size,0,none⟩))).tmps.getD t.d undef= .pointer (some ⟨g,0,none⟩)∧g<w.heap.size∧B≤g∧BlkC t.T (w.alloc (.cells cs.toArray t0.T)) g cs'∧t.K (upd f i t.st) (w.alloc (.cells cs.toArray t0.T)) cs'∧∀ x:TypeId × Nat × List Value,x∈bx→x.2.1≠g:=fun t hm hne' hth=>by
  obtain⟨c1,c2,c3⟩:=(hc t hm).resolve_left hne'
  obtain⟨g,cs',k1,k2,k3,k4,k5⟩:=h.at' t hm ((there_upd c2).1 hth)
  refine⟨g,cs',by rw[put_other _ (by simpa using c1)];exact k1,k3.lt,k2,k3.still hg,?_,k5⟩
  have e:upd f i t.st=f t.st:=by unfold upd;rw[if_neg c3]
  rw[e]
  exact t.kk _ _ _ _ (keep_grown hg) k4
 refine⟨h.b.trans (hb.mono h.hs),h.k.trans (keep_grown hg),Nat.le_trans h.hs hb.size,fun x hx=>(h.kept x hx).still hg,fun t hm hth=> ?_,fun t u h1 h2 hd c1 c2=> ?_⟩
 ·rcases Classical.em (t=t0) with rfl | hn
  ·refine⟨w.heap.size,cs,put_same _ hsz,h.hs,BlkC.new _ _ _,?_,fun x hx=>Nat.ne_of_lt (h.kept x hx).lt⟩
   have e:upd f i t.st=false:=by unfold upd;rw[if_neg hne];exact hst
   rw[e]
   exact hk0
  ·obtain⟨g,cs',k1,_,k2,k3,k4,k5⟩:=old t hm hn hth
   exact⟨g,cs',k1,k2,k3,k4,k5⟩
 ·rcases Classical.em (t=t0) with e1 | n1<;>rcases Classical.em (u=t0) with e2 | n2
  ·exact absurd (e1.trans e2.symm ▸ rfl) hd
  ·subst e1
   obtain⟨g,cs',k1,k2,_⟩:=old u h2 n2 c2
   rw[put_same _ hsz,k1]
   intro e
   injection e with e
   injection e with e
   injection e with e
   omega
  ·subst e2
   obtain⟨g,cs',k1,k2,_⟩:=old t h1 n1 c1
   rw[put_same _ hsz,k1]
   intro e
   injection e with e
   injection e with e
   injection e with e
   omega
  ·obtain⟨d1,d2,d3⟩:=(hc t h1).resolve_left n1
   obtain⟨e1,e2,e3⟩:=(hc u h2).resolve_left n2
   rw[put_other _ (by simpa using d1),put_other _ (by simpa using e1)]
   exact h.ne t u h1 h2 hd ((there_upd d2).1 c1) ((there_upd e2).1 c2)
theorem MM.ahead (h:MM B w0 wk bx tg f a w) {t0:Tg} (hm0:t0∈tg) (hth:t0.there f) (hf:f t0.st=false):∃ g cs,a.tmps.getD t0.d undef= .pointer (some ⟨g,0,none⟩)∧BlkC t0.T w g cs∧t0.K false w cs:=by
 obtain⟨g,cs,k1,k2,k3,k4,k5⟩:=h.at' t0 hm0 hth
 rw[hf] at k4
 exact⟨g,cs,k1,k3,k4⟩
theorem MM.put (h:MM B w0 wk bx tg f a w) {t0:Tg} {w':World} {g:Nat} {cs:List Value} (i:Nat) (v:Value) (hm0:t0∈tg) (hth:t0.there f) (hi:t0.st=i) (hp:a.tmps.getD t0.d undef= .pointer (some ⟨g,0,none⟩))
  (hgr:w.grownBy w' (some g)) (hk:Keep w w') (hB:BlkC t0.T w' g cs) (hK1:t0.K true w' cs)
  (hc:∀ t,t∈tg→t=t0∨(t.d≠t0.d∧t.st≠i)) (hia:∀ t,t∈tg→t.ia≠some i):MM B w0 wk bx tg (upd f i) (a.put none v) w':=by
 obtain⟨g0,cs0,k1,k2,k3,k4,k5⟩:=h.at' t0 hm0 hth
 have eg:g0=g:=by
  rw[hp] at k1
  injection k1 with e
  injection e with e
  injection e with e
  exact e.symm
 subst eg
 refine⟨h.b.grown hgr h.hs (fun q hq=>by cases hq;exact k2),h.k.trans hk,Nat.le_trans h.hs hgr.size,fun x hx=>(h.kept x hx).grown hgr (fun e=>k5 x hx (Option.some.inj e)),fun t hm ht=> ?_,fun t u h1 h2 hd c1 c2=>h.ne t u h1 h2 hd ((there_upd (hia t h1)).1 c1) ((there_upd (hia u h2)).1 c2)⟩
 rcases Classical.em (t=t0) with rfl | hn
 ·refine⟨g0,cs,hp,k2,hB,?_,k5⟩
  have e:upd f i t.st=true:=by unfold upd;rw[if_pos hi]
  rw[e]
  exact hK1
 ·obtain⟨c1,c2⟩:=(hc t hm).resolve_left hn
  have ht':=(there_upd (hia t hm)).1 ht
  obtain⟨g1,cs1,j1,j2,j3,j4,j5⟩:=h.at' t hm ht'
  have hne:=h.ne t t0 hm hm0 c1 ht' hth
  rw[j1,hp] at hne
  refine⟨g1,cs1,j1,j2,j3.grown hgr (fun e=>hne (by cases e;rfl)),?_,j5⟩
  have e:upd f i t.st=f t.st:=by unfold upd;rw[if_neg c2]
  rw[e]
  exact t.kk _ _ _ _ hk j4
end
theorem par_skip {P:Program} {o:Oper} {a:Act} {w w':World} {K:Value→World→Prop} (h:(execOp a.eval o).run P w= .ok .skip w') (k:K undef w'):ParOK P o a w K:=by
 intro Q
 unfold Oper.wp
 rw[h,Oper.upon_skip]
 exact⟨undef,rfl,k⟩
section
variable {T:TypeId} {w:World} {g:Nat} {x y z t c0 c1 c2 c3:Value}
theorem set1_all (h:BlkC T w g [x]) (hT:T≠127) (c0:Value):w.grownBy (w.setCell ⟨g,0,none⟩ c0) (some g)∧Keep w (w.setCell ⟨g,0,none⟩ c0)∧BlkC T (w.setCell ⟨g,0,none⟩ c0) g [c0]:=
 ⟨grown_setCell _ _ _,keep_set h hT _,h.set 0 c0⟩
theorem set2_all (h:BlkC T w g [x,y]) (hT:T≠127) (c0 c1:Value):w.grownBy ((w.setCell ⟨g,0,none⟩ c0).setCell ⟨g,1,none⟩ c1) (some g)∧Keep w ((w.setCell ⟨g,0,none⟩ c0).setCell ⟨g,1,none⟩ c1)∧BlkC T ((w.setCell ⟨g,0,none⟩ c0).setCell ⟨g,1,none⟩ c1) g [c0,c1]:=by
 have h1:=h.set 0 c0
 exact⟨grown_trans (grown_setCell _ _ _) (grown_setCell _ _ _),(keep_set h hT _).trans (keep_set h1 hT _),h1.set 1 c1⟩
theorem set4_all (h:BlkC T w g [x,y,z,t]) (hT:T≠127) (c0 c1 c2 c3:Value):w.grownBy ((((w.setCell ⟨g,0,none⟩ c0).setCell ⟨g,1,none⟩ c1).setCell ⟨g,2,none⟩ c2).setCell ⟨g,3,none⟩ c3) (some g)∧Keep w ((((w.setCell ⟨g,0,none⟩ c0).setCell ⟨g,1,none⟩ c1).setCell ⟨g,2,none⟩ c2).setCell ⟨g,3,none⟩ c3)∧BlkC T ((((w.setCell ⟨g,0,none⟩ c0).setCell ⟨g,1,none⟩ c1).setCell ⟨g,2,none⟩ c2).setCell ⟨g,3,none⟩ c3) g [c0,c1,c2,c3]:=by
 have h1:=h.set 0 c0
 have h2:=h1.set 1 c1
 have h3:=h2.set 2 c2
 exact⟨grown_trans (grown_trans (grown_setCell _ _ _) (grown_setCell _ _ _)) (grown_trans (grown_setCell _ _ _) (grown_setCell _ _ _)),((keep_set h hT _).trans (keep_set h1 hT _)).trans ((keep_set h2 hT _).trans (keep_set h3 hT _)),h3.set 3 c3⟩
theorem keep_alloc (w:World) (o:Obj):Keep w (w.alloc o):=keep_grown (grown_alloc _ _ none)
end
def KZ (old:Option Int) (q:Int):Bool→World→List Value→Prop
 |false,w,cs=>(∃ x y,cs=[x,y])∧∀ p,old=some p→ZC w cs p
 |true,w,cs=>ZC w cs q
def KN (q:Nat):Bool→World→List Value→Prop
 |false,_,cs=>∃ x,cs=[x]
 |true,w,cs=>NatIs w (.agg cs.toArray) q
def KR (q:Rat):Bool→World→List Value→Prop
 |false,_,cs=>∃ x y z t,cs=[x,y,z,t]
 |true,w,cs=>RC w cs q
abbrev tgZ (d:Nat) (ia:Option Nat) (st:Nat) (old:Option Int) (q:Int):Tg:=⟨d,ia,st,35,KZ old q,fun c _ _ _ k h=>by
 cases c with
 |false=>exact⟨h.1,fun p e=>(h.2 p e).keep k⟩
 |true=>exact ZC.keep h k⟩
abbrev tgN (d:Nat) (ia:Option Nat) (st:Nat) (q:Nat):Tg:=⟨d,ia,st,33,KN q,fun c _ _ _ k h=>by
 cases c with
 |false=>exact h
 |true=>exact NatIs.keep h k⟩
abbrev tgR (d:Nat) (ia:Option Nat) (st:Nat) (q:Rat):Tg:=⟨d,ia,st,37,KR q,fun c _ _ _ k h=>by
 cases c with
 |false=>exact h
 |true=>exact RC.keep h k⟩
theorem zc_of {w:World} {c0 c1:Value} {q:Int} (h:ZIs w (.agg #[c0,c1]) q):ZC w [c0,c1] q:=by
 obtain⟨cs,e,h⟩:=h
 simp only[Value.agg.injEq] at e
 have f:=congrArg Array.toList e
 simp only at f
 rw[f]
 exact h
theorem rc_of {w:World} {c0 c1 c2 c3:Value} {q:Rat} (h:RIs w (.agg #[c0,c1,c2,c3]) q):RC w [c0,c1,c2,c3] q:=by
 obtain⟨cs,e,h⟩:=h
 simp only[Value.agg.injEq] at e
 have f:=congrArg Array.toList e
 simp only at f
 rw[f]
 exact h
theorem zc_parts {w:World} {cs:List Value} {q:Int} (h:ZC w cs q):∃ (a:Option Addr) (n:Nat) (b:Bool),cs=[.slice a n n,.bool b]:=by
 obtain⟨a,rfl,_⟩:=h
 exact⟨a,_,_,rfl⟩
theorem rc_parts {w:World} {cs:List Value} {q:Rat} (h:RC w cs q):∃ (a:Option Addr) (n:Nat) (b:Bool) (c:Option Addr) (m:Nat) (d:Bool),cs=[.slice a n n,.bool b,.slice c m m,.bool d]:=by
 obtain⟨c1,c2,D,rfl,⟨a,rfl,_⟩,⟨c,rfl,_⟩,_⟩:=h
 exact⟨a,_,_,c,_,_,rfl⟩
theorem nat_cs {w:World} {cs:List Value} {q:Nat} (h:NatIs w (.agg cs.toArray) q):∃ (a:Option Addr) (n:Nat),cs=[.slice a n n]:=by
 obtain⟨a,e,_⟩:=h
 simp only[Value.agg.injEq] at e
 have f:=congrArg Array.toList e
 simp only at f
 exact⟨a,_,f⟩
def T3 (q:Int) (w:World) (v:Value):Prop:=∃ a b c,v= .tuple #[a,b,c]∧ZIs w a q
theorem T3.keep {q:Int} (w w':World) (v:Value) (k:Keep w w'):T3 q w v→T3 q w' v:=by
 rintro⟨a,b,c,rfl,h⟩
 exact⟨a,b,c,rfl,h.keep k⟩
theorem nat_parts {w:World} {v:Value} {q:Nat} (h:NatIs w v q):∃ (a:Option Addr) (n:Nat),v= .agg #[.slice a n n]:=by
 obtain⟨a,rfl,_⟩:=h
 exact⟨a,_,rfl⟩
end Go.Proofs.YtmagoiniahpofaaGreat
namespace Go.Proofs.YtmagoiniahpofaaGreat
open Go Go.RowKit
theorem sgnZ_zero (b:Bool):sgnZ 0 b=0:=by cases b<;>rfl
theorem sgn_div {x:Int} {b:Bool} {g:Nat} (hb:decide (x<0)=b) (hg:0<g) (h:(g:Int) ∣ x):sgnZ (x.natAbs/g) b=x/(g:Int):=by
 obtain⟨q,rfl⟩:=h
 have e:((g:Int)*q).natAbs/g=q.natAbs:=by rw[Int.natAbs_mul,Int.natAbs_natCast,Nat.mul_div_cancel_left _ hg]
 rw[e,Int.mul_ediv_cancel_left _ (by omega)]
 subst hb
 unfold sgnZ
 by_cases hq:q<0
 ·rw[decide_eq_true (Int.mul_neg_of_pos_of_neg (by omega) hq)];simp;omega
 ·rw[decide_eq_false (by have:=Int.mul_nonneg (show (0:Int)≤g by omega) (show 0≤q by omega);omega)];simp;omega
theorem div_len {x g:Nat} : (limbs (x/g)).length≤(limbs x).length:=limbs_mono (Nat.div_le_self _ _)
section
variable (w:World) (a:Option Addr) (n:Nat) (b:Bool) (c:Option Addr) (m:Nat) (d:Bool)
abbrev flW:World:=(((w.alloc (.cells #[.slice a n n,.bool b] 35)).alloc (.cells #[.slice c m m,.bool d] 35)).alloc (.cells #[.slice none 0 0,.bool false] 35)).alloc (.cells #[.slice none 0 0,.bool false] 35)
theorem flW_1:BlkC 35 (flW w a n b c m d) w.heap.size [.slice a n n,.bool b]:=(((BlkC.new _ w [.slice a n n,.bool b]).still (grown_alloc _ _ none)).still (grown_alloc _ _ none)).still (grown_alloc _ _ none)
theorem flW_2:BlkC 35 (flW w a n b c m d) (w.heap.size+1) [.slice c m m,.bool d]:=((blk_at (cs:=[.slice c m m,.bool d]) (by simp)).still (grown_alloc _ _ none)).still (grown_alloc _ _ none)
theorem flW_3:BlkC 35 (flW w a n b c m d) (w.heap.size+1+1) [.slice none 0 0,.bool false]:=(blk_at (cs:=[.slice none 0 0,.bool false]) (by simp)).still (grown_alloc _ _ none)
theorem flW_4:BlkC 35 (flW w a n b c m d) (w.heap.size+1+1+1) [.slice none 0 0,.bool false]:=blk_at (cs:=[.slice none 0 0,.bool false]) (by simp)
theorem flW_g:Own w.heap.size w (flW w a n b c m d):=((((own_alloc _ _).alloc (by simp) _).alloc (by simp;omega) _).alloc (by simp;omega) _)
end
set_option maxHeartbeats 8000000 in
set_option maxRecDepth 100000 in
theorem floor_exact (x:Int) (g:Nat) (v u:Value) (w:World) (hv:ZIs w v x) (hu:ZIs w u (g:Int)) (hg0:0<g) (hdv:(g:Int) ∣ x) (hx:(limbs x.natAbs).length≤800000) :
  Calls Tryz.prog 84 #[v,u] w fun e w'=>∃ r,e= .returned r∧T3 (x/(g:Int)) w' r∧Below w.heap.size w w':=by
 obtain⟨a,n,b,rfl⟩:=hv.parts
 obtain⟨c,m,d,rfl⟩:=hu.parts
 obtain⟨hNx,hbx⟩:=z_nat hv
 obtain⟨hNg,hbg⟩:=z_nat hu
 have hd:d=false:=by rw[← hbg];exact decide_eq_false (by omega)
 subst hd
 have HB1:=Lib.hid (flW_1 w a n b c m false)
 have HB2:=Lib.hid (flW_2 w a n b c m false)
 have HB3:=Lib.hid (flW_3 w a n b c m false)
 have HB4:=Lib.hid (flW_4 w a n b c m false)
 have HG:=Lib.hid (flW_g w a n b c m false)
 have HNX:=Lib.hid (Gr.natIs HG.out hNx)
 have HNG:=Lib.hid (Gr.natIs HG.out hNg)
 have HXL:=Lib.hid hx
 have HSG:=Lib.hid (sgn_div hbx hg0 hdv)
 have HQL:Hid ((limbs (x.natAbs/g)).length≤1000000):=Nat.le_trans div_len (by omega)
 have HMD:Hid (x.natAbs%g=0):=by
  show _=_
  obtain⟨q,rfl⟩:=hdv
  rw[Int.natAbs_mul,Int.natAbs_natCast,Nat.mul_mod_right]
 have HG0:=Lib.hid hg0
 obtain⟨x0,x1,x2,x3,x4⟩:=blk2 HB1.out
 obtain⟨y0,y1,y2,y3,y4⟩:=blk2 HB2.out
 clear hv hu hNx hNg hbx hbg hx hdv hg0
 go_enter Tryz.func84,Tryz.ntmps84
 go_wp2_with fail
 refine (natDiv_any x.natAbs (g:Int).natAbs _ _ _ HNX.out HNG.out HXL.out).mono ?_
 rintro e w1 ⟨hdr,hb1⟩
 rw[Int.natAbs_natCast] at hdr
 rcases hdr with ⟨h0,_⟩ | ⟨_,q,r,rfl,hq,hr⟩
 ·exact absurd h0 (by have:=HG0.out;omega)
 obtain⟨qa,qn,rfl⟩:=nat_parts hq
 obtain⟨ra,rn,rfl⟩:=nat_parts hr
 rw[HMD.out] at hr
 have HQ:=Lib.hid hq
 have HR:=Lib.hid hr
 have hs1:=hb1.size
 simp at hs1
 have gr1:=grown_of_below hb1 none
 have HE1:=Lib.hid (HB1.out.still gr1)
 have HE2:=Lib.hid (HB2.out.still gr1)
 have HE3:=Lib.hid (HB3.out.still gr1)
 have HE4:=Lib.hid (HB4.out.still gr1)
 have HBB:Hid (Below w.heap.size w w1):=HG.out.b.trans (hb1.mono HG.out.size)
 clear x0 x1 x2 x3 x4 y0 y1 y2 y3 y4 HB1 HB2 HB3 HB4 HNX HNG hq hr hb1 gr1 HG
 obtain⟨wf,hwf⟩:∃ wf,wf=(w1.alloc (.cells #[.slice qa qn qn] 33)).alloc (.cells #[.slice ra rn rn] 33):=⟨_,rfl⟩
 have gf0:w1.grownBy wf none:=by rw[hwf];exact grown_trans (grown_alloc _ _ none) (grown_alloc _ _ none)
 have gf1:w1.grownBy wf.drew none:=⟨gf0.os,gf0.tape,gf0.output,gf0.size,gf0.block⟩
 have HC1:Hid (BlkC 35 wf.drew w.heap.size [.slice a n n,.bool b]):=HE1.out.still gf1
 have HC2:Hid (BlkC 35 wf.drew (w.heap.size+1) [.slice c m m,.bool false]):=HE2.out.still gf1
 have HC3:Hid (BlkC 35 wf.drew (w.heap.size+1+1) [.slice none 0 0,.bool false]):=HE3.out.still gf1
 have HC4:Hid (BlkC 35 wf.drew (w.heap.size+1+1+1) [.slice none 0 0,.bool false]):=HE4.out.still gf1
 have HC5:Hid (BlkC 33 wf.drew w1.heap.size [.slice qa qn qn]):=by show BlkC _ _ _ _;rw[hwf];exact ((BlkC.new _ w1 [.slice qa qn qn]).still (grown_alloc _ _ none):BlkC _ ((w1.alloc (.cells #[.slice qa qn qn] 33)).alloc (.cells #[.slice ra rn rn] 33)) _ _)
 have HC6:Hid (BlkC 33 wf.drew (w1.heap.size+1) [.slice ra rn rn]):=by show BlkC _ _ _ _;rw[hwf];exact (blk_at (T:=33) (g:=w1.heap.size+1) (cs:=[.slice ra rn rn]) (by simp):BlkC _ ((w1.alloc (.cells #[.slice qa qn qn] 33)).alloc (.cells #[.slice ra rn rn] 33)) _ _)
 have HK4:Hid (Keep w1 wf.drew):=by show Keep _ _;exact keep_grown gf1
 have HBL:Hid (Below w.heap.size w wf.drew):=by show Below _ _ _;exact HBB.out.grown gf1 (by omega) (by simp)
 clear gf0 gf1 HE1 HE2 HE3 HE4 HBB
 subst hwf
 go_wp2_with fail
 refine region_mem (s:=fun | 0=> .n (x.natAbs/g) | 1=> .is (.pointer (some ⟨w.heap.size,1,none⟩)) | 2=> .is (.bool b) | 3=> .is (.pointer (some ⟨w.heap.size+1,1,none⟩)) | 4=> .is (.bool false) | 5=> .is (.bool b) | 6=> .z (x/(g:Int)) | 7=> .n (0) | 8=> .is (.pointer (some ⟨w.heap.size,1,none⟩)) | 9=> .is (.bool b) | 10=> .z (0) | 11=> .any | 12=> .any | 13=> .any | 14=> .any | _=> .any) (J:=MM w.heap.size w w1 [(35,w.heap.size,[.slice a n n,.bool b]),(35,(w.heap.size+1),[.slice c m m,.bool false]),(35,(w.heap.size+1+1),[.slice none 0 0,.bool false]),(35,(w.heap.size+1+1+1),[.slice none 0 0,.bool false]),(33,w1.heap.size,[.slice qa qn qn]),(33,(w1.heap.size+1),[.slice ra rn rn])] [tgZ 10 (some 11) 13 none (x/(g:Int)),tgZ 11 (some 12) 14 none 0]) (by kernel_rfl) (by kernel_rfl) rfl (fun f g a w hn h=>MM.ext (n:=15) (by simp) hn h) ?_ ?_ ?_
 ·exact⟨HBL.out,HK4.out,by have:=HBL.out.size;omega,(by intro q hq;simp only[List.mem_cons,List.not_mem_nil,or_false] at hq;rcases hq with rfl | rfl | rfl | rfl | rfl | rfl;exact HC1.out;exact HC2.out;exact HC3.out;exact HC4.out;exact HC5.out;exact HC6.out),(by intro t ht h;simp only[List.mem_cons,List.not_mem_nil,or_false] at ht;rcases ht with rfl | rfl<;>exact absurd (h _ rfl) (by simp)),(by intro t u h1 h2 hd c1 c2;simp only[List.mem_cons,List.not_mem_nil,or_false] at h1;rcases h1 with rfl | rfl<;>exact absurd (c1 _ rfl) (by simp))⟩
 ·intro i o f A W hi hJ hf hdep hdn hcl hfr hsz
  rcases i with _ | _ | _ | _ | _ | _ | _ | _ | _ | _ | _ | _ | _ | _ | _ | i
  all_goals (simp at hi)
  all_goals (try subst hi)
  ·have t7:=hfr 7 (by simp)
   have hb4:BlkC 33 W w1.heap.size [.slice qa qn qn]:=hJ.kept (33,w1.heap.size,[.slice qa qn qn]) (by simp)
   have x40:W.cell? ⟨w1.heap.size,0,none⟩=some (.slice qa qn qn):=by rw[hb4.cell 0];rfl
   refine par_value (v:= .agg #[.slice qa qn qn]) (w':=W) ?_ ⟨Keep.refl _,hJ.same _ _ _ (by simp),HQ.out.keep hJ.k⟩
   simp[go_sem,Act.eval,t7,x40]
  ·have t2:=hfr 2 (by simp)
   refine par_value (v:= .pointer (some ⟨w.heap.size,1,none⟩)) (w':=W) ?_ ⟨Keep.refl _,hJ.same _ _ _ (by simp),rfl⟩
   simp[go_sem,Act.eval,t2]
  ·have t27:A.tmps.getD 27 undef= .pointer (some ⟨w.heap.size,1,none⟩):=hdep 1 _ 27 rfl (by kernel_rfl) rfl
   have hb0:BlkC 35 W w.heap.size [.slice a n n,.bool b]:=hJ.kept (35,w.heap.size,[.slice a n n,.bool b]) (by simp)
   have x00:W.cell? ⟨w.heap.size,0,none⟩=some (.slice a n n):=by rw[hb0.cell 0];rfl
   have x01:W.cell? ⟨w.heap.size,1,none⟩=some (.bool b):=by rw[hb0.cell 1];rfl
   refine par_value (v:=(.bool b)) (w':=W) ?_ ⟨Keep.refl _,hJ.same _ _ _ (by simp),rfl⟩
   simp[go_sem,Act.eval,t27,x01]
  ·have t3:=hfr 3 (by simp)
   refine par_value (v:= .pointer (some ⟨w.heap.size+1,1,none⟩)) (w':=W) ?_ ⟨Keep.refl _,hJ.same _ _ _ (by simp),rfl⟩
   simp[go_sem,Act.eval,t3]
  ·have t29:A.tmps.getD 29 undef= .pointer (some ⟨w.heap.size+1,1,none⟩):=hdep 3 _ 29 rfl (by kernel_rfl) rfl
   have hb1:BlkC 35 W (w.heap.size+1) [.slice c m m,.bool false]:=hJ.kept (35,(w.heap.size+1),[.slice c m m,.bool false]) (by simp)
   have x10:W.cell? ⟨(w.heap.size+1),0,none⟩=some (.slice c m m):=by rw[hb1.cell 0];rfl
   have x11:W.cell? ⟨(w.heap.size+1),1,none⟩=some (.bool false):=by rw[hb1.cell 1];rfl
   refine par_value (v:=(.bool false)) (w':=W) ?_ ⟨Keep.refl _,hJ.same _ _ _ (by simp),rfl⟩
   simp[go_sem,Act.eval,t29,x11]
  ·have t28:A.tmps.getD 28 undef= .bool b:=hdep 2 _ 28 rfl (by kernel_rfl) rfl
   have t30:A.tmps.getD 30 undef= .bool false:=hdep 4 _ 30 rfl (by kernel_rfl) rfl
   refine par_value (v:= .bool b) (w':=W) ?_ ⟨Keep.refl _,hJ.same _ _ _ (by simp),rfl⟩
   simp[go_sem,Act.eval,t28,t30]
  ·have t26:NatIs W (A.tmps.getD 26 undef) (x.natAbs/g):=hdep 0 _ 26 rfl (by kernel_rfl) rfl
   have t31:A.tmps.getD 31 undef= .bool b:=hdep 5 _ 31 rfl (by kernel_rfl) rfl
   refine par_call (w':=W) (f:=52) (xs:= #[A.tmps.getD 26 undef,.bool b]) (by simp[go_sem,Act.eval,t31]) ?_
   refine (made_any (x.natAbs/g) b _ _ t26 HQL.out).mono ?_
   rintro e w1' ⟨r,rfl,hr0,hg1⟩
   have hr:ZIs w1' r (x/(g:Int)):=HSG.out ▸ hr0
   exact⟨r,rfl,Gr.keep hg1,hJ.gr hg1.b _ _ _ (by simp),hr⟩
  ·have t8:=hfr 8 (by simp)
   have hb5:BlkC 33 W (w1.heap.size+1) [.slice ra rn rn]:=hJ.kept (33,(w1.heap.size+1),[.slice ra rn rn]) (by simp)
   have x50:W.cell? ⟨(w1.heap.size+1),0,none⟩=some (.slice ra rn rn):=by rw[hb5.cell 0];rfl
   refine par_value (v:= .agg #[.slice ra rn rn]) (w':=W) ?_ ⟨Keep.refl _,hJ.same _ _ _ (by simp),HR.out.keep hJ.k⟩
   simp[go_sem,Act.eval,t8,x50]
  ·have t2:=hfr 2 (by simp)
   refine par_value (v:= .pointer (some ⟨w.heap.size,1,none⟩)) (w':=W) ?_ ⟨Keep.refl _,hJ.same _ _ _ (by simp),rfl⟩
   simp[go_sem,Act.eval,t2]
  ·have t34:A.tmps.getD 34 undef= .pointer (some ⟨w.heap.size,1,none⟩):=hdep 8 _ 34 rfl (by kernel_rfl) rfl
   have hb0:BlkC 35 W w.heap.size [.slice a n n,.bool b]:=hJ.kept (35,w.heap.size,[.slice a n n,.bool b]) (by simp)
   have x00:W.cell? ⟨w.heap.size,0,none⟩=some (.slice a n n):=by rw[hb0.cell 0];rfl
   have x01:W.cell? ⟨w.heap.size,1,none⟩=some (.bool b):=by rw[hb0.cell 1];rfl
   refine par_value (v:=(.bool b)) (w':=W) ?_ ⟨Keep.refl _,hJ.same _ _ _ (by simp),rfl⟩
   simp[go_sem,Act.eval,t34,x01]
  ·have t33:NatIs W (A.tmps.getD 33 undef) (0):=hdep 7 _ 33 rfl (by kernel_rfl) rfl
   have t35:A.tmps.getD 35 undef= .bool b:=hdep 9 _ 35 rfl (by kernel_rfl) rfl
   refine par_call (w':=W) (f:=52) (xs:= #[A.tmps.getD 33 undef,.bool b]) (by simp[go_sem,Act.eval,t35]) ?_
   refine (made_any 0 b _ _ t33 (by rw[limbs_zero];simp)).mono ?_
   rintro e w1' ⟨r,rfl,hr0,hg1⟩
   have hr:ZIs w1' r 0:=by have h:=hr0;rwa [sgnZ_zero] at h
   exact⟨r,rfl,Gr.keep hg1,hJ.gr hg1.b _ _ _ (by simp),hr⟩
  ·have hst:f 13=false:=by
    cases h:f 13 with
    |false=>rfl
    |true=>rw[hcl 13 _ 11 rfl h (by kernel_rfl)] at hf;cases hf
   refine par_value (v:= .pointer (some ⟨W.heap.size,0,none⟩)) (w':=W.alloc (.cells #[.slice none 0 0,.bool false] 35)) ?_ ⟨keep_alloc _ _,hJ.new (t0:=tgZ 10 (some 11) 13 none (x/(g:Int))) (cs:=[.slice none 0 0,.bool false]) 11 (by simp) rfl (by rw[hsz];simp) hst (by simp) (by simp) ⟨⟨_,_,rfl⟩,fun p hp=>by cases hp⟩,trivial⟩
   simp[go_sem]
  ·have hst:f 14=false:=by
    cases h:f 14 with
    |false=>rfl
    |true=>rw[hcl 14 _ 12 rfl h (by kernel_rfl)] at hf;cases hf
   refine par_value (v:= .pointer (some ⟨W.heap.size,0,none⟩)) (w':=W.alloc (.cells #[.slice none 0 0,.bool false] 35)) ?_ ⟨keep_alloc _ _,hJ.new (t0:=tgZ 11 (some 12) 14 none 0) (cs:=[.slice none 0 0,.bool false]) 12 (by simp) rfl (by rw[hsz];simp) hst (by simp) (by simp) ⟨⟨_,_,rfl⟩,fun p hp=>by cases hp⟩,trivial⟩
   simp[go_sem]
  ·have t32:ZIs W (A.tmps.getD 32 undef) (x/(g:Int)):=hdep 6 _ 32 rfl (by kernel_rfl) rfl
   obtain⟨g9,cs9,hp9,hb9,hk9⟩:=hJ.ahead (t0:=tgZ 10 (some 11) 13 none (x/(g:Int))) (by simp) (fun j hj=>by cases hj;exact hdn 11 (by kernel_rfl)) hf
   obtain⟨⟨y0,y1,rfl⟩,_⟩:=hk9
   obtain⟨a8,n8,b8,e8⟩:=t32.parts
   have hv8:=t32
   rw[e8] at hv8
   obtain⟨c0,c1,f0,f1,l0⟩:=blk2 hb9
   obtain⟨k1,k2,k3⟩:=set2_all (T:=35) hb9 (by decide) (.slice a8 n8 n8) (.bool b8)
   refine par_skip ?_ ⟨k2,hJ.put 13 undef (by simp) (fun j hj=>by cases hj;exact hdn 11 (by kernel_rfl)) rfl hp9 k1 k2 k3 (zc_of (hv8.keep k2)) (by simp) (by simp),trivial⟩
   simp[go_sem,Act.eval,hp9,e8,c0,c1,f0,f1]
  ·have t36:ZIs W (A.tmps.getD 36 undef) (0):=hdep 10 _ 36 rfl (by kernel_rfl) rfl
   obtain⟨g9,cs9,hp9,hb9,hk9⟩:=hJ.ahead (t0:=tgZ 11 (some 12) 14 none 0) (by simp) (fun j hj=>by cases hj;exact hdn 12 (by kernel_rfl)) hf
   obtain⟨⟨y0,y1,rfl⟩,_⟩:=hk9
   obtain⟨a8,n8,b8,e8⟩:=t36.parts
   have hv8:=t36
   rw[e8] at hv8
   obtain⟨c0,c1,f0,f1,l0⟩:=blk2 hb9
   obtain⟨k1,k2,k3⟩:=set2_all (T:=35) hb9 (by decide) (.slice a8 n8 n8) (.bool b8)
   refine par_skip ?_ ⟨k2,hJ.put 14 undef (by simp) (fun j hj=>by cases hj;exact hdn 12 (by kernel_rfl)) rfl hp9 k1 k2 k3 (zc_of (hv8.keep k2)) (by simp) (by simp),trivial⟩
   simp[go_sem,Act.eval,hp9,e8,c0,c1,f0,f1]
 ·intro vs W hJ hs
  obtain⟨g10,cs10,p10,_,b10,k10,n10⟩:=hJ.at' (tgZ 10 (some 11) 13 none (x/(g:Int))) (by simp) (fun j hj=>rfl)
  obtain⟨g11,cs11,p11,_,b11,k11,n11⟩:=hJ.at' (tgZ 11 (some 12) 14 none 0) (by simp) (fun j hj=>rfl)
  have hne:=hJ.ne (tgZ 10 (some 11) 13 none (x/(g:Int))) (tgZ 11 (some 12) 14 none 0) (by simp) (by simp) (by simp) (fun j hj=>rfl) (fun j hj=>rfl)
  rw[p10,p11] at hne
  have e10:vs 10= .pointer (some ⟨g10,0,none⟩):=by simpa[putAll,Act.put] using p10
  have e11:vs 11= .pointer (some ⟨g11,0,none⟩):=by simpa[putAll,Act.put] using p11
  have k10':ZC W cs10 (x/(g:Int)):=k10
  have k11':ZC W cs11 0:=k11
  obtain⟨a1,n1,b1,rfl⟩:=zc_parts k10'
  obtain⟨a2,rfl,k11r⟩:=k11'
  have HD3:Hid (BlkC 35 W (w.heap.size+1+1) [.slice none 0 0,.bool false]):=hJ.kept (35,(w.heap.size+1+1),[.slice none 0 0,.bool false]) (by simp)
  have HD4:Hid (BlkC 35 W (w.heap.size+1+1+1) [.slice none 0 0,.bool false]):=hJ.kept (35,(w.heap.size+1+1+1),[.slice none 0 0,.bool false]) (by simp)
  have HD10:Hid (BlkC 35 W g10 [.slice a1 n1 n1,.bool b1]):=b10
  have HD11:Hid (BlkC 35 W g11 _):=b11
  have HZ:Hid (ZIs W (.agg #[.slice a1 n1 n1,.bool b1]) (x/(g:Int))):=⟨_,rfl,k10'⟩
  have HBW:Hid (Below w.heap.size w W):=hJ.b
  obtain⟨c0,c1,f0,f1,l0⟩:=blk2 HD10.out
  obtain⟨d0,d1,h0,h1,l1⟩:=blk2 HD11.out
  obtain⟨i0,i1,j0,j1,l2⟩:=blk2 HD3.out
  obtain⟨m0,m1,o0,o1,l3⟩:=blk2 HD4.out
  have u1:¬ w.heap.size+1+1=g10:=n10 (35,(w.heap.size+1+1),[.slice none 0 0,.bool false]) (by simp)
  have u2:¬ w.heap.size+1+1+1=g10:=n10 (35,(w.heap.size+1+1+1),[.slice none 0 0,.bool false]) (by simp)
  have u3:¬ w.heap.size+1+1=g11:=n11 (35,(w.heap.size+1+1),[.slice none 0 0,.bool false]) (by simp)
  have u4:¬ w.heap.size+1+1+1=g11:=n11 (35,(w.heap.size+1+1+1),[.slice none 0 0,.bool false]) (by simp)
  have v1:=Ne.symm u1
  have v2:=Ne.symm u2
  have v3:=Ne.symm u3
  have v4:=Ne.symm u4
  clear hne n10 p10 p11 k10 k10' k11 k11r n11 b10 b11 hJ hs
  simp only[putAll,List.foldl_cons,List.foldl_nil,Act.put,List.setIfInBounds_toArray,List.set_cons_succ,List.set_cons_zero,e10,e11]
  generalize (limbs (Int.natAbs 0)).length=n2 at *
  rw[show decide ((0:Int)<0)=false from rfl] at *
  go_wp2_with fail
  have mixed:Tryz.prog.follows .mixedOrders=true:=by kernel_rfl
  go_big_region_o
  all_goals go_wp2_with fail
  obtain⟨p1,p2,p3⟩:=set2_all (T:=35) HD3.out (by decide) (.slice a1 n1 n1) (.bool b1)
  have HD5:=HD4.out.grown p1 (by simp)
  obtain⟨r1,r2,r3⟩:=set2_all (T:=35) HD5 (by decide) (.slice a2 n2 n2) (.bool false)
  have q1:=p3.grown r1 (by simp)
  have hsz1:=HBW.out.size
  have hsz2:=p1.size
  exact blk_ret3 (T:=35) (U:=35) rfl (by kernel_rfl) (by kernel_rfl) rfl rfl rfl q1 r3 ⟨_,rfl,⟨_,_,_,rfl,HZ.out.keep (p2.trans r2)⟩,below_same ((HBW.out.grown p1 hsz1 (by intro k e;cases e;omega)).grown r1 (by omega) (by intro k e;cases e;omega)) rfl rfl rfl rfl⟩
end Go.Proofs.YtmagoiniahpofaaGreat
namespace Go.Proofs.YtmagoiniahpofaaGreat
open Go Go.RowKit
theorem quo_len {x:Int} {g:Nat} : (limbs (x/(g:Int)).natAbs).length≤(limbs x.natAbs).length:=by
 refine limbs_mono ?_
 exact Int.natAbs_ediv_le_natAbs x g
theorem ptr_eq {g h:Nat} (e:Value.pointer (some ⟨g,0,none⟩)= .pointer (some ⟨h,0,none⟩)):h=g:=by
 injection e with e
 injection e with e
 injection e with e
 exact e.symm
theorem below_set4 {w0 w:World} {B g:Nat} (h:Below B w0 w) (hg:B≤g) (c0 c1 c2 c3:Value):Below B w0 ((((w.setCell ⟨g,0,none⟩ c0).setCell ⟨g,1,none⟩ c1).setCell ⟨g,2,none⟩ c2).setCell ⟨g,3,none⟩ c3):=
 (((h.setCell hg _).setCell hg _).setCell hg _).setCell hg _
section
variable (w:World) (a:Option Addr) (n:Nat) (b:Bool) (c:Option Addr) (m:Nat) (d:Bool)
abbrev lowW:World:=((w.alloc (.cells #[.slice a n n,.bool b] 35)).alloc (.cells #[.slice c m m,.bool d] 35)).alloc (.cells #[.slice none 0 0,.bool false,.slice none 0 0,.bool false] 37)
theorem lowW_1:BlkC 35 (lowW w a n b c m d) w.heap.size [.slice a n n,.bool b]:=((BlkC.new _ w [.slice a n n,.bool b]).still (grown_alloc _ _ none)).still (grown_alloc _ _ none)
theorem lowW_2:BlkC 35 (lowW w a n b c m d) (w.heap.size+1) [.slice c m m,.bool d]:=(blk_at (cs:=[.slice c m m,.bool d]) (by simp)).still (grown_alloc _ _ none)
theorem lowW_3:BlkC 37 (lowW w a n b c m d) (w.heap.size+1+1) [.slice none 0 0,.bool false,.slice none 0 0,.bool false]:=blk_at (cs:=[.slice none 0 0,.bool false,.slice none 0 0,.bool false]) (by simp)
theorem lowW_g:Below w.heap.size w (lowW w a n b c m d):=((((own_alloc _ _).alloc (by simp) _).alloc (by simp;omega) _)).b
end
set_option maxHeartbeats 8000000 in
set_option maxRecDepth 100000 in
theorem lowest_any (x y:Int) (v u:Value) (w:World) (hv:ZIs w v x) (hu:ZIs w u y) (hx:(limbs x.natAbs).length≤800000) (hy:(limbs y.natAbs).length≤800000) (hd0:y≠0) :
  Calls Tryz.prog 47 #[v,u] w fun e w'=>∃ r,e= .returned r∧RIs w' r (Rat.divInt x y)∧Below w.heap.size w w':=by
 obtain⟨a,n,b,rfl⟩:=hv.parts
 obtain⟨c,m,d,rfl⟩:=hu.parts
 have HB1:Hid (BlkC 35 (lowW w a n b c m d).drew w.heap.size [.slice a n n,.bool b]):=lowW_1 w a n b c m d
 have HB2:Hid (BlkC 35 (lowW w a n b c m d).drew (w.heap.size+1) [.slice c m m,.bool d]):=lowW_2 w a n b c m d
 have HB3:Hid (BlkC 37 (lowW w a n b c m d).drew (w.heap.size+1+1) [.slice none 0 0,.bool false,.slice none 0 0,.bool false]):=lowW_3 w a n b c m d
 have HB:Hid (Below w.heap.size w (lowW w a n b c m d).drew):=below_same (lowW_g w a n b c m d) rfl rfl rfl rfl
 have HX:=Lib.hid hv
 have HY:=Lib.hid hu
 have HXL:=Lib.hid hx
 have HYL:=Lib.hid hy
 have HD0:=Lib.hid hd0
 have HGP:Hid (0<(Nat.gcd x.natAbs y.natAbs)):=Nat.gcd_pos_of_pos_right _ (by omega)
 have HxD:Hid ((((Nat.gcd x.natAbs y.natAbs):Nat):Int) ∣ x):=Int.ofNat_dvd_left.2 (Nat.gcd_dvd_left _ _)
 have HyD:Hid ((((Nat.gcd x.natAbs y.natAbs):Nat):Int) ∣ y):=Int.ofNat_dvd_left.2 (Nat.gcd_dvd_right _ _)
 have HGL:Hid ((limbs (Nat.gcd x.natAbs y.natAbs)).length≤1000000):=Nat.le_trans (limbs_mono (Nat.le_of_dvd (by omega) (Nat.gcd_dvd_right _ _))) (by omega)
 clear hv hu hx hy hd0
 go_enter Tryz.func47,Tryz.ntmps47
 go_wp2_with fail
 refine region_mem (s:=fun | 0=> .z (x) | 1=> .n (x.natAbs) | 2=> .z (y) | 3=> .n (y.natAbs) | 4=> .n ((Nat.gcd x.natAbs y.natAbs)) | 5=> .any | 6=> .any | _=> .any) (J:=MM w.heap.size w w [(35,w.heap.size,[.slice a n n,.bool b]),(35,(w.heap.size+1),[.slice c m m,.bool d]),(37,(w.heap.size+1+1),[.slice none 0 0,.bool false,.slice none 0 0,.bool false])] [tgN 5 (some 5) 6 (Nat.gcd x.natAbs y.natAbs)]) (by kernel_rfl) (by kernel_rfl) rfl (fun f g a w hn h=>MM.ext (n:=7) (by simp) hn h) ?_ ?_ ?_
 ·exact⟨HB.out,keep_below HB.out,by have:=HB.out.size;omega,(by intro q hq;simp only[List.mem_cons,List.not_mem_nil,or_false] at hq;rcases hq with rfl | rfl | rfl;exact HB1.out;exact HB2.out;exact HB3.out),(by intro t ht h;simp only[List.mem_cons,List.not_mem_nil,or_false] at ht;subst ht<;>exact absurd (h _ rfl) (by simp)),(by intro t u h1 h2 hd;simp only[List.mem_singleton] at h1 h2;subst h1;subst h2;exact absurd rfl hd)⟩
 ·intro i o f A W hi hJ hf hdep hdn hcl hfr hsz
  rcases i with _ | _ | _ | _ | _ | _ | _ | i
  all_goals (simp at hi)
  all_goals (try subst hi)
  ·have t2:=hfr 2 (by simp)
   have hb0:BlkC 35 W w.heap.size [.slice a n n,.bool b]:=hJ.kept (35,w.heap.size,[.slice a n n,.bool b]) (by simp)
   have x00:W.cell? ⟨w.heap.size,0,none⟩=some (.slice a n n):=by rw[hb0.cell 0];rfl
   have x01:W.cell? ⟨w.heap.size,1,none⟩=some (.bool b):=by rw[hb0.cell 1];rfl
   refine par_value (v:= .agg #[.slice a n n,.bool b]) (w':=W) ?_ ⟨Keep.refl _,hJ.same _ _ _ (by simp),HX.out.keep hJ.k⟩
   simp[go_sem,Act.eval,t2,x00,x01]
  ·have t7:ZIs W (A.tmps.getD 7 undef) (x):=hdep 0 _ 7 rfl (by kernel_rfl) rfl
   refine par_call (w':=W) (f:=82) (xs:= #[A.tmps.getD 7 undef]) (by simp[go_sem,Act.eval]) ?_
   refine (abs_any x _ _ t7).mono ?_
   rintro e w1 ⟨r,rfl,hr,hg1⟩
   exact⟨r,rfl,Gr.keep hg1,hJ.gr hg1.b _ _ _ (by simp),hr⟩
  ·have t3:=hfr 3 (by simp)
   have hb1:BlkC 35 W (w.heap.size+1) [.slice c m m,.bool d]:=hJ.kept (35,(w.heap.size+1),[.slice c m m,.bool d]) (by simp)
   have x10:W.cell? ⟨(w.heap.size+1),0,none⟩=some (.slice c m m):=by rw[hb1.cell 0];rfl
   have x11:W.cell? ⟨(w.heap.size+1),1,none⟩=some (.bool d):=by rw[hb1.cell 1];rfl
   refine par_value (v:= .agg #[.slice c m m,.bool d]) (w':=W) ?_ ⟨Keep.refl _,hJ.same _ _ _ (by simp),HY.out.keep hJ.k⟩
   simp[go_sem,Act.eval,t3,x10,x11]
  ·have t9:ZIs W (A.tmps.getD 9 undef) (y):=hdep 2 _ 9 rfl (by kernel_rfl) rfl
   refine par_call (w':=W) (f:=82) (xs:= #[A.tmps.getD 9 undef]) (by simp[go_sem,Act.eval]) ?_
   refine (abs_any y _ _ t9).mono ?_
   rintro e w1 ⟨r,rfl,hr,hg1⟩
   exact⟨r,rfl,Gr.keep hg1,hJ.gr hg1.b _ _ _ (by simp),hr⟩
  ·have t8:NatIs W (A.tmps.getD 8 undef) (x.natAbs):=hdep 1 _ 8 rfl (by kernel_rfl) rfl
   have t10:NatIs W (A.tmps.getD 10 undef) (y.natAbs):=hdep 3 _ 10 rfl (by kernel_rfl) rfl
   refine par_call (w':=W) (f:=83) (xs:= #[A.tmps.getD 8 undef,A.tmps.getD 10 undef]) (by simp[go_sem,Act.eval]) ?_
   refine (natGcd_any _ _ _ _ _ t8 t10 HXL.out HYL.out).mono ?_
   rintro e w1 ⟨r,rfl,hr,hg1⟩
   exact⟨r,rfl,keep_below hg1,hJ.gr hg1 _ _ _ (by simp),hr⟩
  ·have hst:f 6=false:=by
    cases h:f 6 with
    |false=>rfl
    |true=>rw[hcl 6 _ 5 rfl h (by kernel_rfl)] at hf;cases hf
   refine par_value (v:= .pointer (some ⟨W.heap.size,0,none⟩)) (w':=W.alloc (.cells #[.slice none 0 0] 33)) ?_ ⟨keep_alloc _ _,hJ.new (t0:=tgN 5 (some 5) 6 (Nat.gcd x.natAbs y.natAbs)) (cs:=[.slice none 0 0]) 5 (by simp) rfl (by rw[hsz];simp) hst (by simp) (by simp) ⟨_,rfl⟩,trivial⟩
   simp[go_sem]
  ·have t11:NatIs W (A.tmps.getD 11 undef) ((Nat.gcd x.natAbs y.natAbs)):=hdep 4 _ 11 rfl (by kernel_rfl) rfl
   obtain⟨g9,cs9,hp9,hb9,hk9⟩:=hJ.ahead (t0:=tgN 5 (some 5) 6 (Nat.gcd x.natAbs y.natAbs)) (by simp) (fun j hj=>by cases hj;exact hdn 5 (by kernel_rfl)) hf
   obtain⟨y0,rfl⟩:=hk9
   obtain⟨a8,n8,e8⟩:=nat_parts t11
   have hv8:=t11
   rw[e8] at hv8
   have c0:W.cell? ⟨g9,0,none⟩=some y0:=by rw[hb9.cell 0];rfl
   have f0:=hb9.free 0
   obtain⟨k1,k2,k3⟩:=set1_all (T:=33) hb9 (by decide) (.slice a8 n8 n8)
   refine par_skip ?_ ⟨k2,hJ.put 6 undef (by simp) (fun j hj=>by cases hj;exact hdn 5 (by kernel_rfl)) rfl hp9 k1 k2 k3 (NatIs.keep hv8 k2) (by simp) (by simp),trivial⟩
   simp[go_sem,Act.eval,hp9,e8,c0,f0]
 ·intro vs1 W1 hJ1 hs1
  obtain⟨g5,cs5,p5,_,b5,k5,n5⟩:=hJ1.at' (tgN 5 (some 5) 6 (Nat.gcd x.natAbs y.natAbs)) (by simp) (fun j hj=>rfl)
  have e5:vs1 5= .pointer (some ⟨g5,0,none⟩):=by simpa[putAll,Act.put] using p5
  have k5':NatIs W1 (.agg cs5.toArray) (Nat.gcd x.natAbs y.natAbs):=k5
  obtain⟨ga,gn,rfl⟩:=nat_cs k5'
  have HG5:Hid (NatIs W1 (.agg #[.slice ga gn gn]) (Nat.gcd x.natAbs y.natAbs)):=k5'
  have HC1:Hid (BlkC 35 W1 w.heap.size [.slice a n n,.bool b]):=hJ1.kept (35,w.heap.size,[.slice a n n,.bool b]) (by simp)
  have HC2:Hid (BlkC 35 W1 (w.heap.size+1) [.slice c m m,.bool d]):=hJ1.kept (35,(w.heap.size+1),[.slice c m m,.bool d]) (by simp)
  have HC3:Hid (BlkC 37 W1 (w.heap.size+1+1) [.slice none 0 0,.bool false,.slice none 0 0,.bool false]):=hJ1.kept (37,(w.heap.size+1+1),[.slice none 0 0,.bool false,.slice none 0 0,.bool false]) (by simp)
  have HC5:Hid (BlkC 33 W1 g5 [.slice ga gn gn]):=b5
  have u1:w.heap.size≠g5:=n5 (35,w.heap.size,[.slice a n n,.bool b]) (by simp)
  have u2:w.heap.size+1≠g5:=n5 (35,(w.heap.size+1),[.slice c m m,.bool d]) (by simp)
  have u3:w.heap.size+1+1≠g5:=n5 (37,(w.heap.size+1+1),[.slice none 0 0,.bool false,.slice none 0 0,.bool false]) (by simp)
  have HXW:Hid (ZIs W1 (.agg #[.slice a n n,.bool b]) x):=HX.out.keep hJ1.k
  have HYW:Hid (ZIs W1 (.agg #[.slice c m m,.bool d]) y):=HY.out.keep hJ1.k
  have HBW:Hid (Below w.heap.size w W1):=hJ1.b
  clear p5 b5 k5 k5' n5 hJ1 hs1 HB1 HB2 HB3 HB HX HY
  simp only[putAll,List.foldl_cons,List.foldl_nil,Act.put,List.setIfInBounds_toArray,List.set_cons_succ,List.set_cons_zero,e5]
  clear e5
  go_wp2_with fail
  refine (natOf_any 1 _ (by omega)).mono ?_
  rintro e w1 ⟨v1,rfl,hv1,hg1⟩
  obtain⟨oa,on,rfl⟩:=nat_parts hv1
  have HE5:=Lib.hid (HC5.out.still (Gr.grown hg1))
  have HO:Hid (NatIs w1 (.agg #[.slice oa on on]) 1):=hv1
  have HG1:=Lib.hid hg1
  have x50:w1.cell? ⟨g5,0,none⟩=some (.slice ga gn gn):=by rw[HE5.out.cell 0];rfl
  have l5:=HE5.out.lt
  clear hv1 hg1
  go_wp2_with fail
  refine (natCmp_any (Nat.gcd x.natAbs y.natAbs) 1 _ _ _ ((Gr.natIs HG1.out HG5.out).keep (keep_alloc _ _)) (HO.out.keep (keep_alloc _ _)) HGL.out).mono ?_
  rintro e w2 ⟨rfl,hg2⟩
  have gr2:W1.grownBy w2 none:=grown_trans (Gr.grown HG1.out) (grown_trans (grown_alloc _ _ none) (Gr.grown hg2))
  have HS1:=Lib.hid (HC1.out.still gr2)
  have HS2:=Lib.hid (HC2.out.still gr2)
  have HS3:=Lib.hid (HC3.out.still gr2)
  have HS5:=Lib.hid (HC5.out.still gr2)
  have HSX:=Lib.hid (HXW.out.keep (keep_grown gr2))
  have HSY:=Lib.hid (HYW.out.keep (keep_grown gr2))
  have HxG:=Lib.hid (NatIs.keep HG5.out (keep_grown gr2))
  have HSB:Hid (Below w.heap.size w w2):=HBW.out.grown gr2 HBW.out.size (by simp)
  clear x50 l5 hg2 gr2 HC1 HC2 HC3 HC5 HXW HYW HBW HG5 HE5 HO HG1
  by_cases hG1:(Nat.gcd x.natAbs y.natAbs)=1
  ·rw[show cmpZ (((Nat.gcd x.natAbs y.natAbs):Nat):Int) ((1:Nat):Int)=0 by rw[hG1];rfl]
   have hSX:ZIs w2 (.agg #[.slice a n n,.bool b]) (x/(((Nat.gcd x.natAbs y.natAbs):Nat):Int)):=by rw[hG1];simpa using HSX.out
   have hSY:ZIs w2 (.agg #[.slice c m m,.bool d]) (y/(((Nat.gcd x.natAbs y.natAbs):Nat):Int)):=by rw[hG1];simpa using HSY.out
   clear HSX HSY hG1
   have HSX:=Lib.hid hSX
   have HSY:=Lib.hid hSY
   clear hSX hSY HS5 HxG
   have HLX:Hid ((limbs (x/(((Nat.gcd x.natAbs y.natAbs):Nat):Int)).natAbs).length≤1000000):=Nat.le_trans quo_len (by have:=HXL.out;omega)
   have HLY:Hid ((limbs (y/(((Nat.gcd x.natAbs y.natAbs):Nat):Int)).natAbs).length≤1000000):=Nat.le_trans quo_len (by have:=HYL.out;omega)
   obtain⟨d0,d1,d2,d3,d4⟩:=blk2 HS2.out
   go_wp2_with fail
   refine (sign_any (y/(((Nat.gcd x.natAbs y.natAbs):Nat):Int)) _ _ HSY.out HLY.out).mono ?_
   rintro e w9 ⟨rfl,hg9⟩
   have HT1:=Lib.hid (HS1.out.still (Gr.grown hg9))
   have HT2:=Lib.hid (HS2.out.still (Gr.grown hg9))
   have HT3:=Lib.hid (HS3.out.still (Gr.grown hg9))
   have HTX:=Lib.hid (Gr.zIs hg9 HSX.out)
   have HTY:=Lib.hid (Gr.zIs hg9 HSY.out)
   have HTB:Hid (Below w.heap.size w w9):=HSB.out.trans (hg9.b.mono HSB.out.size)
   clear hg9 d0 d1 d2 d3 d4 HS1 HS2 HS3 HSX HSY HSB
   by_cases hn:(y/(((Nat.gcd x.natAbs y.natAbs):Nat):Int))<0
   ·rw[show signZ (y/(((Nat.gcd x.natAbs y.natAbs):Nat):Int))= -1 from if_pos hn]
    go_wp2_with fail
    refine region_mem (s:=fun | 0=> .z ((x/(((Nat.gcd x.natAbs y.natAbs):Nat):Int))) | 1=> .z (-(x/(((Nat.gcd x.natAbs y.natAbs):Nat):Int))) | 2=> .z ((y/(((Nat.gcd x.natAbs y.natAbs):Nat):Int))) | 3=> .z (-(y/(((Nat.gcd x.natAbs y.natAbs):Nat):Int))) | 4=> .any | 5=> .any | _=> .any) (J:=MM w.heap.size w w9 [(37,(w.heap.size+1+1),[.slice none 0 0,.bool false,.slice none 0 0,.bool false])] [tgZ 2 none 4 (some (x/(((Nat.gcd x.natAbs y.natAbs):Nat):Int))) (-(x/(((Nat.gcd x.natAbs y.natAbs):Nat):Int))),tgZ 3 none 5 (some (y/(((Nat.gcd x.natAbs y.natAbs):Nat):Int))) (-(y/(((Nat.gcd x.natAbs y.natAbs):Nat):Int)))]) (by kernel_rfl) (by kernel_rfl) rfl (fun f g a w hn h=>MM.ext (n:=6) (by simp) hn h) ?_ ?_ ?_
    ·refine⟨below_same HTB.out rfl rfl rfl rfl,fun _ _ h=>h,HTB.out.size,(by intro q hq;simp only[List.mem_cons,List.not_mem_nil,or_false] at hq;subst hq;exact HT3.out),?_,?_⟩
     ·intro t ht h
      simp only[List.mem_cons,List.not_mem_nil,or_false] at ht
      rcases ht with rfl | rfl
      ·exact⟨w.heap.size,_,rfl,Nat.le_refl _,HT1.out,⟨⟨_,_,rfl⟩,fun p hp=>by cases hp;exact zc_of HTX.out⟩,by intro q hq;simp only[List.mem_singleton] at hq;subst hq;simp;omega⟩
      ·exact⟨w.heap.size+1,_,rfl,by omega,HT2.out,⟨⟨_,_,rfl⟩,fun p hp=>by cases hp;exact zc_of HTY.out⟩,by intro q hq;simp only[List.mem_singleton] at hq;subst hq;simp⟩
     ·intro t u h1 h2 hd _ _
      simp only[List.mem_cons,List.not_mem_nil,or_false] at h1 h2
      rcases h1 with rfl | rfl<;>rcases h2 with rfl | rfl
      ·exact absurd rfl hd
      ·simp
      ·simp
      ·exact absurd rfl hd
    ·intro i o f A W hi hJ hf hdep hdn hcl hfr hsz
     rcases i with _ | _ | _ | _ | _ | _ | i
     all_goals (simp at hi)
     all_goals (try subst hi)
     ·have hst:f 4=false:=by
       cases h:f 4 with
       |false=>rfl
       |true=>rw[hcl 4 _ 0 rfl h (by kernel_rfl)] at hf;cases hf
      obtain⟨g9,cs9,hp9,hb9,hk9⟩:=hJ.ahead (t0:=tgZ 2 none 4 (some (x/(((Nat.gcd x.natAbs y.natAbs):Nat):Int))) (-(x/(((Nat.gcd x.natAbs y.natAbs):Nat):Int)))) (by simp) (fun j hj=>by cases hj) hst
      obtain⟨a9,n9,b9,rfl⟩:=zc_parts (hk9.2 _ rfl)
      obtain⟨c0,c1,f0,f1,l0⟩:=blk2 hb9
      refine par_value (v:= .agg #[.slice a9 n9 n9,.bool b9]) (w':=W) ?_ ⟨Keep.refl _,hJ.same _ _ _ (by simp),⟨_,rfl,hk9.2 _ rfl⟩⟩
      simp[go_sem,Act.eval,hp9,c0,c1]
     ·have t36:ZIs W (A.tmps.getD 36 undef) ((x/(((Nat.gcd x.natAbs y.natAbs):Nat):Int))):=hdep 0 _ 36 rfl (by kernel_rfl) rfl
      refine par_call (w':=W) (f:=86) (xs:= #[A.tmps.getD 36 undef]) (by simp[go_sem,Act.eval]) ?_
      refine (neg_any (x/(((Nat.gcd x.natAbs y.natAbs):Nat):Int)) _ _ t36 HLX.out).mono ?_
      rintro e w1 ⟨r,rfl,hr,hg1⟩
      exact⟨r,rfl,Gr.keep hg1,hJ.gr hg1.b _ _ _ (by simp),hr⟩
     ·have hst:f 5=false:=by
       cases h:f 5 with
       |false=>rfl
       |true=>rw[hcl 5 _ 2 rfl h (by kernel_rfl)] at hf;cases hf
      obtain⟨g9,cs9,hp9,hb9,hk9⟩:=hJ.ahead (t0:=tgZ 3 none 5 (some (y/(((Nat.gcd x.natAbs y.natAbs):Nat):Int))) (-(y/(((Nat.gcd x.natAbs y.natAbs):Nat):Int)))) (by simp) (fun j hj=>by cases hj) hst
      obtain⟨a9,n9,b9,rfl⟩:=zc_parts (hk9.2 _ rfl)
      obtain⟨c0,c1,f0,f1,l0⟩:=blk2 hb9
      refine par_value (v:= .agg #[.slice a9 n9 n9,.bool b9]) (w':=W) ?_ ⟨Keep.refl _,hJ.same _ _ _ (by simp),⟨_,rfl,hk9.2 _ rfl⟩⟩
      simp[go_sem,Act.eval,hp9,c0,c1]
     ·have t38:ZIs W (A.tmps.getD 38 undef) ((y/(((Nat.gcd x.natAbs y.natAbs):Nat):Int))):=hdep 2 _ 38 rfl (by kernel_rfl) rfl
      refine par_call (w':=W) (f:=86) (xs:= #[A.tmps.getD 38 undef]) (by simp[go_sem,Act.eval]) ?_
      refine (neg_any (y/(((Nat.gcd x.natAbs y.natAbs):Nat):Int)) _ _ t38 HLY.out).mono ?_
      rintro e w1 ⟨r,rfl,hr,hg1⟩
      exact⟨r,rfl,Gr.keep hg1,hJ.gr hg1.b _ _ _ (by simp),hr⟩
     ·have t37:ZIs W (A.tmps.getD 37 undef) (-(x/(((Nat.gcd x.natAbs y.natAbs):Nat):Int))):=hdep 1 _ 37 rfl (by kernel_rfl) rfl
      obtain⟨g9,cs9,hp9,hb9,hk9⟩:=hJ.ahead (t0:=tgZ 2 none 4 (some (x/(((Nat.gcd x.natAbs y.natAbs):Nat):Int))) (-(x/(((Nat.gcd x.natAbs y.natAbs):Nat):Int)))) (by simp) (fun j hj=>by cases hj) hf
      obtain⟨⟨y0,y1,rfl⟩,_⟩:=hk9
      obtain⟨a8,n8,b8,e8⟩:=t37.parts
      have hv8:=t37
      rw[e8] at hv8
      obtain⟨c0,c1,f0,f1,l0⟩:=blk2 hb9
      obtain⟨k1,k2,k3⟩:=set2_all (T:=35) hb9 (by decide) (.slice a8 n8 n8) (.bool b8)
      refine par_skip ?_ ⟨k2,hJ.put 4 undef (by simp) (fun j hj=>by cases hj) rfl hp9 k1 k2 k3 (zc_of (hv8.keep k2)) (by simp) (by simp),trivial⟩
      simp[go_sem,Act.eval,hp9,e8,c0,c1,f0,f1]
     ·have t39:ZIs W (A.tmps.getD 39 undef) (-(y/(((Nat.gcd x.natAbs y.natAbs):Nat):Int))):=hdep 3 _ 39 rfl (by kernel_rfl) rfl
      obtain⟨g9,cs9,hp9,hb9,hk9⟩:=hJ.ahead (t0:=tgZ 3 none 5 (some (y/(((Nat.gcd x.natAbs y.natAbs):Nat):Int))) (-(y/(((Nat.gcd x.natAbs y.natAbs):Nat):Int)))) (by simp) (fun j hj=>by cases hj) hf
      obtain⟨⟨y0,y1,rfl⟩,_⟩:=hk9
      obtain⟨a8,n8,b8,e8⟩:=t39.parts
      have hv8:=t39
      rw[e8] at hv8
      obtain⟨c0,c1,f0,f1,l0⟩:=blk2 hb9
      obtain⟨k1,k2,k3⟩:=set2_all (T:=35) hb9 (by decide) (.slice a8 n8 n8) (.bool b8)
      refine par_skip ?_ ⟨k2,hJ.put 5 undef (by simp) (fun j hj=>by cases hj) rfl hp9 k1 k2 k3 (zc_of (hv8.keep k2)) (by simp) (by simp),trivial⟩
      simp[go_sem,Act.eval,hp9,e8,c0,c1,f0,f1]
    ·intro vs7a W7a hJ7a hs7a
     obtain⟨gA,csA,pA,_,bA,kA,_⟩:=hJ7a.at' (tgZ 2 none 4 (some (x/(((Nat.gcd x.natAbs y.natAbs):Nat):Int))) (-(x/(((Nat.gcd x.natAbs y.natAbs):Nat):Int)))) (by simp) (fun j hj=>by cases hj)
     obtain⟨gB,csB,pB,_,bB,kB,_⟩:=hJ7a.at' (tgZ 3 none 5 (some (y/(((Nat.gcd x.natAbs y.natAbs):Nat):Int))) (-(y/(((Nat.gcd x.natAbs y.natAbs):Nat):Int)))) (by simp) (fun j hj=>by cases hj)
     have eA:gA=w.heap.size:=ptr_eq (by simpa[putAll,Act.put] using pA)
     have eB:gB=w.heap.size+1:=ptr_eq (by simpa[putAll,Act.put] using pB)
     subst eA
     subst eB
     have kA':ZC W7a csA (-(x/(((Nat.gcd x.natAbs y.natAbs):Nat):Int))):=kA
     have kB':ZC W7a csB (-(y/(((Nat.gcd x.natAbs y.natAbs):Nat):Int))):=kB
     obtain⟨aA,nA,bbA,rfl⟩:=zc_parts kA'
     obtain⟨aB,nB,bbB,rfl⟩:=zc_parts kB'
     have HU1:Hid (BlkC 35 W7a w.heap.size [.slice aA nA nA,.bool bbA]):=bA
     have HU2:Hid (BlkC 35 W7a (w.heap.size+1) [.slice aB nB nB,.bool bbB]):=bB
     have HU3:Hid (BlkC 37 W7a (w.heap.size+1+1) [.slice none 0 0,.bool false,.slice none 0 0,.bool false]):=hJ7a.kept (37,(w.heap.size+1+1),[.slice none 0 0,.bool false,.slice none 0 0,.bool false]) (by simp)
     have HUX:Hid (ZIs W7a (.agg #[.slice aA nA nA,.bool bbA]) (-(x/(((Nat.gcd x.natAbs y.natAbs):Nat):Int)))):=⟨_,rfl,kA'⟩
     have HUY:Hid (ZIs W7a (.agg #[.slice aB nB nB,.bool bbB]) (-(y/(((Nat.gcd x.natAbs y.natAbs):Nat):Int)))):=⟨_,rfl,kB'⟩
     have HUB:Hid (Below w.heap.size w W7a):=hJ7a.b
     clear pA pB bA bB kA kB kA' kB' hJ7a hs7a HT1 HT2 HT3 HTX HTY HTB
     have HT1:=HU1
     have HT2:=HU2
     have HT3:=HU3
     have HTB:=HUB
     clear HU1 HU2 HU3 HUB
     simp only[putAll,List.foldl_cons,List.foldl_nil,Act.put,List.setIfInBounds_toArray,List.set_cons_succ,List.set_cons_zero]
     obtain⟨c0,c1,c2,c3,c4⟩:=blk2 HT1.out
     obtain⟨d0,d1,d2,d3,d4⟩:=blk2 HT2.out
     obtain⟨i0,i1,i2,i3⟩:=blk4 HT3.out
     obtain⟨j0,j1,j2,j3,j4⟩:=blk4f HT3.out
     have hnum:=(low_num x y (Nat.gcd x.natAbs y.natAbs) rfl HD0.out).1
     have hden:=(low_num x y (Nat.gcd x.natAbs y.natAbs) rfl HD0.out).2
     rw[if_pos hn] at hnum hden
     go_wp2_with fail
     obtain⟨s1,s2⟩:=r_shut (r_mk (q:=Rat.divInt x y) (by rw[hnum];exact HUX.out) (by rw[hden];exact HUY.out)) HT3.out (by decide)
     exact r_ret rfl rfl rfl s1 ⟨_,rfl,s2,below_set4 HTB.out (by omega) _ _ _ _⟩
   ·have hsg:¬ signZ (y/(((Nat.gcd x.natAbs y.natAbs):Nat):Int))<0:=by unfold signZ;rw[if_neg hn];split<;>omega
    obtain⟨c0,c1,c2,c3,c4⟩:=blk2 HT1.out
    obtain⟨d0,d1,d2,d3,d4⟩:=blk2 HT2.out
    obtain⟨i0,i1,i2,i3⟩:=blk4 HT3.out
    obtain⟨j0,j1,j2,j3,j4⟩:=blk4f HT3.out
    have hnum:=(low_num x y (Nat.gcd x.natAbs y.natAbs) rfl HD0.out).1
    have hden:=(low_num x y (Nat.gcd x.natAbs y.natAbs) rfl HD0.out).2
    rw[if_neg hn] at hnum hden
    go_wp2_with fail
    obtain⟨s1,s2⟩:=r_shut (r_mk (q:=Rat.divInt x y) (by rw[hnum];exact HTX.out) (by rw[hden];exact HTY.out)) HT3.out (by decide)
    exact r_ret rfl rfl rfl s1 ⟨_,rfl,s2,below_set4 HTB.out (by omega) _ _ _ _⟩
  ·have hcc:cmpZ (((Nat.gcd x.natAbs y.natAbs):Nat):Int) ((1:Nat):Int)≠0:=by
    have:=HGP.out
    unfold cmpZ
    rw[if_neg (by omega),if_pos (by omega)]
    decide
   generalize cmpZ (((Nat.gcd x.natAbs y.natAbs):Nat):Int) ((1:Nat):Int)=cc at hcc ⊢
   have hcb:(cc == 0)=false:=beq_false_of_ne hcc
   clear hG1
   go_wp2_with fail
   refine region_mem (s:=fun | 0=> .z (x) | 1=> .n ((Nat.gcd x.natAbs y.natAbs)) | 2=> .z ((((Nat.gcd x.natAbs y.natAbs):Nat):Int)) | 3=> .p (T3 (x/(((Nat.gcd x.natAbs y.natAbs):Nat):Int))) T3.keep | 4=> .p (T3 (x/(((Nat.gcd x.natAbs y.natAbs):Nat):Int))) T3.keep | 5=> .z (x/(((Nat.gcd x.natAbs y.natAbs):Nat):Int)) | 6=> .any | 7=> .any | 8=> .any | _=> .any) (J:=MM w.heap.size w w2 [(35,(w.heap.size+1),[.slice c m m,.bool d]),(37,(w.heap.size+1+1),[.slice none 0 0,.bool false,.slice none 0 0,.bool false]),(33,g5,[.slice ga gn gn])] [tgZ 2 none 8 (some x) (x/(((Nat.gcd x.natAbs y.natAbs):Nat):Int))]) (by kernel_rfl) (by kernel_rfl) rfl (fun f g a w hn h=>MM.ext (n:=9) (by simp) hn h) ?_ ?_ ?_
   ·refine⟨below_same HSB.out rfl rfl rfl rfl,fun _ _ h=>h,HSB.out.size,(by intro q hq;simp only[List.mem_cons,List.not_mem_nil,or_false] at hq;rcases hq with rfl | rfl | rfl;exact HS2.out;exact HS3.out;exact HS5.out),?_,(by intro t u h1 h2 hd;simp only[List.mem_singleton] at h1 h2;subst h1;subst h2;exact absurd rfl hd)⟩
    intro t ht h
    simp only[List.mem_cons,List.not_mem_nil,or_false] at ht
    subst ht
    exact⟨w.heap.size,_,rfl,by omega,HS1.out,⟨⟨_,_,rfl⟩,fun p hp=>by cases hp;exact zc_of HSX.out⟩,by intro q hq;simp only[List.mem_cons,List.not_mem_nil,or_false] at hq;rcases hq with rfl | rfl | rfl<;>simp<;>omega⟩
   ·intro i o f A W hi hJ hf hdep hdn hcl hfr hsz
    rcases i with _ | _ | _ | _ | _ | _ | _ | _ | _ | i
    all_goals (simp at hi)
    all_goals (try subst hi)
    ·have hst:f 8=false:=by
      cases h:f 8 with
      |false=>rfl
      |true=>rw[hcl 8 _ 0 rfl h (by kernel_rfl)] at hf;cases hf
     obtain⟨g9,cs9,hp9,hb9,hk9⟩:=hJ.ahead (t0:=tgZ 2 none 8 (some x) (x/(((Nat.gcd x.natAbs y.natAbs):Nat):Int))) (by simp) (fun j hj=>by cases hj) hst
     obtain⟨a9,n9,b9,rfl⟩:=zc_parts (hk9.2 _ rfl)
     obtain⟨c0,c1,f0,f1,l0⟩:=blk2 hb9
     refine par_value (v:= .agg #[.slice a9 n9 n9,.bool b9]) (w':=W) ?_ ⟨Keep.refl _,hJ.same _ _ _ (by simp),⟨_,rfl,hk9.2 _ rfl⟩⟩
     simp[go_sem,Act.eval,hp9,c0,c1]
    ·have t5:=hfr 5 (by simp)
     have hb2:BlkC 33 W g5 [.slice ga gn gn]:=hJ.kept (33,g5,[.slice ga gn gn]) (by simp)
     have x20:W.cell? ⟨g5,0,none⟩=some (.slice ga gn gn):=by rw[hb2.cell 0];rfl
     refine par_value (v:= .agg #[.slice ga gn gn]) (w':=W) ?_ ⟨Keep.refl _,hJ.same _ _ _ (by simp),HxG.out.keep hJ.k⟩
     simp[go_sem,Act.eval,t5,x20]
    ·have t19:NatIs W (A.tmps.getD 19 undef) ((Nat.gcd x.natAbs y.natAbs)):=hdep 1 _ 19 rfl (by kernel_rfl) rfl
     refine par_call (w':=W) (f:=85) (xs:= #[A.tmps.getD 19 undef]) (by simp[go_sem,Act.eval]) ?_
     refine (big_any (Nat.gcd x.natAbs y.natAbs) _ _ t19 HGL.out).mono ?_
     rintro e w1 ⟨r,rfl,hr,hg1⟩
     exact⟨r,rfl,Gr.keep hg1,hJ.gr hg1.b _ _ _ (by simp),hr⟩
    ·have t18:ZIs W (A.tmps.getD 18 undef) (x):=hdep 0 _ 18 rfl (by kernel_rfl) rfl
     have t20:ZIs W (A.tmps.getD 20 undef) ((((Nat.gcd x.natAbs y.natAbs):Nat):Int)):=hdep 2 _ 20 rfl (by kernel_rfl) rfl
     refine par_call (w':=W) (f:=84) (xs:= #[A.tmps.getD 18 undef,A.tmps.getD 20 undef]) (by simp[go_sem,Act.eval]) ?_
     refine (floor_exact x (Nat.gcd x.natAbs y.natAbs) _ _ _ t18 t20 HGP.out HxD.out HXL.out).mono ?_
     rintro e w1 ⟨r,rfl,hr,hg1⟩
     exact⟨r,rfl,keep_below hg1,hJ.gr hg1 _ _ _ (by simp),hr⟩
    ·have t21:T3 (x/(((Nat.gcd x.natAbs y.natAbs):Nat):Int)) W (A.tmps.getD 21 undef):=hdep 3 _ 21 rfl (by kernel_rfl) rfl
     refine par_value (v:=A.tmps.getD 21 undef) (w':=W) ?_ ⟨Keep.refl _,hJ.same _ _ _ (by simp),t21⟩
     simp[go_sem,Act.eval]
    ·have t17:T3 (x/(((Nat.gcd x.natAbs y.natAbs):Nat):Int)) W (A.tmps.getD 17 undef):=hdep 4 _ 17 rfl (by kernel_rfl) rfl
     obtain⟨e0,e1,e2,q17,qh⟩:=t17
     refine par_value (v:=e0) (w':=W) ?_ ⟨Keep.refl _,hJ.same _ _ _ (by simp),qh⟩
     simp[go_sem,Act.eval,q17]
    ·have t17:T3 (x/(((Nat.gcd x.natAbs y.natAbs):Nat):Int)) W (A.tmps.getD 17 undef):=hdep 4 _ 17 rfl (by kernel_rfl) rfl
     obtain⟨e0,e1,e2,q17,qh⟩:=t17
     refine par_value (v:=e1) (w':=W) ?_ ⟨Keep.refl _,hJ.same _ _ _ (by simp),trivial⟩
     simp[go_sem,Act.eval,q17]
    ·have t17:T3 (x/(((Nat.gcd x.natAbs y.natAbs):Nat):Int)) W (A.tmps.getD 17 undef):=hdep 4 _ 17 rfl (by kernel_rfl) rfl
     obtain⟨e0,e1,e2,q17,qh⟩:=t17
     refine par_value (v:=e2) (w':=W) ?_ ⟨Keep.refl _,hJ.same _ _ _ (by simp),trivial⟩
     simp[go_sem,Act.eval,q17]
    ·have t22:ZIs W (A.tmps.getD 22 undef) (x/(((Nat.gcd x.natAbs y.natAbs):Nat):Int)):=hdep 5 _ 22 rfl (by kernel_rfl) rfl
     obtain⟨g9,cs9,hp9,hb9,hk9⟩:=hJ.ahead (t0:=tgZ 2 none 8 (some x) (x/(((Nat.gcd x.natAbs y.natAbs):Nat):Int))) (by simp) (fun j hj=>by cases hj) hf
     obtain⟨⟨y0,y1,rfl⟩,_⟩:=hk9
     obtain⟨a8,n8,b8,e8⟩:=t22.parts
     have hv8:=t22
     rw[e8] at hv8
     obtain⟨c0,c1,f0,f1,l0⟩:=blk2 hb9
     obtain⟨k1,k2,k3⟩:=set2_all (T:=35) hb9 (by decide) (.slice a8 n8 n8) (.bool b8)
     refine par_skip ?_ ⟨k2,hJ.put 8 undef (by simp) (fun j hj=>by cases hj) rfl hp9 k1 k2 k3 (zc_of (hv8.keep k2)) (by simp) (by simp),trivial⟩
     simp[go_sem,Act.eval,hp9,e8,c0,c1,f0,f1]
   ·intro vs4 W4 hJ4 hs4
    obtain⟨gA,csA,pA,_,bA,kA,_⟩:=hJ4.at' (tgZ 2 none 8 (some x) (x/(((Nat.gcd x.natAbs y.natAbs):Nat):Int))) (by simp) (fun j hj=>by cases hj)
    have eA:gA=w.heap.size:=ptr_eq (by simpa[putAll,Act.put] using pA)
    subst eA
    have kA':ZC W4 csA (x/(((Nat.gcd x.natAbs y.natAbs):Nat):Int)):=kA
    obtain⟨a4,n4,b4,rfl⟩:=zc_parts kA'
    have HU1:Hid (BlkC 35 W4 (w.heap.size) [.slice a4 n4 n4,.bool b4]):=bA
    have HU2:Hid (BlkC 35 W4 (w.heap.size+1) [.slice c m m,.bool d]):=hJ4.kept (35,(w.heap.size+1),[.slice c m m,.bool d]) (by simp)
    have HU3:Hid (BlkC 37 W4 (w.heap.size+1+1) [.slice none 0 0,.bool false,.slice none 0 0,.bool false]):=hJ4.kept (37,(w.heap.size+1+1),[.slice none 0 0,.bool false,.slice none 0 0,.bool false]) (by simp)
    have HU5:Hid (BlkC 33 W4 g5 [.slice ga gn gn]):=hJ4.kept (33,g5,[.slice ga gn gn]) (by simp)
    have HUX:Hid (ZIs W4 (.agg #[.slice a4 n4 n4,.bool b4]) (x/(((Nat.gcd x.natAbs y.natAbs):Nat):Int))):=⟨_,rfl,kA'⟩
    have HUY:=Lib.hid (HSY.out.keep hJ4.k)
    have HUG:=Lib.hid (NatIs.keep HxG.out hJ4.k)
    have HUB:Hid (Below w.heap.size w W4):=hJ4.b
    clear pA bA kA kA' hJ4 hs4 HS1 HS2 HS3 HS5 HSX HSY HSB HxG
    have HS1:=HU1
    have HS2:=HU2
    have HS3:=HU3
    have HS5:=HU5
    have HSX:=HUX
    have HSY:=HUY
    have HSB:=HUB
    have HxG:=HUG
    clear HU1 HU2 HU3 HU5 HUX HUY HUB HUG
    simp only[putAll,List.foldl_cons,List.foldl_nil,Act.put,List.setIfInBounds_toArray,List.set_cons_succ,List.set_cons_zero]
    go_wp2_with fail
    refine region_mem (s:=fun | 0=> .z (y) | 1=> .n ((Nat.gcd x.natAbs y.natAbs)) | 2=> .z ((((Nat.gcd x.natAbs y.natAbs):Nat):Int)) | 3=> .p (T3 (y/(((Nat.gcd x.natAbs y.natAbs):Nat):Int))) T3.keep | 4=> .p (T3 (y/(((Nat.gcd x.natAbs y.natAbs):Nat):Int))) T3.keep | 5=> .z (y/(((Nat.gcd x.natAbs y.natAbs):Nat):Int)) | 6=> .any | 7=> .any | 8=> .any | _=> .any) (J:=MM w.heap.size w W4 [(35,w.heap.size,[.slice a4 n4 n4,.bool b4]),(37,(w.heap.size+1+1),[.slice none 0 0,.bool false,.slice none 0 0,.bool false]),(33,g5,[.slice ga gn gn])] [tgZ 3 none 8 (some y) (y/(((Nat.gcd x.natAbs y.natAbs):Nat):Int))]) (by kernel_rfl) (by kernel_rfl) rfl (fun f g a w hn h=>MM.ext (n:=9) (by simp) hn h) ?_ ?_ ?_
    ·refine⟨below_same HSB.out rfl rfl rfl rfl,fun _ _ h=>h,HSB.out.size,(by intro q hq;simp only[List.mem_cons,List.not_mem_nil,or_false] at hq;rcases hq with rfl | rfl | rfl;exact HS1.out;exact HS3.out;exact HS5.out),?_,(by intro t u h1 h2 hd;simp only[List.mem_singleton] at h1 h2;subst h1;subst h2;exact absurd rfl hd)⟩
     intro t ht h
     simp only[List.mem_cons,List.not_mem_nil,or_false] at ht
     subst ht
     exact⟨w.heap.size+1,_,rfl,by omega,HS2.out,⟨⟨_,_,rfl⟩,fun p hp=>by cases hp;exact zc_of HSY.out⟩,by intro q hq;simp only[List.mem_cons,List.not_mem_nil,or_false] at hq;rcases hq with rfl | rfl | rfl<;>simp<;>omega⟩
    ·intro i o f A W hi hJ hf hdep hdn hcl hfr hsz
     rcases i with _ | _ | _ | _ | _ | _ | _ | _ | _ | i
     all_goals (simp at hi)
     all_goals (try subst hi)
     ·have hst:f 8=false:=by
       cases h:f 8 with
       |false=>rfl
       |true=>rw[hcl 8 _ 0 rfl h (by kernel_rfl)] at hf;cases hf
      obtain⟨g9,cs9,hp9,hb9,hk9⟩:=hJ.ahead (t0:=tgZ 3 none 8 (some y) (y/(((Nat.gcd x.natAbs y.natAbs):Nat):Int))) (by simp) (fun j hj=>by cases hj) hst
      obtain⟨a9,n9,b9,rfl⟩:=zc_parts (hk9.2 _ rfl)
      obtain⟨c0,c1,f0,f1,l0⟩:=blk2 hb9
      refine par_value (v:= .agg #[.slice a9 n9 n9,.bool b9]) (w':=W) ?_ ⟨Keep.refl _,hJ.same _ _ _ (by simp),⟨_,rfl,hk9.2 _ rfl⟩⟩
      simp[go_sem,Act.eval,hp9,c0,c1]
     ·have t5:=hfr 5 (by simp)
      have hb2:BlkC 33 W g5 [.slice ga gn gn]:=hJ.kept (33,g5,[.slice ga gn gn]) (by simp)
      have x20:W.cell? ⟨g5,0,none⟩=some (.slice ga gn gn):=by rw[hb2.cell 0];rfl
      refine par_value (v:= .agg #[.slice ga gn gn]) (w':=W) ?_ ⟨Keep.refl _,hJ.same _ _ _ (by simp),HxG.out.keep hJ.k⟩
      simp[go_sem,Act.eval,t5,x20]
     ·have t27:NatIs W (A.tmps.getD 27 undef) ((Nat.gcd x.natAbs y.natAbs)):=hdep 1 _ 27 rfl (by kernel_rfl) rfl
      refine par_call (w':=W) (f:=85) (xs:= #[A.tmps.getD 27 undef]) (by simp[go_sem,Act.eval]) ?_
      refine (big_any (Nat.gcd x.natAbs y.natAbs) _ _ t27 HGL.out).mono ?_
      rintro e w1 ⟨r,rfl,hr,hg1⟩
      exact⟨r,rfl,Gr.keep hg1,hJ.gr hg1.b _ _ _ (by simp),hr⟩
     ·have t26:ZIs W (A.tmps.getD 26 undef) (y):=hdep 0 _ 26 rfl (by kernel_rfl) rfl
      have t28:ZIs W (A.tmps.getD 28 undef) ((((Nat.gcd x.natAbs y.natAbs):Nat):Int)):=hdep 2 _ 28 rfl (by kernel_rfl) rfl
      refine par_call (w':=W) (f:=84) (xs:= #[A.tmps.getD 26 undef,A.tmps.getD 28 undef]) (by simp[go_sem,Act.eval]) ?_
      refine (floor_exact y (Nat.gcd x.natAbs y.natAbs) _ _ _ t26 t28 HGP.out HyD.out HYL.out).mono ?_
      rintro e w1 ⟨r,rfl,hr,hg1⟩
      exact⟨r,rfl,keep_below hg1,hJ.gr hg1 _ _ _ (by simp),hr⟩
     ·have t29:T3 (y/(((Nat.gcd x.natAbs y.natAbs):Nat):Int)) W (A.tmps.getD 29 undef):=hdep 3 _ 29 rfl (by kernel_rfl) rfl
      refine par_value (v:=A.tmps.getD 29 undef) (w':=W) ?_ ⟨Keep.refl _,hJ.same _ _ _ (by simp),t29⟩
      simp[go_sem,Act.eval]
     ·have t25:T3 (y/(((Nat.gcd x.natAbs y.natAbs):Nat):Int)) W (A.tmps.getD 25 undef):=hdep 4 _ 25 rfl (by kernel_rfl) rfl
      obtain⟨e0,e1,e2,q25,qh⟩:=t25
      refine par_value (v:=e0) (w':=W) ?_ ⟨Keep.refl _,hJ.same _ _ _ (by simp),qh⟩
      simp[go_sem,Act.eval,q25]
     ·have t25:T3 (y/(((Nat.gcd x.natAbs y.natAbs):Nat):Int)) W (A.tmps.getD 25 undef):=hdep 4 _ 25 rfl (by kernel_rfl) rfl
      obtain⟨e0,e1,e2,q25,qh⟩:=t25
      refine par_value (v:=e1) (w':=W) ?_ ⟨Keep.refl _,hJ.same _ _ _ (by simp),trivial⟩
      simp[go_sem,Act.eval,q25]
     ·have t25:T3 (y/(((Nat.gcd x.natAbs y.natAbs):Nat):Int)) W (A.tmps.getD 25 undef):=hdep 4 _ 25 rfl (by kernel_rfl) rfl
      obtain⟨e0,e1,e2,q25,qh⟩:=t25
      refine par_value (v:=e2) (w':=W) ?_ ⟨Keep.refl _,hJ.same _ _ _ (by simp),trivial⟩
      simp[go_sem,Act.eval,q25]
     ·have t30:ZIs W (A.tmps.getD 30 undef) (y/(((Nat.gcd x.natAbs y.natAbs):Nat):Int)):=hdep 5 _ 30 rfl (by kernel_rfl) rfl
      obtain⟨g9,cs9,hp9,hb9,hk9⟩:=hJ.ahead (t0:=tgZ 3 none 8 (some y) (y/(((Nat.gcd x.natAbs y.natAbs):Nat):Int))) (by simp) (fun j hj=>by cases hj) hf
      obtain⟨⟨y0,y1,rfl⟩,_⟩:=hk9
      obtain⟨a8,n8,b8,e8⟩:=t30.parts
      have hv8:=t30
      rw[e8] at hv8
      obtain⟨c0,c1,f0,f1,l0⟩:=blk2 hb9
      obtain⟨k1,k2,k3⟩:=set2_all (T:=35) hb9 (by decide) (.slice a8 n8 n8) (.bool b8)
      refine par_skip ?_ ⟨k2,hJ.put 8 undef (by simp) (fun j hj=>by cases hj) rfl hp9 k1 k2 k3 (zc_of (hv8.keep k2)) (by simp) (by simp),trivial⟩
      simp[go_sem,Act.eval,hp9,e8,c0,c1,f0,f1]
    ·intro vs5 W5 hJ5 hs5
     obtain⟨gA,csA,pA,_,bA,kA,_⟩:=hJ5.at' (tgZ 3 none 8 (some y) (y/(((Nat.gcd x.natAbs y.natAbs):Nat):Int))) (by simp) (fun j hj=>by cases hj)
     have eA:gA=w.heap.size+1:=ptr_eq (by simpa[putAll,Act.put] using pA)
     subst eA
     have kA':ZC W5 csA (y/(((Nat.gcd x.natAbs y.natAbs):Nat):Int)):=kA
     obtain⟨a5,n5,b5,rfl⟩:=zc_parts kA'
     have HU1:Hid (BlkC 35 W5 (w.heap.size+1) [.slice a5 n5 n5,.bool b5]):=bA
     have HU2:Hid (BlkC 35 W5 w.heap.size [.slice a4 n4 n4,.bool b4]):=hJ5.kept (35,w.heap.size,[.slice a4 n4 n4,.bool b4]) (by simp)
     have HU3:Hid (BlkC 37 W5 (w.heap.size+1+1) [.slice none 0 0,.bool false,.slice none 0 0,.bool false]):=hJ5.kept (37,(w.heap.size+1+1),[.slice none 0 0,.bool false,.slice none 0 0,.bool false]) (by simp)
     have HU5:Hid (BlkC 33 W5 g5 [.slice ga gn gn]):=hJ5.kept (33,g5,[.slice ga gn gn]) (by simp)
     have HUX:Hid (ZIs W5 (.agg #[.slice a5 n5 n5,.bool b5]) (y/(((Nat.gcd x.natAbs y.natAbs):Nat):Int))):=⟨_,rfl,kA'⟩
     have HUY:=Lib.hid (HSX.out.keep hJ5.k)
     have HUG:=Lib.hid (NatIs.keep HxG.out hJ5.k)
     have HUB:Hid (Below w.heap.size w W5):=hJ5.b
     clear pA bA kA kA' hJ5 hs5 HS1 HS2 HS3 HS5 HSX HSY HSB HxG
     have HS1:=HU2
     have HS2:=HU1
     have HS3:=HU3
     have HSX:=HUY
     have HSY:=HUX
     have HSB:=HUB
     clear HU1 HU2 HU3 HU5 HUX HUY HUB HUG
     simp only[putAll,List.foldl_cons,List.foldl_nil,Act.put,List.setIfInBounds_toArray,List.set_cons_succ,List.set_cons_zero]
     have HLX:Hid ((limbs (x/(((Nat.gcd x.natAbs y.natAbs):Nat):Int)).natAbs).length≤1000000):=Nat.le_trans quo_len (by have:=HXL.out;omega)
     have HLY:Hid ((limbs (y/(((Nat.gcd x.natAbs y.natAbs):Nat):Int)).natAbs).length≤1000000):=Nat.le_trans quo_len (by have:=HYL.out;omega)
     obtain⟨d0,d1,d2,d3,d4⟩:=blk2 HS2.out
     go_wp2_with fail
     refine (sign_any (y/(((Nat.gcd x.natAbs y.natAbs):Nat):Int)) _ _ HSY.out HLY.out).mono ?_
     rintro e w9 ⟨rfl,hg9⟩
     have HT1:=Lib.hid (HS1.out.still (Gr.grown hg9))
     have HT2:=Lib.hid (HS2.out.still (Gr.grown hg9))
     have HT3:=Lib.hid (HS3.out.still (Gr.grown hg9))
     have HTX:=Lib.hid (Gr.zIs hg9 HSX.out)
     have HTY:=Lib.hid (Gr.zIs hg9 HSY.out)
     have HTB:Hid (Below w.heap.size w w9):=HSB.out.trans (hg9.b.mono HSB.out.size)
     clear hg9 d0 d1 d2 d3 d4 HS1 HS2 HS3 HSX HSY HSB
     by_cases hn:(y/(((Nat.gcd x.natAbs y.natAbs):Nat):Int))<0
     ·rw[show signZ (y/(((Nat.gcd x.natAbs y.natAbs):Nat):Int))= -1 from if_pos hn]
      go_wp2_with fail
      refine region_mem (s:=fun | 0=> .z ((x/(((Nat.gcd x.natAbs y.natAbs):Nat):Int))) | 1=> .z (-(x/(((Nat.gcd x.natAbs y.natAbs):Nat):Int))) | 2=> .z ((y/(((Nat.gcd x.natAbs y.natAbs):Nat):Int))) | 3=> .z (-(y/(((Nat.gcd x.natAbs y.natAbs):Nat):Int))) | 4=> .any | 5=> .any | _=> .any) (J:=MM w.heap.size w w9 [(37,(w.heap.size+1+1),[.slice none 0 0,.bool false,.slice none 0 0,.bool false])] [tgZ 2 none 4 (some (x/(((Nat.gcd x.natAbs y.natAbs):Nat):Int))) (-(x/(((Nat.gcd x.natAbs y.natAbs):Nat):Int))),tgZ 3 none 5 (some (y/(((Nat.gcd x.natAbs y.natAbs):Nat):Int))) (-(y/(((Nat.gcd x.natAbs y.natAbs):Nat):Int)))]) (by kernel_rfl) (by kernel_rfl) rfl (fun f g a w hn h=>MM.ext (n:=6) (by simp) hn h) ?_ ?_ ?_
      ·refine⟨below_same HTB.out rfl rfl rfl rfl,fun _ _ h=>h,HTB.out.size,(by intro q hq;simp only[List.mem_cons,List.not_mem_nil,or_false] at hq;subst hq;exact HT3.out),?_,?_⟩
       ·intro t ht h
        simp only[List.mem_cons,List.not_mem_nil,or_false] at ht
        rcases ht with rfl | rfl
        ·exact⟨w.heap.size,_,rfl,Nat.le_refl _,HT1.out,⟨⟨_,_,rfl⟩,fun p hp=>by cases hp;exact zc_of HTX.out⟩,by intro q hq;simp only[List.mem_singleton] at hq;subst hq;simp;omega⟩
        ·exact⟨w.heap.size+1,_,rfl,by omega,HT2.out,⟨⟨_,_,rfl⟩,fun p hp=>by cases hp;exact zc_of HTY.out⟩,by intro q hq;simp only[List.mem_singleton] at hq;subst hq;simp⟩
       ·intro t u h1 h2 hd _ _
        simp only[List.mem_cons,List.not_mem_nil,or_false] at h1 h2
        rcases h1 with rfl | rfl<;>rcases h2 with rfl | rfl
        ·exact absurd rfl hd
        ·simp
        ·simp
        ·exact absurd rfl hd
      ·intro i o f A W hi hJ hf hdep hdn hcl hfr hsz
       rcases i with _ | _ | _ | _ | _ | _ | i
       all_goals (simp at hi)
       all_goals (try subst hi)
       ·have hst:f 4=false:=by
         cases h:f 4 with
         |false=>rfl
         |true=>rw[hcl 4 _ 0 rfl h (by kernel_rfl)] at hf;cases hf
        obtain⟨g9,cs9,hp9,hb9,hk9⟩:=hJ.ahead (t0:=tgZ 2 none 4 (some (x/(((Nat.gcd x.natAbs y.natAbs):Nat):Int))) (-(x/(((Nat.gcd x.natAbs y.natAbs):Nat):Int)))) (by simp) (fun j hj=>by cases hj) hst
        obtain⟨a9,n9,b9,rfl⟩:=zc_parts (hk9.2 _ rfl)
        obtain⟨c0,c1,f0,f1,l0⟩:=blk2 hb9
        refine par_value (v:= .agg #[.slice a9 n9 n9,.bool b9]) (w':=W) ?_ ⟨Keep.refl _,hJ.same _ _ _ (by simp),⟨_,rfl,hk9.2 _ rfl⟩⟩
        simp[go_sem,Act.eval,hp9,c0,c1]
       ·have t36:ZIs W (A.tmps.getD 36 undef) ((x/(((Nat.gcd x.natAbs y.natAbs):Nat):Int))):=hdep 0 _ 36 rfl (by kernel_rfl) rfl
        refine par_call (w':=W) (f:=86) (xs:= #[A.tmps.getD 36 undef]) (by simp[go_sem,Act.eval]) ?_
        refine (neg_any (x/(((Nat.gcd x.natAbs y.natAbs):Nat):Int)) _ _ t36 HLX.out).mono ?_
        rintro e w1 ⟨r,rfl,hr,hg1⟩
        exact⟨r,rfl,Gr.keep hg1,hJ.gr hg1.b _ _ _ (by simp),hr⟩
       ·have hst:f 5=false:=by
         cases h:f 5 with
         |false=>rfl
         |true=>rw[hcl 5 _ 2 rfl h (by kernel_rfl)] at hf;cases hf
        obtain⟨g9,cs9,hp9,hb9,hk9⟩:=hJ.ahead (t0:=tgZ 3 none 5 (some (y/(((Nat.gcd x.natAbs y.natAbs):Nat):Int))) (-(y/(((Nat.gcd x.natAbs y.natAbs):Nat):Int)))) (by simp) (fun j hj=>by cases hj) hst
        obtain⟨a9,n9,b9,rfl⟩:=zc_parts (hk9.2 _ rfl)
        obtain⟨c0,c1,f0,f1,l0⟩:=blk2 hb9
        refine par_value (v:= .agg #[.slice a9 n9 n9,.bool b9]) (w':=W) ?_ ⟨Keep.refl _,hJ.same _ _ _ (by simp),⟨_,rfl,hk9.2 _ rfl⟩⟩
        simp[go_sem,Act.eval,hp9,c0,c1]
       ·have t38:ZIs W (A.tmps.getD 38 undef) ((y/(((Nat.gcd x.natAbs y.natAbs):Nat):Int))):=hdep 2 _ 38 rfl (by kernel_rfl) rfl
        refine par_call (w':=W) (f:=86) (xs:= #[A.tmps.getD 38 undef]) (by simp[go_sem,Act.eval]) ?_
        refine (neg_any (y/(((Nat.gcd x.natAbs y.natAbs):Nat):Int)) _ _ t38 HLY.out).mono ?_
        rintro e w1 ⟨r,rfl,hr,hg1⟩
        exact⟨r,rfl,Gr.keep hg1,hJ.gr hg1.b _ _ _ (by simp),hr⟩
       ·have t37:ZIs W (A.tmps.getD 37 undef) (-(x/(((Nat.gcd x.natAbs y.natAbs):Nat):Int))):=hdep 1 _ 37 rfl (by kernel_rfl) rfl
        obtain⟨g9,cs9,hp9,hb9,hk9⟩:=hJ.ahead (t0:=tgZ 2 none 4 (some (x/(((Nat.gcd x.natAbs y.natAbs):Nat):Int))) (-(x/(((Nat.gcd x.natAbs y.natAbs):Nat):Int)))) (by simp) (fun j hj=>by cases hj) hf
        obtain⟨⟨y0,y1,rfl⟩,_⟩:=hk9
        obtain⟨a8,n8,b8,e8⟩:=t37.parts
        have hv8:=t37
        rw[e8] at hv8
        obtain⟨c0,c1,f0,f1,l0⟩:=blk2 hb9
        obtain⟨k1,k2,k3⟩:=set2_all (T:=35) hb9 (by decide) (.slice a8 n8 n8) (.bool b8)
        refine par_skip ?_ ⟨k2,hJ.put 4 undef (by simp) (fun j hj=>by cases hj) rfl hp9 k1 k2 k3 (zc_of (hv8.keep k2)) (by simp) (by simp),trivial⟩
        simp[go_sem,Act.eval,hp9,e8,c0,c1,f0,f1]
       ·have t39:ZIs W (A.tmps.getD 39 undef) (-(y/(((Nat.gcd x.natAbs y.natAbs):Nat):Int))):=hdep 3 _ 39 rfl (by kernel_rfl) rfl
        obtain⟨g9,cs9,hp9,hb9,hk9⟩:=hJ.ahead (t0:=tgZ 3 none 5 (some (y/(((Nat.gcd x.natAbs y.natAbs):Nat):Int))) (-(y/(((Nat.gcd x.natAbs y.natAbs):Nat):Int)))) (by simp) (fun j hj=>by cases hj) hf
        obtain⟨⟨y0,y1,rfl⟩,_⟩:=hk9
        obtain⟨a8,n8,b8,e8⟩:=t39.parts
        have hv8:=t39
        rw[e8] at hv8
        obtain⟨c0,c1,f0,f1,l0⟩:=blk2 hb9
        obtain⟨k1,k2,k3⟩:=set2_all (T:=35) hb9 (by decide) (.slice a8 n8 n8) (.bool b8)
        refine par_skip ?_ ⟨k2,hJ.put 5 undef (by simp) (fun j hj=>by cases hj) rfl hp9 k1 k2 k3 (zc_of (hv8.keep k2)) (by simp) (by simp),trivial⟩
        simp[go_sem,Act.eval,hp9,e8,c0,c1,f0,f1]
      ·intro vs7b W7b hJ7b hs7b
       obtain⟨gA,csA,pA,_,bA,kA,_⟩:=hJ7b.at' (tgZ 2 none 4 (some (x/(((Nat.gcd x.natAbs y.natAbs):Nat):Int))) (-(x/(((Nat.gcd x.natAbs y.natAbs):Nat):Int)))) (by simp) (fun j hj=>by cases hj)
       obtain⟨gB,csB,pB,_,bB,kB,_⟩:=hJ7b.at' (tgZ 3 none 5 (some (y/(((Nat.gcd x.natAbs y.natAbs):Nat):Int))) (-(y/(((Nat.gcd x.natAbs y.natAbs):Nat):Int)))) (by simp) (fun j hj=>by cases hj)
       have eA:gA=w.heap.size:=ptr_eq (by simpa[putAll,Act.put] using pA)
       have eB:gB=w.heap.size+1:=ptr_eq (by simpa[putAll,Act.put] using pB)
       subst eA
       subst eB
       have kA':ZC W7b csA (-(x/(((Nat.gcd x.natAbs y.natAbs):Nat):Int))):=kA
       have kB':ZC W7b csB (-(y/(((Nat.gcd x.natAbs y.natAbs):Nat):Int))):=kB
       obtain⟨aA,nA,bbA,rfl⟩:=zc_parts kA'
       obtain⟨aB,nB,bbB,rfl⟩:=zc_parts kB'
       have HU1:Hid (BlkC 35 W7b w.heap.size [.slice aA nA nA,.bool bbA]):=bA
       have HU2:Hid (BlkC 35 W7b (w.heap.size+1) [.slice aB nB nB,.bool bbB]):=bB
       have HU3:Hid (BlkC 37 W7b (w.heap.size+1+1) [.slice none 0 0,.bool false,.slice none 0 0,.bool false]):=hJ7b.kept (37,(w.heap.size+1+1),[.slice none 0 0,.bool false,.slice none 0 0,.bool false]) (by simp)
       have HUX:Hid (ZIs W7b (.agg #[.slice aA nA nA,.bool bbA]) (-(x/(((Nat.gcd x.natAbs y.natAbs):Nat):Int)))):=⟨_,rfl,kA'⟩
       have HUY:Hid (ZIs W7b (.agg #[.slice aB nB nB,.bool bbB]) (-(y/(((Nat.gcd x.natAbs y.natAbs):Nat):Int)))):=⟨_,rfl,kB'⟩
       have HUB:Hid (Below w.heap.size w W7b):=hJ7b.b
       clear pA pB bA bB kA kB kA' kB' hJ7b hs7b HT1 HT2 HT3 HTX HTY HTB
       have HT1:=HU1
       have HT2:=HU2
       have HT3:=HU3
       have HTB:=HUB
       clear HU1 HU2 HU3 HUB
       simp only[putAll,List.foldl_cons,List.foldl_nil,Act.put,List.setIfInBounds_toArray,List.set_cons_succ,List.set_cons_zero]
       obtain⟨c0,c1,c2,c3,c4⟩:=blk2 HT1.out
       obtain⟨d0,d1,d2,d3,d4⟩:=blk2 HT2.out
       obtain⟨i0,i1,i2,i3⟩:=blk4 HT3.out
       obtain⟨j0,j1,j2,j3,j4⟩:=blk4f HT3.out
       have hnum:=(low_num x y (Nat.gcd x.natAbs y.natAbs) rfl HD0.out).1
       have hden:=(low_num x y (Nat.gcd x.natAbs y.natAbs) rfl HD0.out).2
       rw[if_pos hn] at hnum hden
       go_wp2_with fail
       obtain⟨s1,s2⟩:=r_shut (r_mk (q:=Rat.divInt x y) (by rw[hnum];exact HUX.out) (by rw[hden];exact HUY.out)) HT3.out (by decide)
       exact r_ret rfl rfl rfl s1 ⟨_,rfl,s2,below_set4 HTB.out (by omega) _ _ _ _⟩
     ·have hsg:¬ signZ (y/(((Nat.gcd x.natAbs y.natAbs):Nat):Int))<0:=by unfold signZ;rw[if_neg hn];split<;>omega
      obtain⟨c0,c1,c2,c3,c4⟩:=blk2 HT1.out
      obtain⟨d0,d1,d2,d3,d4⟩:=blk2 HT2.out
      obtain⟨i0,i1,i2,i3⟩:=blk4 HT3.out
      obtain⟨j0,j1,j2,j3,j4⟩:=blk4f HT3.out
      have hnum:=(low_num x y (Nat.gcd x.natAbs y.natAbs) rfl HD0.out).1
      have hden:=(low_num x y (Nat.gcd x.natAbs y.natAbs) rfl HD0.out).2
      rw[if_neg hn] at hnum hden
      go_wp2_with fail
      obtain⟨s1,s2⟩:=r_shut (r_mk (q:=Rat.divInt x y) (by rw[hnum];exact HTX.out) (by rw[hden];exact HTY.out)) HT3.out (by decide)
      exact r_ret rfl rfl rfl s1 ⟨_,rfl,s2,below_set4 HTB.out (by omega) _ _ _ _⟩
end Go.Proofs.YtmagoiniahpofaaGreat
namespace Go.Proofs.YtmagoiniahpofaaGreat
open Go Go.RowKit
def rlen (q:Rat):Nat:=(limbs q.num.natAbs).length+(limbs q.den).length
theorem limbs_addZ {x y:Int} {k:Nat} (hx:(limbs x.natAbs).length≤k) (hy:(limbs y.natAbs).length≤k):(limbs (x+y).natAbs).length≤k+1:=by
 have h1:=val_lt (limbs_limb x.natAbs)
 have h2:=val_lt (limbs_limb y.natAbs)
 rw[val_limbs] at h1 h2
 rw[limbs_len,Nat.pow_succ]
 have e1:=Nat.pow_le_pow_right (show 0<4294967296 by omega) hx
 have e2:=Nat.pow_le_pow_right (show 0<4294967296 by omega) hy
 have:=Int.natAbs_add_le x y
 omega
section
variable (w:World) (a:Option Addr) (n:Nat) (b:Bool) (c:Option Addr) (m:Nat) (d:Bool) (a':Option Addr) (n':Nat) (b':Bool) (c':Option Addr) (m':Nat) (d':Bool)
abbrev r3W:World:=((w.alloc (.cells #[.slice a n n,.bool b,.slice c m m,.bool d] 37)).alloc (.cells #[.slice a' n' n',.bool b',.slice c' m' m',.bool d'] 37)).alloc (.cells #[.slice none 0 0,.bool false,.slice none 0 0,.bool false] 37)
theorem r3W_1:BlkC 37 (r3W w a n b c m d a' n' b' c' m' d') w.heap.size [.slice a n n,.bool b,.slice c m m,.bool d]:=((BlkC.new _ w [.slice a n n,.bool b,.slice c m m,.bool d]).still (grown_alloc _ _ none)).still (grown_alloc _ _ none)
theorem r3W_2:BlkC 37 (r3W w a n b c m d a' n' b' c' m' d') (w.heap.size+1) [.slice a' n' n',.bool b',.slice c' m' m',.bool d']:=(blk_at (cs:=[.slice a' n' n',.bool b',.slice c' m' m',.bool d']) (by simp)).still (grown_alloc _ _ none)
theorem r3W_3:BlkC 37 (r3W w a n b c m d a' n' b' c' m' d') (w.heap.size+1+1) [.slice none 0 0,.bool false,.slice none 0 0,.bool false]:=blk_at (cs:=[.slice none 0 0,.bool false,.slice none 0 0,.bool false]) (by simp)
theorem r3W_g:Own w.heap.size w (r3W w a n b c m d a' n' b' c' m' d'):=(((own_alloc _ _).alloc (by simp) _).alloc (by simp;omega) _)
end
set_option maxHeartbeats 8000000 in
set_option maxRecDepth 100000 in
theorem add_any (q p:Rat) (v u:Value) (w:World) (hv:RIs w v q) (hu:RIs w u p) (hq:rlen q≤100000) (hp:rlen p≤100000) :
  Calls Tryz.prog 48 #[v,u] w fun e w'=>∃ r,e= .returned r∧RIs w' r (q+p)∧Below w.heap.size w w':=by
 obtain⟨a,n,b,c,m,d,rfl⟩:=hv.parts
 obtain⟨a',n',b',c',m',d',rfl⟩:=hu.parts
 have HB1:Hid (BlkC 37 (r3W w a n b c m d a' n' b' c' m' d').drew w.heap.size [.slice a n n,.bool b,.slice c m m,.bool d]):=r3W_1 w a n b c m d a' n' b' c' m' d'
 have HB2:Hid (BlkC 37 (r3W w a n b c m d a' n' b' c' m' d').drew (w.heap.size+1) [.slice a' n' n',.bool b',.slice c' m' m',.bool d']):=r3W_2 w a n b c m d a' n' b' c' m' d'
 have HB3:Hid (BlkC 37 (r3W w a n b c m d a' n' b' c' m' d').drew (w.heap.size+1+1) [.slice none 0 0,.bool false,.slice none 0 0,.bool false]):=r3W_3 w a n b c m d a' n' b' c' m' d'
 have HG:Hid (Own w.heap.size w (r3W w a n b c m d a' n' b' c' m' d').drew):=(r3W_g w a n b c m d a' n' b' c' m' d').drew
 have HV:=Lib.hid hv
 have HU:=Lib.hid hu
 have HQ:=Lib.hid hq
 have HP:=Lib.hid hp
 have HL1:Hid ((limbs ((q.num)*(p.den:Int)).natAbs).length≤900000):=by show _≤_;have h:=limbs_mulZ (q.num) (p.den:Int);(try simp only[Int.natAbs_natCast] at h);unfold rlen at *;omega
 have HL2:Hid ((limbs ((p.num)*(q.den:Int)).natAbs).length≤900000):=by show _≤_;have h:=limbs_mulZ (p.num) (q.den:Int);(try simp only[Int.natAbs_natCast] at h);unfold rlen at *;omega
 have HL4:Hid ((limbs ((q.den:Int)*(p.den:Int)).natAbs).length≤800000):=by show _≤_;have h:=limbs_mulZ (q.den:Int) (p.den:Int);(try simp only[Int.natAbs_natCast] at h);unfold rlen at *;omega
 have HL3:Hid ((limbs ((q.num)*(p.den:Int)+(p.num)*(q.den:Int)).natAbs).length≤800000):=by
  show _≤_
  have h1:=limbs_mulZ (q.num) (p.den:Int)
  have h2:=limbs_mulZ (p.num) (q.den:Int)
  simp only[Int.natAbs_natCast] at h1 h2
  unfold rlen at *
  have h3:=limbs_addZ (x:=(q.num)*(p.den:Int)) (y:=(p.num)*(q.den:Int)) (k:=300000) (by omega) (by omega)
  omega
 have HD:Hid ((q.den:Int)*(p.den:Int)≠0):=Int.mul_ne_zero (den_ne q) (den_ne p)
 clear hv hu hq hp
 go_enter Tryz.func48,Tryz.ntmps48
 go_wp2_with fail
 refine region_mem (s:=fun | 0=> .is (.pointer (some ⟨w.heap.size,0,none⟩)) | 1=> .z (q.num) | 2=> .q (p) | 3=> .z ((p.den:Int)) | 4=> .z ((q.num)*(p.den:Int)) | 5=> .is (.pointer (some ⟨(w.heap.size+1),0,none⟩)) | 6=> .z (p.num) | 7=> .q (q) | 8=> .z ((q.den:Int)) | 9=> .z ((p.num)*(q.den:Int)) | 10=> .z ((q.num)*(p.den:Int)+(p.num)*(q.den:Int)) | 11=> .q (q) | 12=> .z ((q.den:Int)) | 13=> .q (p) | 14=> .z ((p.den:Int)) | 15=> .z ((q.den:Int)*(p.den:Int)) | 16=> .q (q+p) | 17=> .any | _=> .any) (J:=MM w.heap.size w w [(37,w.heap.size,[.slice a n n,.bool b,.slice c m m,.bool d]),(37,(w.heap.size+1),[.slice a' n' n',.bool b',.slice c' m' m',.bool d'])] [tgR 4 none 17 (q+p)]) (by kernel_rfl) (by kernel_rfl) rfl (fun f g a w hn h=>MM.ext (n:=18) (by simp) hn h) ?_ ?_ ?_
 ·refine⟨HG.out.b,HG.out.b |> keep_below,HG.out.size,(by intro q hq;simp only[List.mem_cons,List.not_mem_nil,or_false] at hq;rcases hq with rfl | rfl;exact HB1.out;exact HB2.out),?_,(by intro t u h1 h2 hd;simp only[List.mem_singleton] at h1 h2;subst h1;subst h2;exact absurd rfl hd)⟩
  intro t ht h
  simp only[List.mem_singleton] at ht
  subst ht
  exact⟨w.heap.size+1+1,_,rfl,by omega,HB3.out,⟨_,_,_,_,rfl⟩,by intro q hq;simp only[List.mem_cons,List.not_mem_nil,or_false] at hq;rcases hq with rfl | rfl<;>simp<;>omega⟩
 ·intro i o f A W hi hJ hf hdep hdn hcl hfr hsz
  rcases i with _ | _ | _ | _ | _ | _ | _ | _ | _ | _ | _ | _ | _ | _ | _ | _ | _ | _ | i
  all_goals (simp at hi)
  all_goals (try subst hi)
  ·have t2:=hfr 2 (by simp)
   refine par_value (v:= .pointer (some ⟨w.heap.size,0,none⟩)) (w':=W) ?_ ⟨Keep.refl _,hJ.same _ _ _ (by simp),rfl⟩
   simp[go_sem,Act.eval,t2]
  ·have t5:A.tmps.getD 5 undef= .pointer (some ⟨w.heap.size,0,none⟩):=hdep 0 _ 5 rfl (by kernel_rfl) rfl
   have hb0:BlkC 37 W w.heap.size [.slice a n n,.bool b,.slice c m m,.bool d]:=hJ.kept (37,w.heap.size,[.slice a n n,.bool b,.slice c m m,.bool d]) (by simp)
   have x00:W.cell? ⟨w.heap.size,0,none⟩=some (.slice a n n):=by rw[hb0.cell 0];rfl
   have x01:W.cell? ⟨w.heap.size,1,none⟩=some (.bool b):=by rw[hb0.cell 1];rfl
   have x02:W.cell? ⟨w.heap.size,2,none⟩=some (.slice c m m):=by rw[hb0.cell 2];rfl
   have x03:W.cell? ⟨w.heap.size,3,none⟩=some (.bool d):=by rw[hb0.cell 3];rfl
   refine par_value (v:= .agg #[.slice a n n,.bool b]) (w':=W) ?_ ⟨Keep.refl _,hJ.same _ _ _ (by simp),(r_parts (RIs.keep HV.out hJ.k)).1⟩
   simp[go_sem,Act.eval,t5,x00,x01]
  ·have t3:=hfr 3 (by simp)
   have hb1:BlkC 37 W (w.heap.size+1) [.slice a' n' n',.bool b',.slice c' m' m',.bool d']:=hJ.kept (37,(w.heap.size+1),[.slice a' n' n',.bool b',.slice c' m' m',.bool d']) (by simp)
   have x10:W.cell? ⟨(w.heap.size+1),0,none⟩=some (.slice a' n' n'):=by rw[hb1.cell 0];rfl
   have x11:W.cell? ⟨(w.heap.size+1),1,none⟩=some (.bool b'):=by rw[hb1.cell 1];rfl
   have x12:W.cell? ⟨(w.heap.size+1),2,none⟩=some (.slice c' m' m'):=by rw[hb1.cell 2];rfl
   have x13:W.cell? ⟨(w.heap.size+1),3,none⟩=some (.bool d'):=by rw[hb1.cell 3];rfl
   refine par_value (v:= .agg #[.slice a' n' n',.bool b',.slice c' m' m',.bool d']) (w':=W) ?_ ⟨Keep.refl _,hJ.same _ _ _ (by simp),RIs.keep HU.out hJ.k⟩
   simp[go_sem,Act.eval,t3,x10,x11,x12,x13]
  ·have t7:RIs W (A.tmps.getD 7 undef) (p):=hdep 2 _ 7 rfl (by kernel_rfl) rfl
   refine par_call (w':=W) (f:=40) (xs:= #[A.tmps.getD 7 undef]) (by simp[go_sem,Act.eval]) ?_
   refine (den_any p _ _ t7 (by have:=HP.out;unfold rlen at this;omega)).mono ?_
   rintro e w1 ⟨r,rfl,hr,hg1⟩
   exact⟨r,rfl,Gr.keep hg1,hJ.gr hg1.b _ _ _ (by simp),hr⟩
  ·have t6:ZIs W (A.tmps.getD 6 undef) (q.num):=hdep 1 _ 6 rfl (by kernel_rfl) rfl
   have t8:ZIs W (A.tmps.getD 8 undef) ((p.den:Int)):=hdep 3 _ 8 rfl (by kernel_rfl) rfl
   refine par_call (w':=W) (f:=39) (xs:= #[A.tmps.getD 6 undef,A.tmps.getD 8 undef]) (by simp[go_sem,Act.eval]) ?_
   refine (mulZ_any (q.num) (p.den:Int) _ _ _ t6 t8 (by have:=HQ.out;unfold rlen at this;omega) (by have:=HP.out;unfold rlen at this;rw[Int.natAbs_natCast];omega)).mono ?_
   rintro e w1 ⟨r,rfl,hr,hg1⟩
   exact⟨r,rfl,Gr.keep hg1,hJ.gr hg1.b _ _ _ (by simp),hr⟩
  ·have t3:=hfr 3 (by simp)
   refine par_value (v:= .pointer (some ⟨(w.heap.size+1),0,none⟩)) (w':=W) ?_ ⟨Keep.refl _,hJ.same _ _ _ (by simp),rfl⟩
   simp[go_sem,Act.eval,t3]
  ·have t10:A.tmps.getD 10 undef= .pointer (some ⟨(w.heap.size+1),0,none⟩):=hdep 5 _ 10 rfl (by kernel_rfl) rfl
   have hb1:BlkC 37 W (w.heap.size+1) [.slice a' n' n',.bool b',.slice c' m' m',.bool d']:=hJ.kept (37,(w.heap.size+1),[.slice a' n' n',.bool b',.slice c' m' m',.bool d']) (by simp)
   have x10:W.cell? ⟨(w.heap.size+1),0,none⟩=some (.slice a' n' n'):=by rw[hb1.cell 0];rfl
   have x11:W.cell? ⟨(w.heap.size+1),1,none⟩=some (.bool b'):=by rw[hb1.cell 1];rfl
   have x12:W.cell? ⟨(w.heap.size+1),2,none⟩=some (.slice c' m' m'):=by rw[hb1.cell 2];rfl
   have x13:W.cell? ⟨(w.heap.size+1),3,none⟩=some (.bool d'):=by rw[hb1.cell 3];rfl
   refine par_value (v:= .agg #[.slice a' n' n',.bool b']) (w':=W) ?_ ⟨Keep.refl _,hJ.same _ _ _ (by simp),(r_parts (RIs.keep HU.out hJ.k)).1⟩
   simp[go_sem,Act.eval,t10,x10,x11]
  ·have t2:=hfr 2 (by simp)
   have hb0:BlkC 37 W w.heap.size [.slice a n n,.bool b,.slice c m m,.bool d]:=hJ.kept (37,w.heap.size,[.slice a n n,.bool b,.slice c m m,.bool d]) (by simp)
   have x00:W.cell? ⟨w.heap.size,0,none⟩=some (.slice a n n):=by rw[hb0.cell 0];rfl
   have x01:W.cell? ⟨w.heap.size,1,none⟩=some (.bool b):=by rw[hb0.cell 1];rfl
   have x02:W.cell? ⟨w.heap.size,2,none⟩=some (.slice c m m):=by rw[hb0.cell 2];rfl
   have x03:W.cell? ⟨w.heap.size,3,none⟩=some (.bool d):=by rw[hb0.cell 3];rfl
   refine par_value (v:= .agg #[.slice a n n,.bool b,.slice c m m,.bool d]) (w':=W) ?_ ⟨Keep.refl _,hJ.same _ _ _ (by simp),RIs.keep HV.out hJ.k⟩
   simp[go_sem,Act.eval,t2,x00,x01,x02,x03]
  ·have t12:RIs W (A.tmps.getD 12 undef) (q):=hdep 7 _ 12 rfl (by kernel_rfl) rfl
   refine par_call (w':=W) (f:=40) (xs:= #[A.tmps.getD 12 undef]) (by simp[go_sem,Act.eval]) ?_
   refine (den_any q _ _ t12 (by have:=HQ.out;unfold rlen at this;omega)).mono ?_
   rintro e w1 ⟨r,rfl,hr,hg1⟩
   exact⟨r,rfl,Gr.keep hg1,hJ.gr hg1.b _ _ _ (by simp),hr⟩
  ·have t11:ZIs W (A.tmps.getD 11 undef) (p.num):=hdep 6 _ 11 rfl (by kernel_rfl) rfl
   have t13:ZIs W (A.tmps.getD 13 undef) ((q.den:Int)):=hdep 8 _ 13 rfl (by kernel_rfl) rfl
   refine par_call (w':=W) (f:=39) (xs:= #[A.tmps.getD 11 undef,A.tmps.getD 13 undef]) (by simp[go_sem,Act.eval]) ?_
   refine (mulZ_any (p.num) (q.den:Int) _ _ _ t11 t13 (by have:=HP.out;unfold rlen at this;omega) (by have:=HQ.out;unfold rlen at this;rw[Int.natAbs_natCast];omega)).mono ?_
   rintro e w1 ⟨r,rfl,hr,hg1⟩
   exact⟨r,rfl,Gr.keep hg1,hJ.gr hg1.b _ _ _ (by simp),hr⟩
  ·have t9:ZIs W (A.tmps.getD 9 undef) ((q.num)*(p.den:Int)):=hdep 4 _ 9 rfl (by kernel_rfl) rfl
   have t14:ZIs W (A.tmps.getD 14 undef) ((p.num)*(q.den:Int)):=hdep 9 _ 14 rfl (by kernel_rfl) rfl
   refine par_call (w':=W) (f:=87) (xs:= #[A.tmps.getD 9 undef,A.tmps.getD 14 undef]) (by simp[go_sem,Act.eval]) ?_
   refine (zAdd_any ((q.num)*(p.den:Int)) ((p.num)*(q.den:Int)) _ _ _ t9 t14 HL1.out HL2.out).mono ?_
   rintro e w1 ⟨r,rfl,hr,hg1⟩
   exact⟨r,rfl,Gr.keep hg1,hJ.gr hg1.b _ _ _ (by simp),hr⟩
  ·have t2:=hfr 2 (by simp)
   have hb0:BlkC 37 W w.heap.size [.slice a n n,.bool b,.slice c m m,.bool d]:=hJ.kept (37,w.heap.size,[.slice a n n,.bool b,.slice c m m,.bool d]) (by simp)
   have x00:W.cell? ⟨w.heap.size,0,none⟩=some (.slice a n n):=by rw[hb0.cell 0];rfl
   have x01:W.cell? ⟨w.heap.size,1,none⟩=some (.bool b):=by rw[hb0.cell 1];rfl
   have x02:W.cell? ⟨w.heap.size,2,none⟩=some (.slice c m m):=by rw[hb0.cell 2];rfl
   have x03:W.cell? ⟨w.heap.size,3,none⟩=some (.bool d):=by rw[hb0.cell 3];rfl
   refine par_value (v:= .agg #[.slice a n n,.bool b,.slice c m m,.bool d]) (w':=W) ?_ ⟨Keep.refl _,hJ.same _ _ _ (by simp),RIs.keep HV.out hJ.k⟩
   simp[go_sem,Act.eval,t2,x00,x01,x02,x03]
  ·have t16:RIs W (A.tmps.getD 16 undef) (q):=hdep 11 _ 16 rfl (by kernel_rfl) rfl
   refine par_call (w':=W) (f:=40) (xs:= #[A.tmps.getD 16 undef]) (by simp[go_sem,Act.eval]) ?_
   refine (den_any q _ _ t16 (by have:=HQ.out;unfold rlen at this;omega)).mono ?_
   rintro e w1 ⟨r,rfl,hr,hg1⟩
   exact⟨r,rfl,Gr.keep hg1,hJ.gr hg1.b _ _ _ (by simp),hr⟩
  ·have t3:=hfr 3 (by simp)
   have hb1:BlkC 37 W (w.heap.size+1) [.slice a' n' n',.bool b',.slice c' m' m',.bool d']:=hJ.kept (37,(w.heap.size+1),[.slice a' n' n',.bool b',.slice c' m' m',.bool d']) (by simp)
   have x10:W.cell? ⟨(w.heap.size+1),0,none⟩=some (.slice a' n' n'):=by rw[hb1.cell 0];rfl
   have x11:W.cell? ⟨(w.heap.size+1),1,none⟩=some (.bool b'):=by rw[hb1.cell 1];rfl
   have x12:W.cell? ⟨(w.heap.size+1),2,none⟩=some (.slice c' m' m'):=by rw[hb1.cell 2];rfl
   have x13:W.cell? ⟨(w.heap.size+1),3,none⟩=some (.bool d'):=by rw[hb1.cell 3];rfl
   refine par_value (v:= .agg #[.slice a' n' n',.bool b',.slice c' m' m',.bool d']) (w':=W) ?_ ⟨Keep.refl _,hJ.same _ _ _ (by simp),RIs.keep HU.out hJ.k⟩
   simp[go_sem,Act.eval,t3,x10,x11,x12,x13]
  ·have t18:RIs W (A.tmps.getD 18 undef) (p):=hdep 13 _ 18 rfl (by kernel_rfl) rfl
   refine par_call (w':=W) (f:=40) (xs:= #[A.tmps.getD 18 undef]) (by simp[go_sem,Act.eval]) ?_
   refine (den_any p _ _ t18 (by have:=HP.out;unfold rlen at this;omega)).mono ?_
   rintro e w1 ⟨r,rfl,hr,hg1⟩
   exact⟨r,rfl,Gr.keep hg1,hJ.gr hg1.b _ _ _ (by simp),hr⟩
  ·have t17:ZIs W (A.tmps.getD 17 undef) ((q.den:Int)):=hdep 12 _ 17 rfl (by kernel_rfl) rfl
   have t19:ZIs W (A.tmps.getD 19 undef) ((p.den:Int)):=hdep 14 _ 19 rfl (by kernel_rfl) rfl
   refine par_call (w':=W) (f:=39) (xs:= #[A.tmps.getD 17 undef,A.tmps.getD 19 undef]) (by simp[go_sem,Act.eval]) ?_
   refine (mulZ_any (q.den:Int) (p.den:Int) _ _ _ t17 t19 (by have:=HQ.out;unfold rlen at this;rw[Int.natAbs_natCast];omega) (by have:=HP.out;unfold rlen at this;rw[Int.natAbs_natCast];omega)).mono ?_
   rintro e w1 ⟨r,rfl,hr,hg1⟩
   exact⟨r,rfl,Gr.keep hg1,hJ.gr hg1.b _ _ _ (by simp),hr⟩
  ·have t15:ZIs W (A.tmps.getD 15 undef) ((q.num)*(p.den:Int)+(p.num)*(q.den:Int)):=hdep 10 _ 15 rfl (by kernel_rfl) rfl
   have t20:ZIs W (A.tmps.getD 20 undef) ((q.den:Int)*(p.den:Int)):=hdep 15 _ 20 rfl (by kernel_rfl) rfl
   refine par_call (w':=W) (f:=47) (xs:= #[A.tmps.getD 15 undef,A.tmps.getD 20 undef]) (by simp[go_sem,Act.eval]) ?_
   refine (lowest_any ((q.num)*(p.den:Int)+(p.num)*(q.den:Int)) ((q.den:Int)*(p.den:Int)) _ _ _ t15 t20 HL3.out HL4.out HD.out).mono ?_
   rintro e w1 ⟨r,rfl,hr0,hg1⟩
   have hr:RIs w1 r (q+p):=by have h:=hr0;rwa [add_frac] at h
   exact⟨r,rfl,keep_below hg1,hJ.gr hg1 _ _ _ (by simp),hr⟩
  ·have t21:RIs W (A.tmps.getD 21 undef) (q+p):=hdep 16 _ 21 rfl (by kernel_rfl) rfl
   obtain⟨g9,cs9,hp9,hb9,hk9⟩:=hJ.ahead (t0:=tgR 4 none 17 (q+p)) (by simp) (fun j hj=>by cases hj) hf
   obtain⟨y0,y1,y2,y3,rfl⟩:=hk9
   obtain⟨a8,n8,b8,a7,n7,b7,e8⟩:=t21.parts
   have hv8:=t21
   rw[e8] at hv8
   obtain⟨c0,c1,c2,c3⟩:=blk4 hb9
   obtain⟨f0,f1,f2,f3,l0⟩:=blk4f hb9
   obtain⟨k1,k2,k3⟩:=set4_all (T:=37) hb9 (by decide) (.slice a8 n8 n8) (.bool b8) (.slice a7 n7 n7) (.bool b7)
   refine par_skip ?_ ⟨k2,hJ.put 17 undef (by simp) (fun j hj=>by cases hj) rfl hp9 k1 k2 k3 (rc_of (hv8.keep k2)) (by simp) (by simp),trivial⟩
   simp[go_sem,Act.eval,hp9,e8,c0,c1,c2,c3,f0,f1,f2,f3]
 ·intro vs W hJ hs
  obtain⟨gA,csA,pA,_,bA,kA,_⟩:=hJ.at' (tgR 4 none 17 (q+p)) (by simp) (fun j hj=>by cases hj)
  have eA:gA=w.heap.size+1+1:=ptr_eq (by simpa[putAll,Act.put] using pA)
  subst eA
  have kA':RC W csA (q+p):=kA
  obtain⟨a9,n9,b9,c9,m9,d9,rfl⟩:=rc_parts kA'
  have HB9:Hid (BlkC 37 W (w.heap.size+1+1) [.slice a9 n9 n9,.bool b9,.slice c9 m9 m9,.bool d9]):=bA
  have HR9:Hid (RIs W (.agg #[.slice a9 n9 n9,.bool b9,.slice c9 m9 m9,.bool d9]) (q+p)):=⟨_,rfl,kA'⟩
  have HL9:Hid (Below w.heap.size w W):=hJ.b
  clear pA bA kA kA' hJ hs
  simp only[putAll,List.foldl_cons,List.foldl_nil,Act.put,List.setIfInBounds_toArray,List.set_cons_succ,List.set_cons_zero]
  go_wp2_with fail
  exact r_ret rfl rfl rfl HB9.out ⟨_,rfl,HR9.out,HL9.out⟩
set_option maxHeartbeats 8000000 in
set_option maxRecDepth 100000 in
theorem rmul_any (q p:Rat) (v u:Value) (w:World) (hv:RIs w v q) (hu:RIs w u p) (hq:rlen q≤100000) (hp:rlen p≤100000) :
  Calls Tryz.prog 25 #[v,u] w fun e w'=>∃ r,e= .returned r∧RIs w' r (q*p)∧Below w.heap.size w w':=by
 obtain⟨a,n,b,c,m,d,rfl⟩:=hv.parts
 obtain⟨a',n',b',c',m',d',rfl⟩:=hu.parts
 have HB1:Hid (BlkC 37 (r3W w a n b c m d a' n' b' c' m' d').drew w.heap.size [.slice a n n,.bool b,.slice c m m,.bool d]):=r3W_1 w a n b c m d a' n' b' c' m' d'
 have HB2:Hid (BlkC 37 (r3W w a n b c m d a' n' b' c' m' d').drew (w.heap.size+1) [.slice a' n' n',.bool b',.slice c' m' m',.bool d']):=r3W_2 w a n b c m d a' n' b' c' m' d'
 have HB3:Hid (BlkC 37 (r3W w a n b c m d a' n' b' c' m' d').drew (w.heap.size+1+1) [.slice none 0 0,.bool false,.slice none 0 0,.bool false]):=r3W_3 w a n b c m d a' n' b' c' m' d'
 have HG:Hid (Own w.heap.size w (r3W w a n b c m d a' n' b' c' m' d').drew):=(r3W_g w a n b c m d a' n' b' c' m' d').drew
 have HV:=Lib.hid hv
 have HU:=Lib.hid hu
 have HQ:=Lib.hid hq
 have HP:=Lib.hid hp
 have HL1:Hid ((limbs ((q.num)*(p.num)).natAbs).length≤800000):=by show _≤_;have h:=limbs_mulZ (q.num) (p.num);(try simp only[Int.natAbs_natCast] at h);unfold rlen at *;omega
 have HL4:Hid ((limbs ((q.den:Int)*(p.den:Int)).natAbs).length≤800000):=by show _≤_;have h:=limbs_mulZ (q.den:Int) (p.den:Int);(try simp only[Int.natAbs_natCast] at h);unfold rlen at *;omega
 have HD:Hid ((q.den:Int)*(p.den:Int)≠0):=Int.mul_ne_zero (den_ne q) (den_ne p)
 clear hv hu hq hp
 go_enter Tryz.func25,Tryz.ntmps25
 go_wp2_with fail
 refine region_mem (s:=fun | 0=> .is (.pointer (some ⟨w.heap.size,0,none⟩)) | 1=> .z (q.num) | 2=> .is (.pointer (some ⟨(w.heap.size+1),0,none⟩)) | 3=> .z (p.num) | 4=> .z ((q.num)*(p.num)) | 5=> .q (q) | 6=> .z ((q.den:Int)) | 7=> .q (p) | 8=> .z ((p.den:Int)) | 9=> .z ((q.den:Int)*(p.den:Int)) | 10=> .q (q*p) | 11=> .any | _=> .any) (J:=MM w.heap.size w w [(37,w.heap.size,[.slice a n n,.bool b,.slice c m m,.bool d]),(37,(w.heap.size+1),[.slice a' n' n',.bool b',.slice c' m' m',.bool d'])] [tgR 4 none 11 (q*p)]) (by kernel_rfl) (by kernel_rfl) rfl (fun f g a w hn h=>MM.ext (n:=12) (by simp) hn h) ?_ ?_ ?_
 ·refine⟨HG.out.b,HG.out.b |> keep_below,HG.out.size,(by intro q hq;simp only[List.mem_cons,List.not_mem_nil,or_false] at hq;rcases hq with rfl | rfl;exact HB1.out;exact HB2.out),?_,(by intro t u h1 h2 hd;simp only[List.mem_singleton] at h1 h2;subst h1;subst h2;exact absurd rfl hd)⟩
  intro t ht h
  simp only[List.mem_singleton] at ht
  subst ht
  exact⟨w.heap.size+1+1,_,rfl,by omega,HB3.out,⟨_,_,_,_,rfl⟩,by intro q hq;simp only[List.mem_cons,List.not_mem_nil,or_false] at hq;rcases hq with rfl | rfl<;>simp<;>omega⟩
 ·intro i o f A W hi hJ hf hdep hdn hcl hfr hsz
  rcases i with _ | _ | _ | _ | _ | _ | _ | _ | _ | _ | _ | _ | i
  all_goals (simp at hi)
  all_goals (try subst hi)
  ·have t2:=hfr 2 (by simp)
   refine par_value (v:= .pointer (some ⟨w.heap.size,0,none⟩)) (w':=W) ?_ ⟨Keep.refl _,hJ.same _ _ _ (by simp),rfl⟩
   simp[go_sem,Act.eval,t2]
  ·have t5:A.tmps.getD 5 undef= .pointer (some ⟨w.heap.size,0,none⟩):=hdep 0 _ 5 rfl (by kernel_rfl) rfl
   have hb0:BlkC 37 W w.heap.size [.slice a n n,.bool b,.slice c m m,.bool d]:=hJ.kept (37,w.heap.size,[.slice a n n,.bool b,.slice c m m,.bool d]) (by simp)
   have x00:W.cell? ⟨w.heap.size,0,none⟩=some (.slice a n n):=by rw[hb0.cell 0];rfl
   have x01:W.cell? ⟨w.heap.size,1,none⟩=some (.bool b):=by rw[hb0.cell 1];rfl
   have x02:W.cell? ⟨w.heap.size,2,none⟩=some (.slice c m m):=by rw[hb0.cell 2];rfl
   have x03:W.cell? ⟨w.heap.size,3,none⟩=some (.bool d):=by rw[hb0.cell 3];rfl
   refine par_value (v:= .agg #[.slice a n n,.bool b]) (w':=W) ?_ ⟨Keep.refl _,hJ.same _ _ _ (by simp),(r_parts (RIs.keep HV.out hJ.k)).1⟩
   simp[go_sem,Act.eval,t5,x00,x01]
  ·have t3:=hfr 3 (by simp)
   refine par_value (v:= .pointer (some ⟨(w.heap.size+1),0,none⟩)) (w':=W) ?_ ⟨Keep.refl _,hJ.same _ _ _ (by simp),rfl⟩
   simp[go_sem,Act.eval,t3]
  ·have t7:A.tmps.getD 7 undef= .pointer (some ⟨(w.heap.size+1),0,none⟩):=hdep 2 _ 7 rfl (by kernel_rfl) rfl
   have hb1:BlkC 37 W (w.heap.size+1) [.slice a' n' n',.bool b',.slice c' m' m',.bool d']:=hJ.kept (37,(w.heap.size+1),[.slice a' n' n',.bool b',.slice c' m' m',.bool d']) (by simp)
   have x10:W.cell? ⟨(w.heap.size+1),0,none⟩=some (.slice a' n' n'):=by rw[hb1.cell 0];rfl
   have x11:W.cell? ⟨(w.heap.size+1),1,none⟩=some (.bool b'):=by rw[hb1.cell 1];rfl
   have x12:W.cell? ⟨(w.heap.size+1),2,none⟩=some (.slice c' m' m'):=by rw[hb1.cell 2];rfl
   have x13:W.cell? ⟨(w.heap.size+1),3,none⟩=some (.bool d'):=by rw[hb1.cell 3];rfl
   refine par_value (v:= .agg #[.slice a' n' n',.bool b']) (w':=W) ?_ ⟨Keep.refl _,hJ.same _ _ _ (by simp),(r_parts (RIs.keep HU.out hJ.k)).1⟩
   simp[go_sem,Act.eval,t7,x10,x11]
  ·have t6:ZIs W (A.tmps.getD 6 undef) (q.num):=hdep 1 _ 6 rfl (by kernel_rfl) rfl
   have t8:ZIs W (A.tmps.getD 8 undef) (p.num):=hdep 3 _ 8 rfl (by kernel_rfl) rfl
   refine par_call (w':=W) (f:=39) (xs:= #[A.tmps.getD 6 undef,A.tmps.getD 8 undef]) (by simp[go_sem,Act.eval]) ?_
   refine (mulZ_any (q.num) (p.num) _ _ _ t6 t8 (by have:=HQ.out;unfold rlen at this;omega) (by have:=HP.out;unfold rlen at this;omega)).mono ?_
   rintro e w1 ⟨r,rfl,hr,hg1⟩
   exact⟨r,rfl,Gr.keep hg1,hJ.gr hg1.b _ _ _ (by simp),hr⟩
  ·have t2:=hfr 2 (by simp)
   have hb0:BlkC 37 W w.heap.size [.slice a n n,.bool b,.slice c m m,.bool d]:=hJ.kept (37,w.heap.size,[.slice a n n,.bool b,.slice c m m,.bool d]) (by simp)
   have x00:W.cell? ⟨w.heap.size,0,none⟩=some (.slice a n n):=by rw[hb0.cell 0];rfl
   have x01:W.cell? ⟨w.heap.size,1,none⟩=some (.bool b):=by rw[hb0.cell 1];rfl
   have x02:W.cell? ⟨w.heap.size,2,none⟩=some (.slice c m m):=by rw[hb0.cell 2];rfl
   have x03:W.cell? ⟨w.heap.size,3,none⟩=some (.bool d):=by rw[hb0.cell 3];rfl
   refine par_value (v:= .agg #[.slice a n n,.bool b,.slice c m m,.bool d]) (w':=W) ?_ ⟨Keep.refl _,hJ.same _ _ _ (by simp),RIs.keep HV.out hJ.k⟩
   simp[go_sem,Act.eval,t2,x00,x01,x02,x03]
  ·have t10:RIs W (A.tmps.getD 10 undef) (q):=hdep 5 _ 10 rfl (by kernel_rfl) rfl
   refine par_call (w':=W) (f:=40) (xs:= #[A.tmps.getD 10 undef]) (by simp[go_sem,Act.eval]) ?_
   refine (den_any q _ _ t10 (by have:=HQ.out;unfold rlen at this;omega)).mono ?_
   rintro e w1 ⟨r,rfl,hr,hg1⟩
   exact⟨r,rfl,Gr.keep hg1,hJ.gr hg1.b _ _ _ (by simp),hr⟩
  ·have t3:=hfr 3 (by simp)
   have hb1:BlkC 37 W (w.heap.size+1) [.slice a' n' n',.bool b',.slice c' m' m',.bool d']:=hJ.kept (37,(w.heap.size+1),[.slice a' n' n',.bool b',.slice c' m' m',.bool d']) (by simp)
   have x10:W.cell? ⟨(w.heap.size+1),0,none⟩=some (.slice a' n' n'):=by rw[hb1.cell 0];rfl
   have x11:W.cell? ⟨(w.heap.size+1),1,none⟩=some (.bool b'):=by rw[hb1.cell 1];rfl
   have x12:W.cell? ⟨(w.heap.size+1),2,none⟩=some (.slice c' m' m'):=by rw[hb1.cell 2];rfl
   have x13:W.cell? ⟨(w.heap.size+1),3,none⟩=some (.bool d'):=by rw[hb1.cell 3];rfl
   refine par_value (v:= .agg #[.slice a' n' n',.bool b',.slice c' m' m',.bool d']) (w':=W) ?_ ⟨Keep.refl _,hJ.same _ _ _ (by simp),RIs.keep HU.out hJ.k⟩
   simp[go_sem,Act.eval,t3,x10,x11,x12,x13]
  ·have t12:RIs W (A.tmps.getD 12 undef) (p):=hdep 7 _ 12 rfl (by kernel_rfl) rfl
   refine par_call (w':=W) (f:=40) (xs:= #[A.tmps.getD 12 undef]) (by simp[go_sem,Act.eval]) ?_
   refine (den_any p _ _ t12 (by have:=HP.out;unfold rlen at this;omega)).mono ?_
   rintro e w1 ⟨r,rfl,hr,hg1⟩
   exact⟨r,rfl,Gr.keep hg1,hJ.gr hg1.b _ _ _ (by simp),hr⟩
  ·have t11:ZIs W (A.tmps.getD 11 undef) ((q.den:Int)):=hdep 6 _ 11 rfl (by kernel_rfl) rfl
   have t13:ZIs W (A.tmps.getD 13 undef) ((p.den:Int)):=hdep 8 _ 13 rfl (by kernel_rfl) rfl
   refine par_call (w':=W) (f:=39) (xs:= #[A.tmps.getD 11 undef,A.tmps.getD 13 undef]) (by simp[go_sem,Act.eval]) ?_
   refine (mulZ_any (q.den:Int) (p.den:Int) _ _ _ t11 t13 (by have:=HQ.out;unfold rlen at this;rw[Int.natAbs_natCast];omega) (by have:=HP.out;unfold rlen at this;rw[Int.natAbs_natCast];omega)).mono ?_
   rintro e w1 ⟨r,rfl,hr,hg1⟩
   exact⟨r,rfl,Gr.keep hg1,hJ.gr hg1.b _ _ _ (by simp),hr⟩
  ·have t9:ZIs W (A.tmps.getD 9 undef) ((q.num)*(p.num)):=hdep 4 _ 9 rfl (by kernel_rfl) rfl
   have t14:ZIs W (A.tmps.getD 14 undef) ((q.den:Int)*(p.den:Int)):=hdep 9 _ 14 rfl (by kernel_rfl) rfl
   refine par_call (w':=W) (f:=47) (xs:= #[A.tmps.getD 9 undef,A.tmps.getD 14 undef]) (by simp[go_sem,Act.eval]) ?_
   refine (lowest_any ((q.num)*(p.num)) ((q.den:Int)*(p.den:Int)) _ _ _ t9 t14 HL1.out HL4.out HD.out).mono ?_
   rintro e w1 ⟨r,rfl,hr0,hg1⟩
   have hr:RIs w1 r (q*p):=by have h:=hr0;rwa [mul_frac] at h
   exact⟨r,rfl,keep_below hg1,hJ.gr hg1 _ _ _ (by simp),hr⟩
  ·have t15:RIs W (A.tmps.getD 15 undef) (q*p):=hdep 10 _ 15 rfl (by kernel_rfl) rfl
   obtain⟨g9,cs9,hp9,hb9,hk9⟩:=hJ.ahead (t0:=tgR 4 none 11 (q*p)) (by simp) (fun j hj=>by cases hj) hf
   obtain⟨y0,y1,y2,y3,rfl⟩:=hk9
   obtain⟨a8,n8,b8,a7,n7,b7,e8⟩:=t15.parts
   have hv8:=t15
   rw[e8] at hv8
   obtain⟨c0,c1,c2,c3⟩:=blk4 hb9
   obtain⟨f0,f1,f2,f3,l0⟩:=blk4f hb9
   obtain⟨k1,k2,k3⟩:=set4_all (T:=37) hb9 (by decide) (.slice a8 n8 n8) (.bool b8) (.slice a7 n7 n7) (.bool b7)
   refine par_skip ?_ ⟨k2,hJ.put 11 undef (by simp) (fun j hj=>by cases hj) rfl hp9 k1 k2 k3 (rc_of (hv8.keep k2)) (by simp) (by simp),trivial⟩
   simp[go_sem,Act.eval,hp9,e8,c0,c1,c2,c3,f0,f1,f2,f3]
 ·intro vs W hJ hs
  obtain⟨gA,csA,pA,_,bA,kA,_⟩:=hJ.at' (tgR 4 none 11 (q*p)) (by simp) (fun j hj=>by cases hj)
  have eA:gA=w.heap.size+1+1:=ptr_eq (by simpa[putAll,Act.put] using pA)
  subst eA
  have kA':RC W csA (q*p):=kA
  obtain⟨a9,n9,b9,c9,m9,d9,rfl⟩:=rc_parts kA'
  have HB9:Hid (BlkC 37 W (w.heap.size+1+1) [.slice a9 n9 n9,.bool b9,.slice c9 m9 m9,.bool d9]):=bA
  have HR9:Hid (RIs W (.agg #[.slice a9 n9 n9,.bool b9,.slice c9 m9 m9,.bool d9]) (q*p)):=⟨_,rfl,kA'⟩
  have HL9:Hid (Below w.heap.size w W):=hJ.b
  clear pA bA kA kA' hJ hs
  simp only[putAll,List.foldl_cons,List.foldl_nil,Act.put,List.setIfInBounds_toArray,List.set_cons_succ,List.set_cons_zero]
  go_wp2_with fail
  exact r_ret rfl rfl rfl HB9.out ⟨_,rfl,HR9.out,HL9.out⟩
set_option maxHeartbeats 8000000 in
set_option maxRecDepth 100000 in
theorem rsub_any (q p:Rat) (v u:Value) (w:World) (hv:RIs w v q) (hu:RIs w u p) (hq:rlen q≤100000) (hp:rlen p≤100000) :
  Calls Tryz.prog 26 #[v,u] w fun e w'=>∃ r,e= .returned r∧RIs w' r (q-p)∧Below w.heap.size w w':=by
 obtain⟨a,n,b,c,m,d,rfl⟩:=hv.parts
 obtain⟨a',n',b',c',m',d',rfl⟩:=hu.parts
 have HB1:Hid (BlkC 37 (r3W w a n b c m d a' n' b' c' m' d').drew w.heap.size [.slice a n n,.bool b,.slice c m m,.bool d]):=r3W_1 w a n b c m d a' n' b' c' m' d'
 have HB2:Hid (BlkC 37 (r3W w a n b c m d a' n' b' c' m' d').drew (w.heap.size+1) [.slice a' n' n',.bool b',.slice c' m' m',.bool d']):=r3W_2 w a n b c m d a' n' b' c' m' d'
 have HB3:Hid (BlkC 37 (r3W w a n b c m d a' n' b' c' m' d').drew (w.heap.size+1+1) [.slice none 0 0,.bool false,.slice none 0 0,.bool false]):=r3W_3 w a n b c m d a' n' b' c' m' d'
 have HG:Hid (Own w.heap.size w (r3W w a n b c m d a' n' b' c' m' d').drew):=(r3W_g w a n b c m d a' n' b' c' m' d').drew
 have HV:=Lib.hid hv
 have HU:=Lib.hid hu
 have HQ:=Lib.hid hq
 have HP:=Lib.hid hp
 clear hv hu hq hp
 go_enter Tryz.func26,Tryz.ntmps26
 go_wp2_with fail
 refine region_mem (s:=fun | 0=> .q (q) | 1=> .q (p) | 2=> .q (-p) | 3=> .q (q-p) | 4=> .any | _=> .any) (J:=MM w.heap.size w w [(37,w.heap.size,[.slice a n n,.bool b,.slice c m m,.bool d]),(37,(w.heap.size+1),[.slice a' n' n',.bool b',.slice c' m' m',.bool d'])] [tgR 4 none 4 (q-p)]) (by kernel_rfl) (by kernel_rfl) rfl (fun f g a w hn h=>MM.ext (n:=5) (by simp) hn h) ?_ ?_ ?_
 ·refine⟨HG.out.b,HG.out.b |> keep_below,HG.out.size,(by intro q hq;simp only[List.mem_cons,List.not_mem_nil,or_false] at hq;rcases hq with rfl | rfl;exact HB1.out;exact HB2.out),?_,(by intro t u h1 h2 hd;simp only[List.mem_singleton] at h1 h2;subst h1;subst h2;exact absurd rfl hd)⟩
  intro t ht h
  simp only[List.mem_singleton] at ht
  subst ht
  exact⟨w.heap.size+1+1,_,rfl,by omega,HB3.out,⟨_,_,_,_,rfl⟩,by intro q hq;simp only[List.mem_cons,List.not_mem_nil,or_false] at hq;rcases hq with rfl | rfl<;>simp<;>omega⟩
 ·intro i o f A W hi hJ hf hdep hdn hcl hfr hsz
  rcases i with _ | _ | _ | _ | _ | i
  all_goals (simp at hi)
  all_goals (try subst hi)
  ·have t2:=hfr 2 (by simp)
   have hb0:BlkC 37 W w.heap.size [.slice a n n,.bool b,.slice c m m,.bool d]:=hJ.kept (37,w.heap.size,[.slice a n n,.bool b,.slice c m m,.bool d]) (by simp)
   have x00:W.cell? ⟨w.heap.size,0,none⟩=some (.slice a n n):=by rw[hb0.cell 0];rfl
   have x01:W.cell? ⟨w.heap.size,1,none⟩=some (.bool b):=by rw[hb0.cell 1];rfl
   have x02:W.cell? ⟨w.heap.size,2,none⟩=some (.slice c m m):=by rw[hb0.cell 2];rfl
   have x03:W.cell? ⟨w.heap.size,3,none⟩=some (.bool d):=by rw[hb0.cell 3];rfl
   refine par_value (v:= .agg #[.slice a n n,.bool b,.slice c m m,.bool d]) (w':=W) ?_ ⟨Keep.refl _,hJ.same _ _ _ (by simp),RIs.keep HV.out hJ.k⟩
   simp[go_sem,Act.eval,t2,x00,x01,x02,x03]
  ·have t3:=hfr 3 (by simp)
   have hb1:BlkC 37 W (w.heap.size+1) [.slice a' n' n',.bool b',.slice c' m' m',.bool d']:=hJ.kept (37,(w.heap.size+1),[.slice a' n' n',.bool b',.slice c' m' m',.bool d']) (by simp)
   have x10:W.cell? ⟨(w.heap.size+1),0,none⟩=some (.slice a' n' n'):=by rw[hb1.cell 0];rfl
   have x11:W.cell? ⟨(w.heap.size+1),1,none⟩=some (.bool b'):=by rw[hb1.cell 1];rfl
   have x12:W.cell? ⟨(w.heap.size+1),2,none⟩=some (.slice c' m' m'):=by rw[hb1.cell 2];rfl
   have x13:W.cell? ⟨(w.heap.size+1),3,none⟩=some (.bool d'):=by rw[hb1.cell 3];rfl
   refine par_value (v:= .agg #[.slice a' n' n',.bool b',.slice c' m' m',.bool d']) (w':=W) ?_ ⟨Keep.refl _,hJ.same _ _ _ (by simp),RIs.keep HU.out hJ.k⟩
   simp[go_sem,Act.eval,t3,x10,x11,x12,x13]
  ·have t6:RIs W (A.tmps.getD 6 undef) (p):=hdep 1 _ 6 rfl (by kernel_rfl) rfl
   refine par_call (w':=W) (f:=49) (xs:= #[A.tmps.getD 6 undef]) (by simp[go_sem,Act.eval]) ?_
   refine (fneg_any p _ _ t6 (by have:=HP.out;unfold rlen at this;omega)).mono ?_
   rintro e w1 ⟨r,rfl,hr,hg1⟩
   exact⟨r,rfl,Gr.keep hg1,hJ.gr hg1.b _ _ _ (by simp),hr⟩
  ·have t5:RIs W (A.tmps.getD 5 undef) (q):=hdep 0 _ 5 rfl (by kernel_rfl) rfl
   have t7:RIs W (A.tmps.getD 7 undef) (-p):=hdep 2 _ 7 rfl (by kernel_rfl) rfl
   refine par_call (w':=W) (f:=48) (xs:= #[A.tmps.getD 5 undef,A.tmps.getD 7 undef]) (by simp[go_sem,Act.eval]) ?_
   refine (add_any q (-p) _ _ _ t5 t7 HQ.out (by have:=HP.out;unfold rlen at *;simpa using this)).mono ?_
   rintro e w1 ⟨r,rfl,hr0,hg1⟩
   have hr:RIs w1 r (q-p):=by have h:=hr0;rwa [← Rat.sub_eq_add_neg] at h
   exact⟨r,rfl,keep_below hg1,hJ.gr hg1 _ _ _ (by simp),hr⟩
  ·have t8:RIs W (A.tmps.getD 8 undef) (q-p):=hdep 3 _ 8 rfl (by kernel_rfl) rfl
   obtain⟨g9,cs9,hp9,hb9,hk9⟩:=hJ.ahead (t0:=tgR 4 none 4 (q-p)) (by simp) (fun j hj=>by cases hj) hf
   obtain⟨y0,y1,y2,y3,rfl⟩:=hk9
   obtain⟨a8,n8,b8,a7,n7,b7,e8⟩:=t8.parts
   have hv8:=t8
   rw[e8] at hv8
   obtain⟨c0,c1,c2,c3⟩:=blk4 hb9
   obtain⟨f0,f1,f2,f3,l0⟩:=blk4f hb9
   obtain⟨k1,k2,k3⟩:=set4_all (T:=37) hb9 (by decide) (.slice a8 n8 n8) (.bool b8) (.slice a7 n7 n7) (.bool b7)
   refine par_skip ?_ ⟨k2,hJ.put 4 undef (by simp) (fun j hj=>by cases hj) rfl hp9 k1 k2 k3 (rc_of (hv8.keep k2)) (by simp) (by simp),trivial⟩
   simp[go_sem,Act.eval,hp9,e8,c0,c1,c2,c3,f0,f1,f2,f3]
 ·intro vs W hJ hs
  obtain⟨gA,csA,pA,_,bA,kA,_⟩:=hJ.at' (tgR 4 none 4 (q-p)) (by simp) (fun j hj=>by cases hj)
  have eA:gA=w.heap.size+1+1:=ptr_eq (by simpa[putAll,Act.put] using pA)
  subst eA
  have kA':RC W csA (q-p):=kA
  obtain⟨a9,n9,b9,c9,m9,d9,rfl⟩:=rc_parts kA'
  have HB9:Hid (BlkC 37 W (w.heap.size+1+1) [.slice a9 n9 n9,.bool b9,.slice c9 m9 m9,.bool d9]):=bA
  have HR9:Hid (RIs W (.agg #[.slice a9 n9 n9,.bool b9,.slice c9 m9 m9,.bool d9]) (q-p)):=⟨_,rfl,kA'⟩
  have HL9:Hid (Below w.heap.size w W):=hJ.b
  clear pA bA kA kA' hJ hs
  simp only[putAll,List.foldl_cons,List.foldl_nil,Act.put,List.setIfInBounds_toArray,List.set_cons_succ,List.set_cons_zero]
  go_wp2_with fail
  exact r_ret rfl rfl rfl HB9.out ⟨_,rfl,HR9.out,HL9.out⟩
end Go.Proofs.YtmagoiniahpofaaGreat
namespace Go.Proofs.YtmagoiniahpofaaGreat
open Go Go.RowKit
set_option maxHeartbeats 8000000 in
set_option maxRecDepth 100000 in
theorem make_any (x y:Int) (v u:Value) (w:World) (hv:ZIs w v x) (hu:ZIs w u y) (hx:(limbs x.natAbs).length≤800000) (hy:(limbs y.natAbs).length≤800000) (hd0:y≠0) :
  Calls Tryz.prog 51 #[v,u] w fun e w'=>∃ r,e= .returned (.tuple #[r,.int .i64 0])∧RIs w' r (Rat.divInt x y)∧Below w.heap.size w w':=by
 obtain⟨a,n,b,rfl⟩:=hv.parts
 obtain⟨c,m,d,rfl⟩:=hu.parts
 have HB1:=Lib.hid (lowW_1 w a n b c m d)
 have HB2:=Lib.hid (lowW_2 w a n b c m d)
 have HB3:=Lib.hid (lowW_3 w a n b c m d)
 have HG:=Lib.hid (lowW_g w a n b c m d)
 have HX:=Lib.hid (hv.keep (keep_below HG.out))
 have HY:=Lib.hid (hu.keep (keep_below HG.out))
 have HXL:=Lib.hid hx
 have HYL:=Lib.hid hy
 have HD0:=Lib.hid hd0
 obtain⟨x0,x1,x2,x3,x4⟩:=blk2 HB1.out
 obtain⟨y0,y1,y2,y3,y4⟩:=blk2 HB2.out
 clear hv hu hx hy hd0
 go_enter Tryz.func51,Tryz.ntmps51
 go_wp2_with fail
 refine (sign_any y _ _ HY.out (by have:=HYL.out;omega)).mono ?_
 rintro e w1 ⟨rfl,hg1⟩
 have hs:=signZ_ne HD0.out
 have gr:=Gr.grown hg1
 have HC1:=Lib.hid (HB1.out.still gr)
 have HC2:=Lib.hid (HB2.out.still gr)
 have HC3:=Lib.hid (HB3.out.still gr)
 have HX1:=Lib.hid (Gr.zIs hg1 HX.out)
 have HY1:=Lib.hid (Gr.zIs hg1 HY.out)
 have HG1:Hid (Below w.heap.size w w1):=HG.out.trans (hg1.b.mono HG.out.size)
 clear x0 x1 x2 x3 x4 y0 y1 y2 y3 y4 HB1 HB2 HB3 HX HY HG hg1 gr
 obtain⟨x0,x1,x2,x3,x4⟩:=blk2 HC1.out
 obtain⟨y0,y1,y2,y3,y4⟩:=blk2 HC2.out
 go_wp2_with fail
 refine (lowest_any x y _ _ _ HX1.out HY1.out HXL.out HYL.out HD0.out).mono ?_
 rintro e w2 ⟨r,rfl,hr,hb2⟩
 obtain⟨a7,n7,b7,a8,n8,b8,rfl⟩:=hr.parts
 have HR:=Lib.hid hr
 have gr2:=grown_of_below hb2 none
 have HD3:=Lib.hid (HC3.out.still gr2)
 have HG2:Hid (Below w.heap.size w w2):=HG1.out.trans (hb2.mono HG1.out.size)
 clear x0 x1 x2 x3 x4 y0 y1 y2 y3 y4 HC1 HC2 HC3 HX1 HY1 HG1 hb2 gr2 hr hs
 obtain⟨i0,i1,i2,i3⟩:=blk4 HD3.out
 obtain⟨j0,j1,j2,j3,j4⟩:=blk4f HD3.out
 go_wp2_with fail
 obtain⟨s1,s2⟩:=r_shut HR.out HD3.out (by decide)
 exact blk_ret2 (T:=37) rfl (by kernel_rfl) rfl rfl s1 ⟨_,rfl,s2,below_set4 HG2.out (by omega) _ _ _ _⟩
theorem limbs_i64 {n:Int} (h0 : -9223372036854775808≤n) (h1:n≤9223372036854775807):(limbs n.natAbs).length≤2:=by
 rw[limbs_len]
 have:(4294967296:Nat) ^ 2=18446744073709551616:=by decide
 omega
set_option maxHeartbeats 8000000 in
set_option maxRecDepth 100000 in
theorem of_any (x y:Int) (w:World) (hx0 : -9223372036854775808≤x) (hx1:x≤9223372036854775807) (hy0 : -9223372036854775808≤y) (hy1:y≤9223372036854775807) (hd0:y≠0) :
  Calls Tryz.prog 33 #[.int .i64 x,.int .i64 y] w fun e w'=>∃ r,e= .returned (.tuple #[r,.int .i64 0])∧RIs w' r (Rat.divInt x y)∧Below w.heap.size w w':=by
 have HB:Hid (BlkC 37 (w.alloc (.cells #[.slice none 0 0,.bool false,.slice none 0 0,.bool false] 37)) w.heap.size [.slice none 0 0,.bool false,.slice none 0 0,.bool false]):=BlkC.new _ w [.slice none 0 0,.bool false,.slice none 0 0,.bool false]
 have HG:Hid (Own w.heap.size w (w.alloc (.cells #[.slice none 0 0,.bool false,.slice none 0 0,.bool false] 37))):=own_alloc _ _
 have HXL:=Lib.hid (limbs_i64 hx0 hx1)
 have HYL:=Lib.hid (limbs_i64 hy0 hy1)
 have HD0:=Lib.hid hd0
 have HI:=Lib.hid (And.intro (And.intro hx0 hx1) (And.intro hy0 hy1))
 clear hx0 hx1 hy0 hy1 hd0
 go_enter Tryz.func33,Tryz.ntmps33
 go_wp2_with fail
 refine (zedOf_any x _ HI.out.1.1 HI.out.1.2).mono ?_
 rintro e w1 ⟨v1,rfl,hv1,hg1⟩
 have HV1:=Lib.hid hv1
 have HB1:=Lib.hid (HB.out.still (Gr.grown hg1))
 have HG1:=Lib.hid (HG.out.call HG.out.size hg1)
 clear hv1 hg1 HB HG
 obtain⟨a,n,b,rfl⟩:=HV1.out.parts
 go_wp2_with fail
 refine (zedOf_any y _ HI.out.2.1 HI.out.2.2).mono ?_
 rintro e w2 ⟨v2,rfl,hv2,hg2⟩
 have HV2:=Lib.hid hv2
 have HU2:=Lib.hid (Gr.zIs hg2 HV1.out)
 have HB2:=Lib.hid (HB1.out.still (Gr.grown hg2))
 have HG2:=Lib.hid (HG1.out.call HG1.out.size hg2)
 clear hv2 hg2 HB1 HG1 HV1
 obtain⟨c,m,d,rfl⟩:=HV2.out.parts
 go_wp2_with fail
 refine (make_any x y _ _ _ HU2.out HV2.out (by have:=HXL.out;omega) (by have:=HYL.out;omega) HD0.out).mono ?_
 rintro e w3 ⟨r,rfl,hr,hb3⟩
 obtain⟨a7,n7,b7,a8,n8,b8,rfl⟩:=hr.parts
 have HR:=Lib.hid hr
 have HB3:=Lib.hid (HB2.out.still (grown_of_below hb3 none))
 have HG3:Hid (Below w.heap.size w w3):=HG2.out.b.trans (hb3.mono HG2.out.size)
 clear hr hb3 HB2 HG2
 obtain⟨i0,i1,i2,i3⟩:=blk4 HB3.out
 obtain⟨j0,j1,j2,j3,j4⟩:=blk4f HB3.out
 go_wp2_with fail
 obtain⟨s1,s2⟩:=r_shut HR.out HB3.out (by decide)
 exact blk_ret2 (T:=37) rfl (by kernel_rfl) rfl rfl s1 ⟨_,rfl,s2,below_set4 HG3.out (by omega) _ _ _ _⟩
def bestR (lt:Rat→Rat→Bool):List Rat→Rat
 |[]=>0
 |x::r=>r.foldl (fun o y=>if lt y o then y else o) x
theorem bestR_succ (lt:Rat→Rat→Bool) (l:List Rat) (i:Nat) (q:Rat) (h:l[i]? =some q):bestR lt (l.take (i+1))=if i=0 then q else if lt q (bestR lt (l.take i)) then q else bestR lt (l.take i):=by
 have e:l.take (i+1)=l.take i++[q]:=by rw[List.take_add_one,h];rfl
 rw[e]
 by_cases h0:i=0
 ·subst h0;simp[bestR]
 ·rw[if_neg h0]
  cases hl:l.take i with
  |nil=>
   have hlen:=(List.getElem?_eq_some_iff.1 h).1
   have h2:=congrArg List.length hl
   rw[List.length_take,List.length_nil] at h2
   omega
  |cons x r=>
   simp only[bestR,List.cons_append,List.foldl_append,List.foldl_cons,List.foldl_nil]
   rfl
section
variable (w:World)
end
end Go.Proofs.YtmagoiniahpofaaGreat
namespace Go.Proofs.YtmagoiniahpofaaGreat
open Go Go.RowKit
section
variable {T:TypeId} {w:World} {g:Nat} {x0 x1 x2 x3 x4 x5 x6 x7 c0 c1 c2 c3 c4 c5 c6 c7:Value}
end
section
variable (w:World) (x y:Int)
end
end Go.Proofs.YtmagoiniahpofaaGreat
namespace Go.Proofs.YtmagoiniahpofaaGreat
open Go Go.RowKit
theorem rlen_divInt {x y:Int} {k:Nat} (hy:y≠0) (h1:(limbs x.natAbs).length≤k) (h2:(limbs y.natAbs).length≤k):rlen (Rat.divInt x y)≤k+k:=by
 obtain⟨e1,e2⟩:=low_num x y _ rfl hy
 have b1:(Rat.divInt x y).num.natAbs≤x.natAbs:=by
  rw[e1]
  have:=Int.natAbs_ediv_le_natAbs x (Nat.gcd x.natAbs y.natAbs)
  split
  ·rw[Int.natAbs_neg];exact this
  ·exact this
 have b2:(Rat.divInt x y).den≤y.natAbs:=by
  have h:=congrArg Int.natAbs e2
  rw[Int.natAbs_natCast] at h
  rw[h]
  have:=Int.natAbs_ediv_le_natAbs y (Nat.gcd x.natAbs y.natAbs)
  split
  ·rw[Int.natAbs_neg];exact this
  ·exact this
 have:=limbs_mono b1
 have:=limbs_mono b2
 unfold rlen
 omega
theorem rl_divInt {x y:Int} {k:Nat} (hy:y≠0) (h1:(limbs x.natAbs).length≤k) (h2:(limbs y.natAbs).length≤k):rl (Rat.divInt x y)≤k:=by
 obtain⟨e1,e2⟩:=low_num x y _ rfl hy
 have b1:(Rat.divInt x y).num.natAbs≤x.natAbs:=by
  rw[e1]
  have:=Int.natAbs_ediv_le_natAbs x (Nat.gcd x.natAbs y.natAbs)
  split
  ·rw[Int.natAbs_neg];exact this
  ·exact this
 have b2:(Rat.divInt x y).den≤y.natAbs:=by
  have h:=congrArg Int.natAbs e2
  rw[Int.natAbs_natCast] at h
  rw[h]
  have:=Int.natAbs_ediv_le_natAbs y (Nat.gcd x.natAbs y.natAbs)
  split
  ·rw[Int.natAbs_neg];exact this
  ·exact this
 have:=limbs_mono b1
 have:=limbs_mono b2
 unfold rl
 omega
theorem rl_mul (q p:Rat):rl (q*p)≤rl q+rl p:=by
 have h1:=limbs_mulZ q.num p.num
 have h2:=limbs_mulZ (q.den:Int) (p.den:Int)
 simp only[Int.natAbs_natCast] at h2
 have e:q*p=Rat.divInt (q.num*p.num) ((q.den:Int)*(p.den:Int)):=(mul_frac q p).symm
 rw[e]
 exact rl_divInt (Int.mul_ne_zero (den_ne q) (den_ne p)) (by unfold rl;omega) (by unfold rl;omega)
theorem rl_div (q p:Rat) (hp:p≠0):rl (q/p)≤rl q+rl p:=by
 rw[← div_frac]
 have h1:=limbs_mulZ q.num (p.den:Int)
 have h2:=limbs_mulZ (q.den:Int) p.num
 simp only[Int.natAbs_natCast] at h1 h2
 exact rl_divInt (Int.mul_ne_zero (den_ne q) (fun e=>hp (Rat.num_eq_zero.1 e))) (by unfold rl;omega) (by unfold rl;omega)
theorem rl_add (q p:Rat):rl (q+p)≤rl q+rl p+1:=by
 rw[← add_frac]
 have h1:=limbs_mulZ q.num p.den
 have h2:=limbs_mulZ p.num q.den
 have h3:=limbs_mulZ q.den p.den
 simp only[Int.natAbs_natCast] at h1 h2 h3
 have h4:=limbs_addZ (x:=q.num*p.den) (y:=p.num*q.den) (k:=rl q+rl p) (by unfold rl;omega) (by unfold rl;omega)
 exact rl_divInt (Int.mul_ne_zero (den_ne q) (den_ne p)) h4 (by unfold rl;omega)
theorem rl_neg (p:Rat):rl (-p)=rl p:=by unfold rl;rw[Rat.neg_num,Int.natAbs_neg,Rat.neg_den]
theorem rl_sub (q p:Rat):rl (q-p)≤rl q+rl p+1:=by
 rw[Rat.sub_eq_add_neg]
 have:=rl_add q (-p)
 rwa [rl_neg] at this
theorem rl_len {x:Rat} {s:Nat} (h:rl x≤s):rlen x≤2*s:=by unfold rl at h;unfold rlen;omega
end Go.Proofs.YtmagoiniahpofaaGreat
