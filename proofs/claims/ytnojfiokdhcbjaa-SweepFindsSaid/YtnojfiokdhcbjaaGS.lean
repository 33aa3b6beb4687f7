/-
  nat.Div, nat.Gcd: the walks.
  zed: made, Of, Big, Neg, Sign, Cmp, Abs: the walks.
  zed: Neg, Sign, Cmp, Abs, Mul: the walks.
  zed: Cmp, Abs: the walks.
  zed.Add: the walk.
  zed.Sub: the walk.
-/
import Derived.Test.YtnojfiokdhcbjaaGM
namespace Go.Proofs.Ytnojfiokdhcbjaa
open Go Go.RowKit
theorem natDiv_any (x y : Nat) (v u : Value) (w : World) (hv : NatIs w v x) (hu : NatIs w u y) (hx : (limbs x).length ≤ 800000) :
  Calls Try.prog 93 #[v, u] w fun e w' => DivR x y w' e ∧ Below w.heap.size w w' := by
 by_cases h0 : y = 0
 ·subst h0
  exact natDiv_zero x v u w hv hu
 by_cases h1 : x < y
 ·exact natDiv_less x y v u w hv hu h1 (by omega)
 by_cases h2 : (limbs y).length = 1
 ·exact natDiv_one x y v u w hv hu (by omega) (by omega) h2
 ·refine natDiv_many x y v u w hv hu (by omega) hx ?_
  have : limbs y ≠ [] := fun e => h0 (limbs_nil.1 e)
  have := List.length_pos_iff.2 this
  omega
def GcdRel (w : World) (G k : Nat) (wr : World) : Prop :=
 ∃ (x y : Nat) (a b : Option Addr), y < k ∧ Nat.gcd x y = G ∧ (limbs x).length ≤ 800000 ∧ (limbs y).length ≤ 800000 ∧ Row32 wr a (limbs x) ∧ Row32 wr b (limbs y) ∧ BlkC 26 wr w.heap.size [.slice a (limbs x).length (limbs x).length] ∧
  BlkC 26 wr (w.heap.size + 1) [.slice b (limbs y).length (limbs y).length] ∧ BlkC 26 wr (w.heap.size + 1 + 1) [.slice none 0 0] ∧ Below w.heap.size w wr
set_option maxHeartbeats 4000000 in
set_option maxRecDepth 100000 in
theorem natGcd_any (x y : Nat) (v u : Value) (w : World) (hv : NatIs w v x) (hu : NatIs w u y) (hx : (limbs x).length ≤ 800000) (hy : (limbs y).length ≤ 800000) :
  Calls Try.prog 62 #[v, u] w fun e w' => ∃ r, e = .returned r ∧ NatIs w' r (Nat.gcd x y) ∧ Below w.heap.size w w' := by
 obtain ⟨a, rfl, hr⟩ := hv
 obtain ⟨b, rfl, hs⟩ := hu
 have HB1 : Hid (BlkC 26 (((w.alloc (.cells #[.slice a (limbs x).length (limbs x).length] 26)).alloc (.cells #[.slice b (limbs y).length (limbs y).length] 26)).alloc (.cells #[.slice none 0 0] 26)) w.heap.size [.slice a (limbs x).length (limbs x).length]) := ((BlkC.new _ w [.slice a (limbs x).length (limbs x).length]).still (grown_alloc _ _ none)).still (grown_alloc _ _ none)
 have HB2 : Hid (BlkC 26 (((w.alloc (.cells #[.slice a (limbs x).length (limbs x).length] 26)).alloc (.cells #[.slice b (limbs y).length (limbs y).length] 26)).alloc (.cells #[.slice none 0 0] 26)) (w.heap.size + 1) [.slice b (limbs y).length (limbs y).length]) := (blk_at (cs := [.slice b (limbs y).length (limbs y).length]) (by simp)).still (grown_alloc _ _ none)
 have HB3 : Hid (BlkC 26 (((w.alloc (.cells #[.slice a (limbs x).length (limbs x).length] 26)).alloc (.cells #[.slice b (limbs y).length (limbs y).length] 26)).alloc (.cells #[.slice none 0 0] 26)) (w.heap.size + 1 + 1) [.slice none 0 0]) := blk_at (cs := [.slice none 0 0]) (by simp)
 have HG : Hid (Own w.heap.size w (((w.alloc (.cells #[.slice a (limbs x).length (limbs x).length] 26)).alloc (.cells #[.slice b (limbs y).length (limbs y).length] 26)).alloc (.cells #[.slice none 0 0] 26))) := ((own_alloc _ _).alloc (by simp) _).alloc (by simp; omega) _
 have HR := Lib.hid (Row32.own hr HG.out)
 have HS := Lib.hid (Row32.own hs HG.out)
 obtain ⟨G, hG⟩ : ∃ G, Nat.gcd x y = G := ⟨_, rfl⟩
 have HGG := Lib.hid hG
 rw [hG]
 clear hr hs hG
 go_enter Try.func62, Try.ntmps62
 go_wp2_with fail
 go_loopg [] (y + 1) (fun k wr => Hid (GcdRel w G k wr))
 case atStart => exact ⟨x, y, a, b, by omega, HGG.out, hx, hy, HR.out, HS.out, HB1.out, HB2.out, HB3.out, HG.out.b⟩
 case round =>
  clear HB1 HB2 HB3 HG HR HS HGG
  obtain ⟨p, q, a, b, hqk, hgc, hpl, hql, hra, hrb, hb1, hb2, hb3, hbl⟩ := hrel.out
  have HGC := Lib.hid hgc
  have HP : Hid (NatIs wr (.agg #[.slice a (limbs p).length (limbs p).length]) p) := ⟨a, rfl, hra⟩
  have HQ : Hid (NatIs wr (.agg #[.slice b (limbs q).length (limbs q).length]) q) := ⟨b, rfl, hrb⟩
  have HB1 := Lib.hid hb1
  have HB2 := Lib.hid hb2
  have HB3 := Lib.hid hb3
  have HBL := Lib.hid hbl
  have HRB := Lib.hid hrb
  have HRA := Lib.hid hra
  have HPL := Lib.hid hpl
  have HQL := Lib.hid hql
  have x1 := blk_cell hb1
  have x2 := blk_cell hb2
  have x3 := blk_cell hb3
  have f1 := hb1.free 0
  have f2 := hb2.free 0
  have f3 := hb3.free 0
  have l3 := hb3.lt
  clear hrel hgc hra hrb hb1 hb2 hb3 hbl
  by_cases h0 : q = 0
  ·subst h0
   rw [limbs_zero] at x2
   simp only [List.length_nil] at x2
   have hgp : G = p := by rw [← HGC.out, Nat.gcd_zero_right]
   go_wp2_with fail
   refine nat_ret rfl rfl rfl (HB3.out.set 0 _) ⟨_, rfl, ?_, below_set HBL.out (by omega) _ _⟩
   rw [hgp]
   exact HP.out.keep (keep_set HB3.out (by decide) _)
  ·have hq0 : 0 < (limbs q).length := List.length_pos_iff.2 (fun e => h0 (limbs_nil.1 e))
   have hq1 : (0 : Int) < ((limbs q).length : Int) := by omega
   have HQ0 : Hid (0 < q) := Nat.pos_of_ne_zero h0
   clear h0
   go_wp2_with fail
   refine (natDiv_any p q _ _ _ HP.out HQ.out hpl).mono ?_
   rintro e w1 ⟨hd, hb⟩
   rcases hd with ⟨h, _⟩ | ⟨_, qv, rv, rfl, hqv, hrv⟩
   ·exact absurd h (by have := HQ0.out; omega)
   have hm : p % q < q := Nat.mod_lt _ HQ0.out
   have HRV := Lib.hid hrv
   obtain ⟨aq, rfl, hqr⟩ := hqv
   obtain ⟨ar, rfl, hrr⟩ := hrv
   have hlr := limbs_mono (Nat.le_of_lt hm)
   have HGC2 : Hid (Nat.gcd q (p % q) = G) := by
    show _ = _
    rw [← HGC.out, Nat.gcd_comm p q, Nat.gcd_rec q p, Nat.gcd_comm]
   have HC1 := Lib.hid (HB1.out.still (grown_of_below hb none))
   have HC2 := Lib.hid (HB2.out.still (grown_of_below hb none))
   have HC3 := Lib.hid (HB3.out.still (grown_of_below hb none))
   have HBL1 : Hid (Below w.heap.size w w1) := HBL.out.trans (hb.mono HBL.out.size)
   have HRB1 := Lib.hid (HRB.out.keep (keep_below hb))
   have HRR1 := Lib.hid hrr
   obtain ⟨nq, hnq⟩ : ∃ n, n = (limbs (p / q)).length := ⟨_, rfl⟩
   obtain ⟨nr, hnr⟩ : ∃ n, n = (limbs (p % q)).length := ⟨_, rfl⟩
   obtain ⟨n2, hn2⟩ : ∃ n, n = (limbs q).length := ⟨_, rfl⟩
   obtain ⟨n1, hn1⟩ : ∃ n, n = (limbs p).length := ⟨_, rfl⟩
   rw [← hnq, ← hnr]
   rw [← hn1] at HC1
   rw [← hn2] at HC2
   have x1 := blk_cell HC1.out
   have x2 := blk_cell HC2.out
   have f1 := HC1.out.free 0
   have f2 := HC2.out.free 0
   have l1 := HC1.out.lt
   have l2 := HC2.out.lt
   have HNR := Lib.hid hnr
   have HN2 := Lib.hid hn2
   have hm2 : p % q + 1 < gk := by omega
   have HLR := Lib.hid hlr
   have HE2 : Hid (BlkC 26 (w1.setCell ⟨w.heap.size, 0, none⟩ (.slice b n2 n2)) (w.heap.size + 1) [.slice b n2 n2]) := HC2.out.set_ne (by omega) 0 _
   have HF1 : Hid (BlkC 26 ((((w1.setCell ⟨w.heap.size, 0, none⟩ (.slice b n2 n2)).setCell ⟨w.heap.size + 1, 0, none⟩ (.slice ar nr nr)).alloc (.cells #[.slice aq nq nq] 26)).alloc (.cells #[.slice ar nr nr] 26)) w.heap.size [.slice b n2 n2]) := (((HC1.out.set 0 (.slice b n2 n2)).set_ne (by omega) 0 _).still (grown_alloc _ _ none)).still (grown_alloc _ _ none)
   have HF2 : Hid (BlkC 26 ((((w1.setCell ⟨w.heap.size, 0, none⟩ (.slice b n2 n2)).setCell ⟨w.heap.size + 1, 0, none⟩ (.slice ar nr nr)).alloc (.cells #[.slice aq nq nq] 26)).alloc (.cells #[.slice ar nr nr] 26)) (w.heap.size + 1) [.slice ar nr nr]) := ((HE2.out.set 0 _).still (grown_alloc _ _ none)).still (grown_alloc _ _ none)
   have HF3 : Hid (BlkC 26 ((((w1.setCell ⟨w.heap.size, 0, none⟩ (.slice b n2 n2)).setCell ⟨w.heap.size + 1, 0, none⟩ (.slice ar nr nr)).alloc (.cells #[.slice aq nq nq] 26)).alloc (.cells #[.slice ar nr nr] 26)) (w.heap.size + 1 + 1) [.slice none 0 0]) := (((HC3.out.set_ne (by omega) 0 _).set_ne (by omega) 0 _).still (grown_alloc _ _ none)).still (grown_alloc _ _ none)
   have HFK : Hid (Keep w1 ((((w1.setCell ⟨w.heap.size, 0, none⟩ (.slice b n2 n2)).setCell ⟨w.heap.size + 1, 0, none⟩ (.slice ar nr nr)).alloc (.cells #[.slice aq nq nq] 26)).alloc (.cells #[.slice ar nr nr] 26))) := (((keep_set HC1.out (by decide) _).trans (keep_set HE2.out (by decide) _)).trans (keep_grown (grown_alloc _ _ none))).trans (keep_grown (grown_alloc _ _ none))
   have HFB0 : Hid (Below w.heap.size w ((w1.setCell ⟨w.heap.size, 0, none⟩ (.slice b n2 n2)).setCell ⟨w.heap.size + 1, 0, none⟩ (.slice ar nr nr))) := below_set (below_set HBL1.out (Nat.le_refl _) 0 _) (by omega) 0 _
   have HFB : Hid (Below w.heap.size w ((((w1.setCell ⟨w.heap.size, 0, none⟩ (.slice b n2 n2)).setCell ⟨w.heap.size + 1, 0, none⟩ (.slice ar nr nr)).alloc (.cells #[.slice aq nq nq] 26)).alloc (.cells #[.slice ar nr nr] 26))) := (HFB0.out.alloc HFB0.out.size _).alloc (by have := HFB0.out.size; simp at this ⊢; omega) _
   clear hb HB1 HB2 HB3 HBL HRB HP HQ HRA hqr hrr hnq hnr hn1 hn2 HRV hlr f3 l3 x3 hm
   go_wp2_with fail
   go_region
   all_goals go_wp2_with fail
   all_goals go_roundg (gk - 1)
   case measure => omega
   case rel =>
    refine ⟨q, p % q, b, ar, by omega, HGC2.out, HQL.out, by have := HLR.out; have := HQL.out; omega, HRB1.out.keep HFK.out, HRR1.out.keep HFK.out, ?_, ?_, HF3.out, below_same HFB.out rfl rfl rfl rfl⟩
    ·rw [← HN2.out]
     exact HF1.out
    ·rw [← HNR.out]
     exact HF2.out
end Go.Proofs.Ytnojfiokdhcbjaa
namespace Go.Proofs.Ytnojfiokdhcbjaa
open Go Go.RowKit
def ZC (w : World) (cs : List Value) (z : Int) : Prop := ∃ a, cs = [.slice a (limbs z.natAbs).length (limbs z.natAbs).length, .bool (decide (z < 0))] ∧ Row32 w a (limbs z.natAbs)
def ZIs (w : World) (v : Value) (z : Int) : Prop := ∃ cs, v = .agg cs.toArray ∧ ZC w cs z
theorem ZC.keep {w w' : World} {cs : List Value} {z : Int} (h : ZC w cs z) (k : Keep w w') : ZC w' cs z := by
 obtain ⟨a, h1, h2⟩ := h
 exact ⟨a, h1, h2.keep k⟩
theorem ZIs.keep {w w' : World} {v : Value} {z : Int} (h : ZIs w v z) (k : Keep w w') : ZIs w' v z := by
 obtain ⟨cs, h1, h2⟩ := h
 exact ⟨cs, h1, h2.keep k⟩
theorem Gr.zIs {w w' : World} {v : Value} {z : Int} (g : Gr w w') (h : ZIs w v z) : ZIs w' v z := h.keep g.keep
theorem ZIs.parts {w : World} {v : Value} {z : Int} (h : ZIs w v z) : ∃ (a : Option Addr) (n : Nat) (b : Bool), v = .agg #[.slice a n n, .bool b] := by
 obtain ⟨cs, rfl, a, rfl, _⟩ := h
 exact ⟨a, _, _, rfl⟩
theorem z_nat {w : World} {a : Option Addr} {n : Nat} {b : Bool} {z : Int} (h : ZIs w (.agg #[.slice a n n, .bool b]) z) : NatIs w (.agg #[.slice a n n]) z.natAbs ∧ decide (z < 0) = b := by
 obtain ⟨cs, e, a', rfl, h2⟩ := h
 simp only [Value.agg.injEq, Array.mk.injEq, List.cons.injEq, Value.slice.injEq, Value.bool.injEq, and_true] at e
 obtain ⟨⟨rfl, h3, _⟩, rfl⟩ := e
 exact ⟨⟨a, by rw [← h3], h2⟩, rfl⟩
theorem z_mk {w : World} {a : Option Addr} {x : Nat} {b : Bool} {z : Int} {n : Nat} (h : Row32 w a (limbs x)) (hn : n = (limbs x).length) (hz : z.natAbs = x) (hb : decide (z < 0) = b) : ZIs w (.agg #[.slice a n n, .bool b]) z := by
 subst hn hz hb
 exact ⟨_, rfl, a, rfl, h⟩
def sgnZ (x : Nat) (b : Bool) : Int := if b then -(x : Int) else x
theorem sgnZ_abs (x : Nat) (b : Bool) : (sgnZ x b).natAbs = x := by cases b <;> simp [sgnZ]
theorem sgnZ_neg (x : Nat) (b : Bool) : decide (sgnZ x b < 0) = (b && decide (0 < x)) := by
 cases b
 ·simp [sgnZ]
 ·simp [sgnZ]
set_option maxHeartbeats 4000000 in
set_option maxRecDepth 100000 in
theorem made_any (x : Nat) (b : Bool) (v : Value) (w : World) (hv : NatIs w v x) (hx : (limbs x).length ≤ 1000000) :
  Calls Try.prog 39 #[v, .bool b] w fun e w' => ∃ r, e = .returned r ∧ ZIs w' r (sgnZ x b) ∧ Own w.heap.size w w' := by
 have HV := Lib.hid hv
 obtain ⟨a, rfl, hr⟩ := hv
 have HR := Lib.hid hr
 have HXL := Lib.hid hx
 have HBP := Lib.hid (bitsN_pos x)
 obtain ⟨n, hn⟩ : ∃ n, n = (limbs x).length := ⟨_, rfl⟩
 have HN := Lib.hid hn
 rw [← hn] at HV ⊢
 clear hn hr hx
 have HB1 : Hid (BlkC 26 ((w.alloc (.cells #[.slice a n n] 26)).alloc (.cells #[.slice none 0 0, .bool false] 28)) w.heap.size [.slice a n n]) := (BlkC.new _ w [.slice a n n]).still (grown_alloc _ _ none)
 have HB2 : Hid (BlkC 28 ((w.alloc (.cells #[.slice a n n] 26)).alloc (.cells #[.slice none 0 0, .bool false] 28)) (w.heap.size + 1) [.slice none 0 0, .bool false]) := blk_at (cs := [.slice none 0 0, .bool false]) (by simp)
 have HG : Hid (Own w.heap.size w ((w.alloc (.cells #[.slice a n n] 26)).alloc (.cells #[.slice none 0 0, .bool false] 28))) := (own_alloc _ _).alloc (by simp) _
 have HV1 := Lib.hid (Gr.natIs HG.out HV.out)
 have HV2 : Hid (NatIs ((w.alloc (.cells #[.slice a n n] 26)).alloc (.cells #[.slice none 0 0, .bool false] 28)).drew (.agg #[.slice a n n]) x) := HV1.out.keep (fun _ _ h => h)
 cases b with
 | false =>
  go_enter Try.func39, Try.ntmps39
  go_wp2_with fail
  go_region
  all_goals go_wp2_with fail
  have HF : Hid (BlkC 28 ((w.alloc (.cells #[.slice a n n] 26)).alloc (.cells #[.slice a n n, .bool false] 28)).drew (w.heap.size + 1) [.slice a n n, .bool false]) := blk_at (w := w.alloc (.cells #[.slice a n n] 26)) (cs := [.slice a n n, .bool false]) (by simp)
  have HK : Hid (Own w.heap.size w ((w.alloc (.cells #[.slice a n n] 26)).alloc (.cells #[.slice a n n, .bool false] 28)).drew) := ((own_alloc _ _).alloc (by simp) _).drew
  exact blk_ret rfl (by kernel_rfl) (by kernel_rfl) rfl rfl HF.out ⟨_, rfl, z_mk (HR.out.keep (Gr.keep HK.out)) HN.out (sgnZ_abs x false) (by rw [sgnZ_neg]; rfl), HK.out⟩
 | true =>
  go_enter Try.func39, Try.ntmps39
  go_wp2_with fail
  have x1 := blk_cell HB1.out
  obtain ⟨bb, hbb⟩ : ∃ b, decide (0 < x) = b := ⟨_, rfl⟩
  have HBB : Hid ((true && decide (0 < x)) = bb) := by show _ = _; rw [hbb]; rfl
  have hbb2 : decide ((0 : Int) < (bitsN x : Int)) = bb := by
   rw [← hbb]
   have := HBP.out
   rw [decide_eq_decide]
   omega
  have hbb3 : decide (0 < bitsN x) = bb := by
   rw [← hbb]
   have := HBP.out
   rw [decide_eq_decide]
   omega
  clear hbb
  go_region_held3 (fun w' => w'.cell? ⟨w.heap.size, 0, none⟩ = some (.slice a n n)) (first | go_keep | exact own_cell hg9 x1)
   ((go_at_call 68; refine (natBits_any x _ _ HV2.out HXL.out).mono ?_; rintro e w9 ⟨rfl, hg9⟩; have HC2 := Lib.hid ((show BlkC 28 ((w.alloc (.cells #[.slice a n n] 26)).alloc (.cells #[.slice none 0 0, .bool false] 28)).drew (w.heap.size + 1) [.slice none 0 0, .bool false] from HB2.out).still (Gr.grown hg9)); have y0 := HC2.out.cell 0; have y1 := HC2.out.cell 1; have f0 := HC2.out.free 0; have f1 := HC2.out.free 1; simp only [List.getElem?_cons_zero, List.getElem?_cons_succ] at y0 y1))
  go_wp2_with fail
  have HL2 : Hid (Own w.heap.size w w9) := HG.out.drew.call (by simpa using HG.out.size) hg9
  have HF : Hid (BlkC 28 ((w9.setCell ⟨w.heap.size + 1, 0, none⟩ (.slice a n n)).setCell ⟨w.heap.size + 1, 1, none⟩ (.bool bb)) (w.heap.size + 1) [.slice a n n, .bool bb]) := (HC2.out.set 0 (.slice a n n)).set 1 (.bool bb)
  have HK : Hid (Keep w9 ((w9.setCell ⟨w.heap.size + 1, 0, none⟩ (.slice a n n)).setCell ⟨w.heap.size + 1, 1, none⟩ (.bool bb))) := (keep_set HC2.out (by decide) _).trans (keep_set (HC2.out.set 0 (.slice a n n)) (by decide) _)
  have HK2 : Hid (Own w.heap.size w ((w9.setCell ⟨w.heap.size + 1, 0, none⟩ (.slice a n n)).setCell ⟨w.heap.size + 1, 1, none⟩ (.bool bb))) := (HL2.out.set (by omega) 0 _).set (by omega) 1 _
  exact blk_ret rfl (by kernel_rfl) (by kernel_rfl) rfl rfl HF.out ⟨_, rfl, z_mk ((HR.out.keep (Gr.keep HL2.out)).keep HK.out) HN.out (sgnZ_abs x true) (by rw [sgnZ_neg]; exact HBB.out), HK2.out⟩
theorem z_shut {T : TypeId} {w0 : World} {g : Nat} {c0 c1 x y : Value} {z : Int} (hv : ZIs w0 (.agg #[c0, c1]) z) (hB : BlkC T w0 g [x, y]) (hT : T ≠ 126) :
  BlkC T ((w0.setCell ⟨g, 0, none⟩ c0).setCell ⟨g, 1, none⟩ c1) g [c0, c1] ∧ ZIs ((w0.setCell ⟨g, 0, none⟩ c0).setCell ⟨g, 1, none⟩ c1) (.agg #[c0, c1]) z ∧ Keep w0 ((w0.setCell ⟨g, 0, none⟩ c0).setCell ⟨g, 1, none⟩ c1) := by
 have hk : Keep w0 ((w0.setCell ⟨g, 0, none⟩ c0).setCell ⟨g, 1, none⟩ c1) := (keep_set hB hT _).trans (keep_set (hB.set 0 c0) hT _)
 exact ⟨(hB.set 0 c0).set 1 c1, hv.keep hk, hk⟩
theorem own_set2 {w w0 : World} {B g : Nat} (h : Own B w w0) (hg : B ≤ g) (c0 c1 : Value) : Own B w ((w0.setCell ⟨g, 0, none⟩ c0).setCell ⟨g, 1, none⟩ c1) := (h.set hg 0 c0).set hg 1 c1
theorem z_ret {T : TypeId} {R : Ending → World → Prop} {a : Act} {w : World} {g : Nat} {x y : Value} {f : Func} {t : Tmp} (h : f.results = #[.cell t 28])
  (hp : a.tmps.getD t undef = .pointer (some ⟨g, 0, none⟩)) (ha : a.defers = []) (hB : BlkC T w g [x, y]) (hR : R (.returned (.agg #[x, y])) w) : bodyPost Try.prog f R .ret a w :=
 blk_ret h (by kernel_rfl) (by kernel_rfl) hp ha hB hR
theorem blk2 {T : TypeId} {w : World} {g : Nat} {x y : Value} (h : BlkC T w g [x, y]) : w.cell? ⟨g, 0, none⟩ = some x ∧ w.cell? ⟨g, 1, none⟩ = some y ∧ w.frozen? ⟨g, 0, none⟩ = false ∧ w.frozen? ⟨g, 1, none⟩ = false ∧ g < w.heap.size :=
 ⟨by rw [h.cell 0]; rfl, by rw [h.cell 1]; rfl, h.free 0, h.free 1, h.lt⟩
set_option maxHeartbeats 4000000 in
set_option maxRecDepth 100000 in
theorem zedOf_any (n : Int) (w : World) (h0 : -9223372036854775808 ≤ n) (h1 : n ≤ 9223372036854775807) :
  Calls Try.prog 19 #[.int .i64 n] w fun e w' => ∃ r, e = .returned r ∧ ZIs w' r n ∧ Own w.heap.size w w' := by
 have HB : Hid (BlkC 28 (w.alloc (.cells #[.slice none 0 0, .bool false] 28)) w.heap.size [.slice none 0 0, .bool false]) := BlkC.new _ _ _
 have HG : Hid (Own w.heap.size w (w.alloc (.cells #[.slice none 0 0, .bool false] 28))) := own_alloc _ _
 obtain ⟨x, hx⟩ : ∃ x, x = n.natAbs := ⟨_, rfl⟩
 have hxl : (limbs x).length ≤ 2 := (limbs_len x 2).2 (by omega)
 have hxb : x < 18446744073709551616 := by omega
 by_cases hn : n < 0
 ·have e1 : IntKind.u64.wrap (-(n + 1)) + 1 = (x : Int) := by
   show (-(n + 1)) % 18446744073709551616 + 1 = _
   omega
  have e2 : (-(n + 1)) % 18446744073709551616 + 1 = (x : Int) := e1
  have e3 : -(n + 1) + 1 = (x : Int) := by omega
  have e4 : sgnZ x true = n := by simp [sgnZ]; omega
  have HE := Lib.hid e4
  clear e4 hx
  go_enter Try.func19, Try.ntmps19
  go_wp2_with fail
  refine (natOf_any x _ hxb).mono ?_
  rintro e w1 ⟨v1, rfl, hv1, hg1⟩
  have HG1 := Lib.hid (HG.out.call HG.out.size hg1)
  have HB1 := Lib.hid (HB.out.still (Gr.grown hg1))
  have HV1 := Lib.hid hv1
  obtain ⟨a1, rfl, _⟩ := hv1
  clear hg1 e1 e2 e3
  go_wp2_with fail
  refine (made_any x true _ _ HV1.out (by omega)).mono ?_
  rintro e w2 ⟨v2, rfl, hv2, hg2⟩
  rw [HE.out] at hv2
  have HG2 := Lib.hid (HG1.out.call HG1.out.size hg2)
  have HB2 := Lib.hid (HB1.out.still (Gr.grown hg2))
  have HV2 := Lib.hid hv2
  obtain ⟨x0, x1, x2, x3, x4⟩ := blk2 HB2.out
  obtain ⟨a2, n2, b2, rfl⟩ := hv2.parts
  clear hg2 hv2
  go_wp2_with fail
  obtain ⟨s1, s2, s3⟩ := z_shut HV2.out HB2.out (by decide)
  exact z_ret rfl rfl rfl s1 ⟨_, rfl, s2, own_set2 HG2.out (Nat.le_refl _) _ _⟩
 ·have e1 : IntKind.u64.wrap n = (x : Int) := by
   show n % 18446744073709551616 = _
   omega
  have e2 : n % 18446744073709551616 = (x : Int) := e1
  have e4 : sgnZ x false = n := by simp [sgnZ]; omega
  obtain ⟨y, hy⟩ : ∃ y : Int, y = n := ⟨_, rfl⟩
  have hnx : n = (x : Int) := by omega
  subst hnx
  have HE := Lib.hid e4
  clear e4 e1 e2 hx hy
  go_enter Try.func19, Try.ntmps19
  go_wp2_with fail
  refine (natOf_any x _ hxb).mono ?_
  rintro e w1 ⟨v1, rfl, hv1, hg1⟩
  have HG1 := Lib.hid (HG.out.call HG.out.size hg1)
  have HB1 := Lib.hid (HB.out.still (Gr.grown hg1))
  have HV1 := Lib.hid hv1
  obtain ⟨a1, rfl, _⟩ := hv1
  clear hg1
  go_wp2_with fail
  refine (made_any x false _ _ HV1.out (by omega)).mono ?_
  rintro e w2 ⟨v2, rfl, hv2, hg2⟩
  rw [HE.out] at hv2
  have HG2 := Lib.hid (HG1.out.call HG1.out.size hg2)
  have HB2 := Lib.hid (HB1.out.still (Gr.grown hg2))
  have HV2 := Lib.hid hv2
  obtain ⟨x0, x1, x2, x3, x4⟩ := blk2 HB2.out
  obtain ⟨a2, n2, b2, rfl⟩ := hv2.parts
  clear hg2 hv2
  go_wp2_with fail
  obtain ⟨s1, s2, s3⟩ := z_shut HV2.out HB2.out (by decide)
  exact z_ret rfl rfl rfl s1 ⟨_, rfl, s2, own_set2 HG2.out (Nat.le_refl _) _ _⟩
set_option maxHeartbeats 4000000 in
set_option maxRecDepth 100000 in
theorem big_any (x : Nat) (v : Value) (w : World) (hv : NatIs w v x) (hx : (limbs x).length ≤ 1000000) :
  Calls Try.prog 64 #[v] w fun e w' => ∃ r, e = .returned r ∧ ZIs w' r (x : Int) ∧ Own w.heap.size w w' := by
 have HV := Lib.hid hv
 have HXL := Lib.hid hx
 obtain ⟨a, rfl, _⟩ := hv
 obtain ⟨n, hn⟩ : ∃ n, n = (limbs x).length := ⟨_, rfl⟩
 rw [← hn] at HV ⊢
 clear hn hx
 have HB : Hid (BlkC 28 ((w.alloc (.cells #[.slice a n n] 26)).alloc (.cells #[.slice none 0 0, .bool false] 28)) (w.heap.size + 1) [.slice none 0 0, .bool false]) := blk_at (cs := [.slice none 0 0, .bool false]) (by simp)
 have HG : Hid (Own w.heap.size w ((w.alloc (.cells #[.slice a n n] 26)).alloc (.cells #[.slice none 0 0, .bool false] 28))) := (own_alloc _ _).alloc (by simp) _
 have HV1 := Lib.hid (Gr.natIs HG.out HV.out)
 go_enter Try.func64, Try.ntmps64
 go_wp2_with fail
 refine (made_any x false _ _ HV1.out HXL.out).mono ?_
 rintro e w2 ⟨v2, rfl, hv2, hg2⟩
 have HG2 := Lib.hid (HG.out.call HG.out.size hg2)
 have HB2 := Lib.hid (HB.out.still (Gr.grown hg2))
 have HV2 : Hid (ZIs w2 v2 (x : Int)) := hv2
 obtain ⟨x0, x1, x2, x3, x4⟩ := blk2 HB2.out
 obtain ⟨a2, n2, b2, rfl⟩ := hv2.parts
 clear hg2 hv2
 go_wp2_with fail
 obtain ⟨s1, s2, s3⟩ := z_shut HV2.out HB2.out (by decide)
 exact z_ret rfl rfl rfl s1 ⟨_, rfl, s2, own_set2 HG2.out (by omega) _ _⟩
end Go.Proofs.Ytnojfiokdhcbjaa
namespace Go.Proofs.Ytnojfiokdhcbjaa
open Go Go.RowKit
def signZ (z : Int) : Int := if z < 0 then -1 else if z = 0 then 0 else 1
theorem sgn_neg {z : Int} {b : Bool} (h : decide (z < 0) = b) : sgnZ z.natAbs (!b) = -z := by
 subst h
 by_cases hz : z < 0
 ·simp [sgnZ, hz]; omega
 ·simp [sgnZ, hz]; omega
theorem sgn_same {z : Int} {b : Bool} (h : decide (z < 0) = b) : sgnZ z.natAbs b = z := by
 subst h
 by_cases hz : z < 0
 ·simp [sgnZ, hz]; omega
 ·simp [sgnZ, hz]; omega
theorem sgn_mul {x y : Int} {b c : Bool} (h : decide (x < 0) = b) (k : decide (y < 0) = c) : sgnZ (x.natAbs * y.natAbs) (!(b == c)) = x * y := by
 have h1 := sgn_same h
 have h2 := sgn_same k
 have e1 : x = sgnZ x.natAbs b := h1.symm
 have e2 : y = sgnZ y.natAbs c := h2.symm
 conv => rhs; rw [e1, e2]
 cases b <;> cases c <;> simp [sgnZ, Int.mul_neg, Int.neg_mul]
section
variable (w : World) (a : Option Addr) (n : Nat) (b : Bool)
abbrev zW : World := (w.alloc (.cells #[.slice a n n, .bool b] 28)).alloc (.cells #[.slice none 0 0, .bool false] 28)
theorem zW_1 : BlkC 28 (zW w a n b) w.heap.size [.slice a n n, .bool b] := (BlkC.new _ w [.slice a n n, .bool b]).still (grown_alloc _ _ none)
theorem zW_2 : BlkC 28 (zW w a n b) (w.heap.size + 1) [.slice none 0 0, .bool false] := blk_at (cs := [.slice none 0 0, .bool false]) (by simp)
theorem zW_g : Own w.heap.size w (zW w a n b) := (own_alloc _ _).alloc (by simp) _
variable (c : Option Addr) (m : Nat) (d : Bool)
abbrev zV : World := ((w.alloc (.cells #[.slice a n n, .bool b] 28)).alloc (.cells #[.slice c m m, .bool d] 28)).alloc (.cells #[.slice none 0 0, .bool false] 28)
theorem zV_1 : BlkC 28 (zV w a n b c m d) w.heap.size [.slice a n n, .bool b] := ((BlkC.new _ w [.slice a n n, .bool b]).still (grown_alloc _ _ none)).still (grown_alloc _ _ none)
theorem zV_2 : BlkC 28 (zV w a n b c m d) (w.heap.size + 1) [.slice c m m, .bool d] := (blk_at (cs := [.slice c m m, .bool d]) (by simp)).still (grown_alloc _ _ none)
theorem zV_3 : BlkC 28 (zV w a n b c m d) (w.heap.size + 1 + 1) [.slice none 0 0, .bool false] := blk_at (cs := [.slice none 0 0, .bool false]) (by simp)
theorem zV_g : Own w.heap.size w (zV w a n b c m d) := ((own_alloc _ _).alloc (by simp) _).alloc (by simp; omega) _
end
set_option maxHeartbeats 4000000 in
set_option maxRecDepth 100000 in
theorem neg_any (z : Int) (v : Value) (w : World) (hv : ZIs w v z) (hx : (limbs z.natAbs).length ≤ 1000000) :
  Calls Try.prog 65 #[v] w fun e w' => ∃ r, e = .returned r ∧ ZIs w' r (-z) ∧ Own w.heap.size w w' := by
 obtain ⟨a, n, b, rfl⟩ := hv.parts
 obtain ⟨hn, hb⟩ := z_nat hv
 have HXL := Lib.hid hx
 have HS := Lib.hid (sgn_neg hb)
 have HB1 := Lib.hid (zW_1 w a n b)
 have HB2 := Lib.hid (zW_2 w a n b)
 have HG := Lib.hid (zW_g w a n b)
 have HN1 := Lib.hid (Gr.natIs HG.out hn)
 clear hv hn hb hx
 go_enter Try.func65, Try.ntmps65
 go_wp2_with fail
 refine (made_any z.natAbs (!b) _ _ HN1.out HXL.out).mono ?_
 rintro e w2 ⟨v2, rfl, hv2, hg2⟩
 rw [HS.out] at hv2
 have HG2 := Lib.hid (HG.out.call HG.out.size hg2)
 have HC2 := Lib.hid (HB2.out.still (Gr.grown hg2))
 have HV2 := Lib.hid hv2
 obtain ⟨x0, x1, x2, x3, x4⟩ := blk2 HC2.out
 obtain ⟨a2, n2, b2, rfl⟩ := hv2.parts
 clear hg2 hv2
 go_wp2_with fail
 obtain ⟨s1, s2, s3⟩ := z_shut HV2.out HC2.out (by decide)
 exact z_ret rfl rfl rfl s1 ⟨_, rfl, s2, own_set2 HG2.out (by omega) _ _⟩
set_option maxHeartbeats 4000000 in
set_option maxRecDepth 100000 in
theorem sign_any (z : Int) (v : Value) (w : World) (hv : ZIs w v z) (hx : (limbs z.natAbs).length ≤ 1000000) :
  Calls Try.prog 59 #[v] w fun e w' => e = .returned (.int .i64 (signZ z)) ∧ Own w.heap.size w w' := by
 obtain ⟨a, n, b, rfl⟩ := hv.parts
 obtain ⟨hn, hb⟩ := z_nat hv
 have HXL := Lib.hid hx
 have HG : Hid (Own w.heap.size w (w.alloc (.cells #[.slice a n n, .bool b] 28))) := own_alloc _ _
 have HN1 := Lib.hid (Gr.natIs HG.out hn)
 have HBP := Lib.hid (bitsN_pos z.natAbs)
 clear hv hn hx
 cases b with
 | true =>
  have hz : z < 0 := of_decide_eq_true hb
  have hs : signZ z = -1 := by unfold signZ; rw [if_pos hz]
  clear hb hz
  go_enter Try.func59, Try.ntmps59
  go_wp2_with fail
  go_ret
  exact ⟨by first | rfl | exact ret_int hs.symm, HG.out⟩
 | false =>
  have hz : ¬ z < 0 := of_decide_eq_false hb
  by_cases h0 : z = 0
  ·have hs : signZ z = 0 := by unfold signZ; rw [if_neg hz, if_pos h0]
   have hbz : bitsN z.natAbs = 0 := by have := HBP.out; omega
   have hbz2 : ((bitsN z.natAbs : Int) == 0) = true := by simp; omega
   have hbz3 : (bitsN z.natAbs == 0) = true := by simp; omega
   have HS := Lib.hid hs
   clear hb hz h0 hbz hs
   go_enter Try.func59, Try.ntmps59
   go_wp2_with fail
   refine (natBits_any z.natAbs _ _ HN1.out HXL.out).mono ?_
   rintro e w2 ⟨rfl, hg2⟩
   have HG2 := Lib.hid (HG.out.call HG.out.size hg2)
   clear hg2
   go_wp2_with fail
   go_ret
   exact ⟨by first | rfl | exact ret_int HS.out.symm, HG2.out⟩
  ·have hs : signZ z = 1 := by unfold signZ; rw [if_neg hz, if_neg h0]
   have hbz2 : ((bitsN z.natAbs : Int) == 0) = false := by have := HBP.out; simp; omega
   have hbz3 : (bitsN z.natAbs == 0) = false := by have := HBP.out; simp; omega
   have HS := Lib.hid hs
   clear hb hz h0 hs
   go_enter Try.func59, Try.ntmps59
   go_wp2_with fail
   refine (natBits_any z.natAbs _ _ HN1.out HXL.out).mono ?_
   rintro e w2 ⟨rfl, hg2⟩
   have HG2 := Lib.hid (HG.out.call HG.out.size hg2)
   clear hg2
   go_wp2_with fail
   go_ret
   exact ⟨by first | rfl | exact ret_int HS.out.symm, HG2.out⟩
set_option maxHeartbeats 4000000 in
set_option maxRecDepth 100000 in
theorem mulZ_any (x y : Int) (v u : Value) (w : World) (hv : ZIs w v x) (hu : ZIs w u y) (hx : (limbs x.natAbs).length ≤ 400000) (hy : (limbs y.natAbs).length ≤ 400000) :
  Calls Try.prog 32 #[v, u] w fun e w' => ∃ r, e = .returned r ∧ ZIs w' r (x * y) ∧ Own w.heap.size w w' := by
 obtain ⟨a, n, b, rfl⟩ := hv.parts
 obtain ⟨c, m, d, rfl⟩ := hu.parts
 obtain ⟨hn, hb⟩ := z_nat hv
 obtain ⟨hm, hd⟩ := z_nat hu
 have HXL := Lib.hid hx
 have HYL := Lib.hid hy
 have HS := Lib.hid (sgn_mul hb hd)
 have hml : (limbs (x.natAbs * y.natAbs)).length ≤ 1000000 := by
  have h1 := val_lt (limbs_limb x.natAbs)
  have h2 := val_lt (limbs_limb y.natAbs)
  rw [val_limbs] at h1 h2
  have h3 : (limbs (x.natAbs * y.natAbs)).length ≤ (limbs x.natAbs).length + (limbs y.natAbs).length := by
   rw [limbs_len, Nat.pow_add]
   exact Nat.mul_lt_mul'' h1 h2
  omega
 have HML := Lib.hid hml
 have HB1 := Lib.hid (zV_1 w a n b c m d)
 have HB2 := Lib.hid (zV_2 w a n b c m d)
 have HB3 : Hid (BlkC 28 (zV w a n b c m d).drew (w.heap.size + 1 + 1) [.slice none 0 0, .bool false]) := zV_3 w a n b c m d
 have HG : Hid (Own w.heap.size w (zV w a n b c m d).drew) := (zV_g w a n b c m d).drew
 have HN1 := Lib.hid (Gr.natIs HG.out hn)
 have HN2 := Lib.hid (Gr.natIs HG.out hm)
 have x0 := (blk2 HB1.out).1
 have x1 := (blk2 HB1.out).2.1
 have x2 := (blk2 HB2.out).1
 have x3 := (blk2 HB2.out).2.1
 have ne1 : ¬ w.heap.size = w.heap.size + 1 + 1 := by omega
 have ne2 : ¬ w.heap.size + 1 + 1 = w.heap.size := by omega
 clear hv hu hn hm hb hd hx hy hml
 go_enter Try.func32, Try.ntmps32
 go_wp2_with fail
 go_region_held3 (fun w' => w'.cell? ⟨w.heap.size, 0, none⟩ = some (.slice a n n) ∧ w'.cell? ⟨w.heap.size, 1, none⟩ = some (.bool b) ∧ w'.cell? ⟨w.heap.size + 1, 0, none⟩ = some (.slice c m m) ∧ w'.cell? ⟨w.heap.size + 1, 1, none⟩ = some (.bool d)) (first | go_keep | exact ⟨own_cell hg9 x0, own_cell hg9 x1, own_cell hg9 x2, own_cell hg9 x3⟩ | exact ⟨own_cell hg8 (own_cell hg9 x0), own_cell hg8 (own_cell hg9 x1), own_cell hg8 (own_cell hg9 x2), own_cell hg8 (own_cell hg9 x3)⟩ | (try dsimp only; repeat' apply And.intro; all_goals go_keep))
  (first
   | (go_at_call 58; refine (natMul_any x.natAbs y.natAbs _ _ _ HN1.out HN2.out HXL.out HYL.out).mono ?_; rintro e w9 ⟨v9, rfl, hv9, hg9⟩; have HV9 := Lib.hid hv9; have HG9 := Lib.hid (HG.out.call HG.out.size hg9); have HC9 := Lib.hid (HB3.out.still (Gr.grown hg9)); obtain ⟨a9, rfl, _⟩ := hv9)
   | (go_at_call 39; refine (made_any _ _ _ _ HV9.out HML.out).mono ?_; rintro e w8 ⟨v8, rfl, hv8, hg8⟩; rw [HS.out] at hv8; have HV8 := Lib.hid hv8; have HG8 := Lib.hid (HG9.out.call HG9.out.size hg8); have HC8 := Lib.hid (HC9.out.still (Gr.grown hg8)); obtain ⟨y0, y1, y2, y3, y4⟩ := blk2 HC8.out; obtain ⟨a8, n8, b8, rfl⟩ := hv8.parts; clear hv8))
 go_wp2_with fail
 obtain ⟨s1, s2, s3⟩ := z_shut HV8.out HC8.out (by decide)
 exact z_ret rfl rfl rfl s1 ⟨_, rfl, s2, own_set2 HG8.out (by omega) _ _⟩
end Go.Proofs.Ytnojfiokdhcbjaa
namespace Go.Proofs.Ytnojfiokdhcbjaa
open Go Go.RowKit
theorem cmp_abs_pos {x y : Int} (hx : ¬ x < 0) (hy : ¬ y < 0) : cmpZ (x.natAbs : Int) (y.natAbs : Int) = cmpZ x y := by
 have e1 : (x.natAbs : Int) = x := by omega
 have e2 : (y.natAbs : Int) = y := by omega
 rw [e1, e2]
theorem cmp_abs_neg {x y : Int} (hx : x < 0) (hy : y < 0) : cmpZ (y.natAbs : Int) (x.natAbs : Int) = cmpZ x y := by
 unfold cmpZ
 by_cases h1 : x < y
 ·rw [if_pos (by omega), if_pos h1]
 ·rw [if_neg (by omega), if_neg h1]
  by_cases h2 : y < x
  ·rw [if_pos (by omega), if_pos h2]
  ·rw [if_neg (by omega), if_neg h2]
set_option maxHeartbeats 4000000 in
set_option maxRecDepth 100000 in
theorem zCmp_any (x y : Int) (v u : Value) (w : World) (hv : ZIs w v x) (hu : ZIs w u y) (hx : (limbs x.natAbs).length ≤ 1000000) (hy : (limbs y.natAbs).length ≤ 1000000) :
  Calls Try.prog 34 #[v, u] w fun e w' => e = .returned (.int .i64 (cmpZ x y)) ∧ Own w.heap.size w w' := by
 obtain ⟨a, n, b, rfl⟩ := hv.parts
 obtain ⟨c, m, d, rfl⟩ := hu.parts
 obtain ⟨hn, hb⟩ := z_nat hv
 obtain ⟨hm, hd⟩ := z_nat hu
 have HXL := Lib.hid hx
 have HYL := Lib.hid hy
 have HG : Hid (Own w.heap.size w ((w.alloc (.cells #[.slice a n n, .bool b] 28)).alloc (.cells #[.slice c m m, .bool d] 28))) := (own_alloc _ _).alloc (by simp) _
 have HN1 := Lib.hid (Gr.natIs HG.out hn)
 have HN2 := Lib.hid (Gr.natIs HG.out hm)
 clear hv hu hn hm hx hy
 cases b with
 | true =>
  have hx : x < 0 := of_decide_eq_true hb
  cases d with
  | true =>
   have HS := Lib.hid (cmp_abs_neg hx (of_decide_eq_true hd))
   clear hb hd hx
   go_enter Try.func34, Try.ntmps34
   go_wp2_with fail
   refine (natCmp_any y.natAbs x.natAbs _ _ _ HN2.out HN1.out HYL.out).mono ?_
   rintro e w2 ⟨rfl, hg2⟩
   have HG2 := Lib.hid (HG.out.call HG.out.size hg2)
   clear hg2
   go_wp2_with fail
   go_ret
   exact ⟨by first | rfl | exact ret_int HS.out, HG2.out⟩
  | false =>
   have hy : ¬ y < 0 := of_decide_eq_false hd
   have hs : cmpZ x y = -1 := by unfold cmpZ; rw [if_pos (by omega)]
   clear hb hd hx hy
   go_enter Try.func34, Try.ntmps34
   go_wp2_with fail
   go_ret
   exact ⟨by first | rfl | exact ret_int hs.symm, HG.out⟩
 | false =>
  have hx : ¬ x < 0 := of_decide_eq_false hb
  cases d with
  | true =>
   have hy : y < 0 := of_decide_eq_true hd
   have hs : cmpZ x y = 1 := by unfold cmpZ; rw [if_neg (by omega), if_pos (by omega)]
   clear hb hd hx hy
   go_enter Try.func34, Try.ntmps34
   go_wp2_with fail
   go_ret
   exact ⟨by first | rfl | exact ret_int hs.symm, HG.out⟩
  | false =>
   have HS := Lib.hid (cmp_abs_pos hx (of_decide_eq_false hd))
   clear hb hd hx
   go_enter Try.func34, Try.ntmps34
   go_wp2_with fail
   refine (natCmp_any x.natAbs y.natAbs _ _ _ HN1.out HN2.out HXL.out).mono ?_
   rintro e w2 ⟨rfl, hg2⟩
   have HG2 := Lib.hid (HG.out.call HG.out.size hg2)
   clear hg2
   go_wp2_with fail
   go_ret
   exact ⟨by first | rfl | exact ret_int HS.out, HG2.out⟩
set_option maxHeartbeats 4000000 in
set_option maxRecDepth 100000 in
theorem abs_any (z : Int) (v : Value) (w : World) (hv : ZIs w v z) :
  Calls Try.prog 61 #[v] w fun e w' => ∃ r, e = .returned r ∧ NatIs w' r z.natAbs ∧ Own w.heap.size w w' := by
 obtain ⟨a, n, b, rfl⟩ := hv.parts
 obtain ⟨hn, hb⟩ := z_nat hv
 have HB : Hid (BlkC 26 ((w.alloc (.cells #[.slice a n n, .bool b] 28)).alloc (.cells #[.slice a n n] 26)) (w.heap.size + 1) [.slice a n n]) := blk_at (cs := [.slice a n n]) (by simp)
 have HG : Hid (Own w.heap.size w ((w.alloc (.cells #[.slice a n n, .bool b] 28)).alloc (.cells #[.slice a n n] 26))) := (own_alloc _ _).alloc (by simp) _
 have HN1 := Lib.hid (Gr.natIs HG.out hn)
 clear hv hn hb
 go_enter Try.func61, Try.ntmps61
 go_wp2_with fail
 exact nat_ret rfl rfl rfl HB.out ⟨_, rfl, HN1.out, HG.out⟩
end Go.Proofs.Ytnojfiokdhcbjaa
namespace Go.Proofs.Ytnojfiokdhcbjaa
open Go Go.RowKit
theorem sgn_add_same {x y : Int} {b : Bool} (h : decide (x < 0) = b) (k : decide (y < 0) = b) : sgnZ (x.natAbs + y.natAbs) b = x + y := by
 cases b
 ·have := of_decide_eq_false h; have := of_decide_eq_false k; simp [sgnZ]; omega
 ·have := of_decide_eq_true h; have := of_decide_eq_true k; simp [sgnZ]; omega
theorem sgn_add_ge {x y : Int} {b : Bool} (h : decide (x < 0) = b) (k : decide (y < 0) = !b) (hle : y.natAbs ≤ x.natAbs) : sgnZ (x.natAbs - y.natAbs) b = x + y := by
 cases b
 ·have := of_decide_eq_false h; have := of_decide_eq_true k; simp [sgnZ]; omega
 ·have := of_decide_eq_true h; have := of_decide_eq_false k; simp [sgnZ]; omega
theorem sgn_add_lt {x y : Int} {b : Bool} (h : decide (x < 0) = b) (k : decide (y < 0) = !b) (hlt : x.natAbs < y.natAbs) : sgnZ (y.natAbs - x.natAbs) (!b) = x + y := by
 cases b
 ·have := of_decide_eq_false h; have := of_decide_eq_true k; simp [sgnZ]; omega
 ·have := of_decide_eq_true h; have := of_decide_eq_false k; simp [sgnZ]; omega
theorem add_len (x y : Nat) {k : Nat} (hx : (limbs x).length ≤ k) (hy : (limbs y).length ≤ k) : (limbs (x + y)).length ≤ k + 1 := by
 rw [limbs_len] at hx hy ⊢
 rw [Nat.pow_succ]
 omega
set_option maxHeartbeats 8000000 in
set_option maxRecDepth 100000 in
theorem zAdd_any (x y : Int) (v u : Value) (w : World) (hv : ZIs w v x) (hu : ZIs w u y) (hx : (limbs x.natAbs).length ≤ 900000) (hy : (limbs y.natAbs).length ≤ 900000) :
  Calls Try.prog 67 #[v, u] w fun e w' => ∃ r, e = .returned r ∧ ZIs w' r (x + y) ∧ Own w.heap.size w w' := by
 obtain ⟨a, n, b, rfl⟩ := hv.parts
 obtain ⟨c, m, d, rfl⟩ := hu.parts
 obtain ⟨hn, hb⟩ := z_nat hv
 obtain ⟨hm, hd⟩ := z_nat hu
 have HXL := Lib.hid hx
 have HYL := Lib.hid hy
 have HML := Lib.hid (add_len x.natAbs y.natAbs hx hy)
 have ne1 : ¬ w.heap.size = w.heap.size + 1 + 1 := by omega
 have ne2 : ¬ w.heap.size + 1 + 1 = w.heap.size := by omega
 by_cases hbd : d = b
 ·subst hbd
  have HS := Lib.hid (sgn_add_same hb hd)
  have HB1 := Lib.hid (zV_1 w a n d c m d)
  have HB2 := Lib.hid (zV_2 w a n d c m d)
  have HB3 : Hid (BlkC 28 (zV w a n d c m d).drew (w.heap.size + 1 + 1) [.slice none 0 0, .bool false]) := zV_3 w a n d c m d
  have HG : Hid (Own w.heap.size w (zV w a n d c m d).drew) := (zV_g w a n d c m d).drew
  have HN1 := Lib.hid (Gr.natIs HG.out hn)
  have HN2 := Lib.hid (Gr.natIs HG.out hm)
  have x0 := (blk2 HB1.out).1
  have x1 := (blk2 HB1.out).2.1
  have x2 := (blk2 HB2.out).1
  have hdd : (d == d) = true := by simp
  clear hv hu hn hm hb hd hx hy
  go_enter Try.func67, Try.ntmps67
  go_wp2_with fail
  go_region_held3 (fun w' => w'.cell? ⟨w.heap.size, 0, none⟩ = some (.slice a n n) ∧ w'.cell? ⟨w.heap.size, 1, none⟩ = some (.bool d) ∧ w'.cell? ⟨w.heap.size + 1, 0, none⟩ = some (.slice c m m)) (first | go_keep | exact ⟨own_cell hg9 x0, own_cell hg9 x1, own_cell hg9 x2⟩ | exact ⟨own_cell hg8 (own_cell hg9 x0), own_cell hg8 (own_cell hg9 x1), own_cell hg8 (own_cell hg9 x2)⟩ | (try dsimp only; repeat' apply And.intro; all_goals go_keep))
   (first
    | (go_at_call 95; refine (natAdd_any x.natAbs y.natAbs _ _ _ HN1.out HN2.out HXL.out HYL.out).mono ?_; rintro e w9 ⟨v9, rfl, hv9, hg9⟩; have HV9 := Lib.hid hv9; have HG9 := Lib.hid (HG.out.call HG.out.size hg9); have HC9 := Lib.hid (HB3.out.still (Gr.grown hg9)); obtain ⟨a9, rfl, _⟩ := hv9)
    | (go_at_call 39; refine (made_any _ _ _ _ HV9.out (by have := HML.out; omega)).mono ?_; rintro e w8 ⟨v8, rfl, hv8, hg8⟩; rw [HS.out] at hv8; have HV8 := Lib.hid hv8; have HG8 := Lib.hid (HG9.out.call HG9.out.size hg8); have HC8 := Lib.hid (HC9.out.still (Gr.grown hg8)); obtain ⟨y0, y1, y2, y3, y4⟩ := blk2 HC8.out; obtain ⟨a8, n8, b8, rfl⟩ := hv8.parts; clear hv8))
  go_wp2_with fail
  obtain ⟨s1, s2, s3⟩ := z_shut HV8.out HC8.out (by decide)
  exact z_ret rfl rfl rfl s1 ⟨_, rfl, s2, own_set2 HG8.out (by omega) _ _⟩
 ·have hdb : d = !b := by cases b <;> cases d <;> simp_all
  subst hdb
  have HSG := Lib.hid (fun h => sgn_add_ge (x := x) (y := y) hb hd h)
  have HSL := Lib.hid (fun h => sgn_add_lt (x := x) (y := y) hb hd h)
  have HB1 := Lib.hid (zV_1 w a n b c m (!b))
  have HB2 := Lib.hid (zV_2 w a n b c m (!b))
  have HB3 := Lib.hid (zV_3 w a n b c m (!b))
  have HG := Lib.hid (zV_g w a n b c m (!b))
  have HN1 := Lib.hid (Gr.natIs HG.out hn)
  have HN2 := Lib.hid (Gr.natIs HG.out hm)
  have hdd : (b == !b) = false := by cases b <;> rfl
  clear hv hu hn hm hb hd hx hy hbd
  go_enter Try.func67, Try.ntmps67
  go_wp2_with fail
  refine (natSub_any x.natAbs y.natAbs _ _ _ HN1.out HN2.out HXL.out).mono ?_
  rintro e w1 ⟨hs, hg1⟩
  have HG1 := Lib.hid (HG.out.call HG.out.size hg1)
  have HC1 := Lib.hid (HB1.out.still (Gr.grown hg1))
  have HC2 := Lib.hid (HB2.out.still (Gr.grown hg1))
  have HC3 := Lib.hid (HB3.out.still (Gr.grown hg1))
  have HN3 := Lib.hid (Gr.natIs hg1 HN1.out)
  have HN4 := Lib.hid (Gr.natIs hg1 HN2.out)
  obtain ⟨x0, x1, _, _, x4⟩ := blk2 HC1.out
  obtain ⟨y0, y1, _, _, y4⟩ := blk2 HC2.out
  obtain ⟨z0, z1, z2, z3, z4⟩ := blk2 HC3.out
  clear hg1 HN1 HN2 HB1 HB2 HB3 HG
  rcases hs with ⟨hle, r, rfl, hr⟩ | ⟨hlt, r, rfl, hr⟩
  ·have HS := Lib.hid (HSG.out hle)
   have HR := Lib.hid hr
   obtain ⟨ar, rfl, _⟩ := hr
   obtain ⟨nr, hnr⟩ : ∃ q, q = (limbs (x.natAbs - y.natAbs)).length := ⟨_, rfl⟩
   rw [← hnr] at HR ⊢
   have hlr : (limbs (x.natAbs - y.natAbs)).length ≤ 900000 := Nat.le_trans (limbs_mono (Nat.sub_le _ _)) HXL.out
   have HLR := Lib.hid hlr
   have HG2 := Lib.hid (HG1.out.alloc HG1.out.size (.cells #[.slice ar nr nr] 26))
   have HD3 := Lib.hid (HC3.out.still (grown_alloc _ (.cells #[.slice ar nr nr] 26) none))
   have HR2 := Lib.hid (Gr.natIs (own_alloc _ (.cells #[.slice ar nr nr] 26)) HR.out)
   clear hle hnr hlr HSG HSL HN3 HN4
   go_wp2_with fail
   refine (made_any _ b _ _ HR2.out (by have := HLR.out; omega)).mono ?_
   rintro e w8 ⟨v8, rfl, hv8, hg8⟩
   rw [HS.out] at hv8
   have HV8 := Lib.hid hv8
   have HG8 := Lib.hid (HG2.out.call HG2.out.size hg8)
   have HC8 := Lib.hid (HD3.out.still (Gr.grown hg8))
   obtain ⟨t0, t1, t2, t3, t4⟩ := blk2 HC8.out
   obtain ⟨a8, n8, b8, rfl⟩ := hv8.parts
   clear hv8 hg8
   go_wp2_with fail
   obtain ⟨s1, s2, s3⟩ := z_shut HV8.out HC8.out (by decide)
   exact z_ret rfl rfl rfl s1 ⟨_, rfl, s2, own_set2 HG8.out (by omega) _ _⟩
  ·have HS := Lib.hid (HSL.out hlt)
   obtain ⟨ar, rfl, _⟩ := hr
   rw [limbs_zero]
   have HLT := Lib.hid hlt
   have HG2 := Lib.hid (HG1.out.alloc HG1.out.size (.cells #[.slice ar 0 0] 26))
   have HD2 := Lib.hid (HC2.out.still (grown_alloc _ (.cells #[.slice ar 0 0] 26) none))
   have HD3 := Lib.hid (HC3.out.still (grown_alloc _ (.cells #[.slice ar 0 0] 26) none))
   have HN5 := Lib.hid (Gr.natIs (own_alloc _ (.cells #[.slice ar 0 0] 26)) HN3.out)
   have HN6 := Lib.hid (Gr.natIs (own_alloc _ (.cells #[.slice ar 0 0] 26)) HN4.out)
   clear hlt HSG HSL HN3 HN4
   go_wp2_with fail
   refine (natSub_any y.natAbs x.natAbs _ _ _ HN6.out HN5.out HYL.out).mono ?_
   rintro e w3 ⟨hs, hg3⟩
   rcases hs with ⟨_, r, rfl, hr⟩ | ⟨hl, _⟩
   case inr => exact absurd hl (by have := HLT.out; omega)
   have HG3 := Lib.hid (HG2.out.call HG2.out.size hg3)
   have HE2 := Lib.hid (HD2.out.still (Gr.grown hg3))
   have HE3 := Lib.hid (HD3.out.still (Gr.grown hg3))
   have HR := Lib.hid hr
   obtain ⟨af, rfl, _⟩ := hr
   obtain ⟨nr, hnr⟩ : ∃ q, q = (limbs (y.natAbs - x.natAbs)).length := ⟨_, rfl⟩
   rw [← hnr] at HR ⊢
   have hlr : (limbs (y.natAbs - x.natAbs)).length ≤ 900000 := Nat.le_trans (limbs_mono (Nat.sub_le _ _)) HYL.out
   have HLR := Lib.hid hlr
   obtain ⟨p0, p1, _, _, p4⟩ := blk2 HE2.out
   have HG4 := Lib.hid (HG3.out.alloc HG3.out.size (.cells #[.slice af nr nr] 26))
   have HF3 := Lib.hid (HE3.out.still (grown_alloc _ (.cells #[.slice af nr nr] 26) none))
   have HR2 := Lib.hid (Gr.natIs (own_alloc _ (.cells #[.slice af nr nr] 26)) HR.out)
   clear hg3 hnr hlr
   go_wp2_with fail
   refine (made_any _ (!b) _ _ HR2.out (by have := HLR.out; omega)).mono ?_
   rintro e w8 ⟨v8, rfl, hv8, hg8⟩
   rw [HS.out] at hv8
   have HV8 := Lib.hid hv8
   have HG8 := Lib.hid (HG4.out.call HG4.out.size hg8)
   have HC8 := Lib.hid (HF3.out.still (Gr.grown hg8))
   obtain ⟨t0, t1, t2, t3, t4⟩ := blk2 HC8.out
   obtain ⟨a8, n8, b8, rfl⟩ := hv8.parts
   clear hv8 hg8
   go_wp2_with fail
   obtain ⟨s1, s2, s3⟩ := z_shut HV8.out HC8.out (by decide)
   exact z_ret rfl rfl rfl s1 ⟨_, rfl, s2, own_set2 HG8.out (by omega) _ _⟩
end Go.Proofs.Ytnojfiokdhcbjaa
namespace Go.Proofs.Ytnojfiokdhcbjaa
open Go Go.RowKit
end Go.Proofs.Ytnojfiokdhcbjaa
