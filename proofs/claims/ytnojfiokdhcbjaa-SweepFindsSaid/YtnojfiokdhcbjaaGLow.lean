/-
  frac.lowest: the walk. (Printed by gen_low.py.)
-/
import Derived.Test.YtnojfiokdhcbjaaGFl
namespace Go.Proofs.Ytnojfiokdhcbjaa
open Go Go.RowKit
theorem quo_len {x : Int} {g : Nat} : (limbs (x / (g : Int)).natAbs).length ≤ (limbs x.natAbs).length := by
 refine limbs_mono ?_
 exact Int.natAbs_ediv_le_natAbs x g
theorem ptr_eq {g h : Nat} (e : Value.pointer (some ⟨g, 0, none⟩) = .pointer (some ⟨h, 0, none⟩)) : h = g := by
 injection e with e
 injection e with e
 injection e with e
 exact e.symm
theorem below_set4 {w0 w : World} {B g : Nat} (h : Below B w0 w) (hg : B ≤ g) (c0 c1 c2 c3 : Value) : Below B w0 ((((w.setCell ⟨g, 0, none⟩ c0).setCell ⟨g, 1, none⟩ c1).setCell ⟨g, 2, none⟩ c2).setCell ⟨g, 3, none⟩ c3) :=
 (((h.setCell hg _).setCell hg _).setCell hg _).setCell hg _
section
variable (w : World) (a : Option Addr) (n : Nat) (b : Bool) (c : Option Addr) (m : Nat) (d : Bool)
abbrev lowW : World := ((w.alloc (.cells #[.slice a n n, .bool b] 28)).alloc (.cells #[.slice c m m, .bool d] 28)).alloc (.cells #[.slice none 0 0, .bool false, .slice none 0 0, .bool false] 30)
theorem lowW_1 : BlkC 28 (lowW w a n b c m d) w.heap.size [.slice a n n, .bool b] := ((BlkC.new _ w [.slice a n n, .bool b]).still (grown_alloc _ _ none)).still (grown_alloc _ _ none)
theorem lowW_2 : BlkC 28 (lowW w a n b c m d) (w.heap.size + 1) [.slice c m m, .bool d] := (blk_at (cs := [.slice c m m, .bool d]) (by simp)).still (grown_alloc _ _ none)
theorem lowW_3 : BlkC 30 (lowW w a n b c m d) (w.heap.size + 1 + 1) [.slice none 0 0, .bool false, .slice none 0 0, .bool false] := blk_at (cs := [.slice none 0 0, .bool false, .slice none 0 0, .bool false]) (by simp)
theorem lowW_g : Below w.heap.size w (lowW w a n b c m d) := ((((own_alloc _ _).alloc (by simp) _).alloc (by simp; omega) _)).b
end
set_option maxHeartbeats 8000000 in
set_option maxRecDepth 100000 in
theorem lowest_any (x y : Int) (v u : Value) (w : World) (hv : ZIs w v x) (hu : ZIs w u y) (hx : (limbs x.natAbs).length ≤ 800000) (hy : (limbs y.natAbs).length ≤ 800000) (hd0 : y ≠ 0) :
  Calls Try.prog 35 #[v, u] w fun e w' => ∃ r, e = .returned r ∧ RIs w' r (Rat.divInt x y) ∧ Below w.heap.size w w' := by
 obtain ⟨a, n, b, rfl⟩ := hv.parts
 obtain ⟨c, m, d, rfl⟩ := hu.parts
 have HB1 : Hid (BlkC 28 (lowW w a n b c m d).drew w.heap.size [.slice a n n, .bool b]) := lowW_1 w a n b c m d
 have HB2 : Hid (BlkC 28 (lowW w a n b c m d).drew (w.heap.size + 1) [.slice c m m, .bool d]) := lowW_2 w a n b c m d
 have HB3 : Hid (BlkC 30 (lowW w a n b c m d).drew (w.heap.size + 1 + 1) [.slice none 0 0, .bool false, .slice none 0 0, .bool false]) := lowW_3 w a n b c m d
 have HB : Hid (Below w.heap.size w (lowW w a n b c m d).drew) := below_same (lowW_g w a n b c m d) rfl rfl rfl rfl
 have HX := Lib.hid hv
 have HY := Lib.hid hu
 have HXL := Lib.hid hx
 have HYL := Lib.hid hy
 have HD0 := Lib.hid hd0
 have HGP : Hid (0 < (Nat.gcd x.natAbs y.natAbs)) := Nat.gcd_pos_of_pos_right _ (by omega)
 have HxD : Hid ((((Nat.gcd x.natAbs y.natAbs) : Nat) : Int) ∣ x) := Int.ofNat_dvd_left.2 (Nat.gcd_dvd_left _ _)
 have HyD : Hid ((((Nat.gcd x.natAbs y.natAbs) : Nat) : Int) ∣ y) := Int.ofNat_dvd_left.2 (Nat.gcd_dvd_right _ _)
 have HGL : Hid ((limbs (Nat.gcd x.natAbs y.natAbs)).length ≤ 1000000) := Nat.le_trans (limbs_mono (Nat.le_of_dvd (by omega) (Nat.gcd_dvd_right _ _))) (by omega)
 clear hv hu hx hy hd0
 go_enter Try.func35, Try.ntmps35
 go_wp2_with fail
 refine region_mem (s := fun | 0 => .z (x) | 1 => .n (x.natAbs) | 2 => .z (y) | 3 => .n (y.natAbs) | 4 => .n ((Nat.gcd x.natAbs y.natAbs)) | 5 => .any | 6 => .any | _ => .any) (J := MM w.heap.size w w [(28, w.heap.size, [.slice a n n, .bool b]), (28, (w.heap.size + 1), [.slice c m m, .bool d]), (30, (w.heap.size + 1 + 1), [.slice none 0 0, .bool false, .slice none 0 0, .bool false])] [tgN 5 (some 5) 6 (Nat.gcd x.natAbs y.natAbs)]) (by kernel_rfl) (by kernel_rfl) rfl (fun f g a w hn h => MM.ext (n := 7) (by simp) hn h) ?_ ?_ ?_
 ·exact ⟨HB.out, keep_below HB.out, by have := HB.out.size; omega, (by intro q hq; simp only [List.mem_cons, List.not_mem_nil, or_false] at hq; rcases hq with rfl | rfl | rfl; exact HB1.out; exact HB2.out; exact HB3.out), (by intro t ht h; simp only [List.mem_cons, List.not_mem_nil, or_false] at ht; subst ht <;> exact absurd (h _ rfl) (by simp)), (by intro t u h1 h2 hd; simp only [List.mem_singleton] at h1 h2; subst h1; subst h2; exact absurd rfl hd)⟩
 ·intro i o f A W hi hJ hf hdep hdn hcl hfr hsz
  rcases i with _ | _ | _ | _ | _ | _ | _ | i
  all_goals (simp at hi)
  all_goals (try subst hi)
  ·have t2 := hfr 2 (by simp)
   have hb0 : BlkC 28 W w.heap.size [.slice a n n, .bool b] := hJ.kept (28, w.heap.size, [.slice a n n, .bool b]) (by simp)
   have x00 : W.cell? ⟨w.heap.size, 0, none⟩ = some (.slice a n n) := by rw [hb0.cell 0]; rfl
   have x01 : W.cell? ⟨w.heap.size, 1, none⟩ = some (.bool b) := by rw [hb0.cell 1]; rfl
   refine par_value (v := .agg #[.slice a n n, .bool b]) (w' := W) ?_ ⟨Keep.refl _, hJ.same _ _ _ (by simp), HX.out.keep hJ.k⟩
   simp [go_sem, Act.eval, t2, x00, x01]
  ·have t7 : ZIs W (A.tmps.getD 7 undef) (x) := hdep 0 _ 7 rfl (by kernel_rfl) rfl
   refine par_call (w' := W) (f := 61) (xs := #[A.tmps.getD 7 undef]) (by simp [go_sem, Act.eval]) ?_
   refine (abs_any x _ _ t7).mono ?_
   rintro e w1 ⟨r, rfl, hr, hg1⟩
   exact ⟨r, rfl, Gr.keep hg1, hJ.gr hg1.b _ _ _ (by simp), hr⟩
  ·have t3 := hfr 3 (by simp)
   have hb1 : BlkC 28 W (w.heap.size + 1) [.slice c m m, .bool d] := hJ.kept (28, (w.heap.size + 1), [.slice c m m, .bool d]) (by simp)
   have x10 : W.cell? ⟨(w.heap.size + 1), 0, none⟩ = some (.slice c m m) := by rw [hb1.cell 0]; rfl
   have x11 : W.cell? ⟨(w.heap.size + 1), 1, none⟩ = some (.bool d) := by rw [hb1.cell 1]; rfl
   refine par_value (v := .agg #[.slice c m m, .bool d]) (w' := W) ?_ ⟨Keep.refl _, hJ.same _ _ _ (by simp), HY.out.keep hJ.k⟩
   simp [go_sem, Act.eval, t3, x10, x11]
  ·have t9 : ZIs W (A.tmps.getD 9 undef) (y) := hdep 2 _ 9 rfl (by kernel_rfl) rfl
   refine par_call (w' := W) (f := 61) (xs := #[A.tmps.getD 9 undef]) (by simp [go_sem, Act.eval]) ?_
   refine (abs_any y _ _ t9).mono ?_
   rintro e w1 ⟨r, rfl, hr, hg1⟩
   exact ⟨r, rfl, Gr.keep hg1, hJ.gr hg1.b _ _ _ (by simp), hr⟩
  ·have t8 : NatIs W (A.tmps.getD 8 undef) (x.natAbs) := hdep 1 _ 8 rfl (by kernel_rfl) rfl
   have t10 : NatIs W (A.tmps.getD 10 undef) (y.natAbs) := hdep 3 _ 10 rfl (by kernel_rfl) rfl
   refine par_call (w' := W) (f := 62) (xs := #[A.tmps.getD 8 undef, A.tmps.getD 10 undef]) (by simp [go_sem, Act.eval]) ?_
   refine (natGcd_any _ _ _ _ _ t8 t10 HXL.out HYL.out).mono ?_
   rintro e w1 ⟨r, rfl, hr, hg1⟩
   exact ⟨r, rfl, keep_below hg1, hJ.gr hg1 _ _ _ (by simp), hr⟩
  ·have hst : f 6 = false := by
    cases h : f 6 with
    | false => rfl
    | true => rw [hcl 6 _ 5 rfl h (by kernel_rfl)] at hf; cases hf
   refine par_value (v := .pointer (some ⟨W.heap.size, 0, none⟩)) (w' := W.alloc (.cells #[.slice none 0 0] 26)) ?_ ⟨keep_alloc _ _, hJ.new (t0 := tgN 5 (some 5) 6 (Nat.gcd x.natAbs y.natAbs)) (cs := [.slice none 0 0]) 5 (by simp) rfl (by rw [hsz]; simp) hst (by simp) (by simp) ⟨_, rfl⟩, trivial⟩
   simp [go_sem]
  ·have t11 : NatIs W (A.tmps.getD 11 undef) ((Nat.gcd x.natAbs y.natAbs)) := hdep 4 _ 11 rfl (by kernel_rfl) rfl
   obtain ⟨g9, cs9, hp9, hb9, hk9⟩ := hJ.ahead (t0 := tgN 5 (some 5) 6 (Nat.gcd x.natAbs y.natAbs)) (by simp) (fun j hj => by cases hj; exact hdn 5 (by kernel_rfl)) hf
   obtain ⟨y0, rfl⟩ := hk9
   obtain ⟨a8, n8, e8⟩ := nat_parts t11
   have hv8 := t11
   rw [e8] at hv8
   have c0 : W.cell? ⟨g9, 0, none⟩ = some y0 := by rw [hb9.cell 0]; rfl
   have f0 := hb9.free 0
   obtain ⟨k1, k2, k3⟩ := set1_all (T := 26) hb9 (by decide) (.slice a8 n8 n8)
   refine par_skip ?_ ⟨k2, hJ.put 6 undef (by simp) (fun j hj => by cases hj; exact hdn 5 (by kernel_rfl)) rfl hp9 k1 k2 k3 (NatIs.keep hv8 k2) (by simp) (by simp), trivial⟩
   simp [go_sem, Act.eval, hp9, e8, c0, f0]
 ·intro vs1 W1 hJ1 hs1
  obtain ⟨g5, cs5, p5, _, b5, k5, n5⟩ := hJ1.at' (tgN 5 (some 5) 6 (Nat.gcd x.natAbs y.natAbs)) (by simp) (fun j hj => rfl)
  have e5 : vs1 5 = .pointer (some ⟨g5, 0, none⟩) := by simpa [putAll, Act.put] using p5
  have k5' : NatIs W1 (.agg cs5.toArray) (Nat.gcd x.natAbs y.natAbs) := k5
  obtain ⟨ga, gn, rfl⟩ := nat_cs k5'
  have HG5 : Hid (NatIs W1 (.agg #[.slice ga gn gn]) (Nat.gcd x.natAbs y.natAbs)) := k5'
  have HC1 : Hid (BlkC 28 W1 w.heap.size [.slice a n n, .bool b]) := hJ1.kept (28, w.heap.size, [.slice a n n, .bool b]) (by simp)
  have HC2 : Hid (BlkC 28 W1 (w.heap.size + 1) [.slice c m m, .bool d]) := hJ1.kept (28, (w.heap.size + 1), [.slice c m m, .bool d]) (by simp)
  have HC3 : Hid (BlkC 30 W1 (w.heap.size + 1 + 1) [.slice none 0 0, .bool false, .slice none 0 0, .bool false]) := hJ1.kept (30, (w.heap.size + 1 + 1), [.slice none 0 0, .bool false, .slice none 0 0, .bool false]) (by simp)
  have HC5 : Hid (BlkC 26 W1 g5 [.slice ga gn gn]) := b5
  have u1 : w.heap.size ≠ g5 := n5 (28, w.heap.size, [.slice a n n, .bool b]) (by simp)
  have u2 : w.heap.size + 1 ≠ g5 := n5 (28, (w.heap.size + 1), [.slice c m m, .bool d]) (by simp)
  have u3 : w.heap.size + 1 + 1 ≠ g5 := n5 (30, (w.heap.size + 1 + 1), [.slice none 0 0, .bool false, .slice none 0 0, .bool false]) (by simp)
  have HXW : Hid (ZIs W1 (.agg #[.slice a n n, .bool b]) x) := HX.out.keep hJ1.k
  have HYW : Hid (ZIs W1 (.agg #[.slice c m m, .bool d]) y) := HY.out.keep hJ1.k
  have HBW : Hid (Below w.heap.size w W1) := hJ1.b
  clear p5 b5 k5 k5' n5 hJ1 hs1 HB1 HB2 HB3 HB HX HY
  simp only [putAll, List.foldl_cons, List.foldl_nil, Act.put, List.setIfInBounds_toArray, List.set_cons_succ, List.set_cons_zero, e5]
  clear e5
  go_wp2_with fail
  refine (natOf_any 1 _ (by omega)).mono ?_
  rintro e w1 ⟨v1, rfl, hv1, hg1⟩
  obtain ⟨oa, on, rfl⟩ := nat_parts hv1
  have HE5 := Lib.hid (HC5.out.still (Gr.grown hg1))
  have HO : Hid (NatIs w1 (.agg #[.slice oa on on]) 1) := hv1
  have HG1 := Lib.hid hg1
  have x50 : w1.cell? ⟨g5, 0, none⟩ = some (.slice ga gn gn) := by rw [HE5.out.cell 0]; rfl
  have l5 := HE5.out.lt
  clear hv1 hg1
  go_wp2_with fail
  refine (natCmp_any (Nat.gcd x.natAbs y.natAbs) 1 _ _ _ ((Gr.natIs HG1.out HG5.out).keep (keep_alloc _ _)) (HO.out.keep (keep_alloc _ _)) HGL.out).mono ?_
  rintro e w2 ⟨rfl, hg2⟩
  have gr2 : W1.grownBy w2 none := grown_trans (Gr.grown HG1.out) (grown_trans (grown_alloc _ _ none) (Gr.grown hg2))
  have HS1 := Lib.hid (HC1.out.still gr2)
  have HS2 := Lib.hid (HC2.out.still gr2)
  have HS3 := Lib.hid (HC3.out.still gr2)
  have HS5 := Lib.hid (HC5.out.still gr2)
  have HSX := Lib.hid (HXW.out.keep (keep_grown gr2))
  have HSY := Lib.hid (HYW.out.keep (keep_grown gr2))
  have HxG := Lib.hid (NatIs.keep HG5.out (keep_grown gr2))
  have HSB : Hid (Below w.heap.size w w2) := HBW.out.grown gr2 HBW.out.size (by simp)
  clear x50 l5 hg2 gr2 HC1 HC2 HC3 HC5 HXW HYW HBW HG5 HE5 HO HG1
  by_cases hG1 : (Nat.gcd x.natAbs y.natAbs) = 1
  ·rw [show cmpZ (((Nat.gcd x.natAbs y.natAbs) : Nat) : Int) ((1 : Nat) : Int) = 0 by rw [hG1]; rfl]
   have hSX : ZIs w2 (.agg #[.slice a n n, .bool b]) (x / (((Nat.gcd x.natAbs y.natAbs) : Nat) : Int)) := by rw [hG1]; simpa using HSX.out
   have hSY : ZIs w2 (.agg #[.slice c m m, .bool d]) (y / (((Nat.gcd x.natAbs y.natAbs) : Nat) : Int)) := by rw [hG1]; simpa using HSY.out
   clear HSX HSY hG1
   have HSX := Lib.hid hSX
   have HSY := Lib.hid hSY
   clear hSX hSY HS5 HxG
   have HLX : Hid ((limbs (x / (((Nat.gcd x.natAbs y.natAbs) : Nat) : Int)).natAbs).length ≤ 1000000) := Nat.le_trans quo_len (by have := HXL.out; omega)
   have HLY : Hid ((limbs (y / (((Nat.gcd x.natAbs y.natAbs) : Nat) : Int)).natAbs).length ≤ 1000000) := Nat.le_trans quo_len (by have := HYL.out; omega)
   obtain ⟨d0, d1, d2, d3, d4⟩ := blk2 HS2.out
   go_wp2_with fail
   refine (sign_any (y / (((Nat.gcd x.natAbs y.natAbs) : Nat) : Int)) _ _ HSY.out HLY.out).mono ?_
   rintro e w9 ⟨rfl, hg9⟩
   have HT1 := Lib.hid (HS1.out.still (Gr.grown hg9))
   have HT2 := Lib.hid (HS2.out.still (Gr.grown hg9))
   have HT3 := Lib.hid (HS3.out.still (Gr.grown hg9))
   have HTX := Lib.hid (Gr.zIs hg9 HSX.out)
   have HTY := Lib.hid (Gr.zIs hg9 HSY.out)
   have HTB : Hid (Below w.heap.size w w9) := HSB.out.trans (hg9.b.mono HSB.out.size)
   clear hg9 d0 d1 d2 d3 d4 HS1 HS2 HS3 HSX HSY HSB
   by_cases hn : (y / (((Nat.gcd x.natAbs y.natAbs) : Nat) : Int)) < 0
   ·rw [show signZ (y / (((Nat.gcd x.natAbs y.natAbs) : Nat) : Int)) = -1 from if_pos hn]
    go_wp2_with fail
    refine region_mem (s := fun | 0 => .z ((x / (((Nat.gcd x.natAbs y.natAbs) : Nat) : Int))) | 1 => .z (-(x / (((Nat.gcd x.natAbs y.natAbs) : Nat) : Int))) | 2 => .z ((y / (((Nat.gcd x.natAbs y.natAbs) : Nat) : Int))) | 3 => .z (-(y / (((Nat.gcd x.natAbs y.natAbs) : Nat) : Int))) | 4 => .any | 5 => .any | _ => .any) (J := MM w.heap.size w w9 [(30, (w.heap.size + 1 + 1), [.slice none 0 0, .bool false, .slice none 0 0, .bool false])] [tgZ 2 none 4 (some (x / (((Nat.gcd x.natAbs y.natAbs) : Nat) : Int))) (-(x / (((Nat.gcd x.natAbs y.natAbs) : Nat) : Int))), tgZ 3 none 5 (some (y / (((Nat.gcd x.natAbs y.natAbs) : Nat) : Int))) (-(y / (((Nat.gcd x.natAbs y.natAbs) : Nat) : Int)))]) (by kernel_rfl) (by kernel_rfl) rfl (fun f g a w hn h => MM.ext (n := 6) (by simp) hn h) ?_ ?_ ?_
    ·refine ⟨below_same HTB.out rfl rfl rfl rfl, fun _ _ h => h, HTB.out.size, (by intro q hq; simp only [List.mem_cons, List.not_mem_nil, or_false] at hq; subst hq; exact HT3.out), ?_, ?_⟩
     ·intro t ht h
      simp only [List.mem_cons, List.not_mem_nil, or_false] at ht
      rcases ht with rfl | rfl
      ·exact ⟨w.heap.size, _, rfl, Nat.le_refl _, HT1.out, ⟨⟨_, _, rfl⟩, fun p hp => by cases hp; exact zc_of HTX.out⟩, by intro q hq; simp only [List.mem_singleton] at hq; subst hq; simp; omega⟩
      ·exact ⟨w.heap.size + 1, _, rfl, by omega, HT2.out, ⟨⟨_, _, rfl⟩, fun p hp => by cases hp; exact zc_of HTY.out⟩, by intro q hq; simp only [List.mem_singleton] at hq; subst hq; simp⟩
     ·intro t u h1 h2 hd _ _
      simp only [List.mem_cons, List.not_mem_nil, or_false] at h1 h2
      rcases h1 with rfl | rfl <;> rcases h2 with rfl | rfl
      ·exact absurd rfl hd
      ·simp
      ·simp
      ·exact absurd rfl hd
    ·intro i o f A W hi hJ hf hdep hdn hcl hfr hsz
     rcases i with _ | _ | _ | _ | _ | _ | i
     all_goals (simp at hi)
     all_goals (try subst hi)
     ·have hst : f 4 = false := by
       cases h : f 4 with
       | false => rfl
       | true => rw [hcl 4 _ 0 rfl h (by kernel_rfl)] at hf; cases hf
      obtain ⟨g9, cs9, hp9, hb9, hk9⟩ := hJ.ahead (t0 := tgZ 2 none 4 (some (x / (((Nat.gcd x.natAbs y.natAbs) : Nat) : Int))) (-(x / (((Nat.gcd x.natAbs y.natAbs) : Nat) : Int)))) (by simp) (fun j hj => by cases hj) hst
      obtain ⟨a9, n9, b9, rfl⟩ := zc_parts (hk9.2 _ rfl)
      obtain ⟨c0, c1, f0, f1, l0⟩ := blk2 hb9
      refine par_value (v := .agg #[.slice a9 n9 n9, .bool b9]) (w' := W) ?_ ⟨Keep.refl _, hJ.same _ _ _ (by simp), ⟨_, rfl, hk9.2 _ rfl⟩⟩
      simp [go_sem, Act.eval, hp9, c0, c1]
     ·have t36 : ZIs W (A.tmps.getD 36 undef) ((x / (((Nat.gcd x.natAbs y.natAbs) : Nat) : Int))) := hdep 0 _ 36 rfl (by kernel_rfl) rfl
      refine par_call (w' := W) (f := 65) (xs := #[A.tmps.getD 36 undef]) (by simp [go_sem, Act.eval]) ?_
      refine (neg_any (x / (((Nat.gcd x.natAbs y.natAbs) : Nat) : Int)) _ _ t36 HLX.out).mono ?_
      rintro e w1 ⟨r, rfl, hr, hg1⟩
      exact ⟨r, rfl, Gr.keep hg1, hJ.gr hg1.b _ _ _ (by simp), hr⟩
     ·have hst : f 5 = false := by
       cases h : f 5 with
       | false => rfl
       | true => rw [hcl 5 _ 2 rfl h (by kernel_rfl)] at hf; cases hf
      obtain ⟨g9, cs9, hp9, hb9, hk9⟩ := hJ.ahead (t0 := tgZ 3 none 5 (some (y / (((Nat.gcd x.natAbs y.natAbs) : Nat) : Int))) (-(y / (((Nat.gcd x.natAbs y.natAbs) : Nat) : Int)))) (by simp) (fun j hj => by cases hj) hst
      obtain ⟨a9, n9, b9, rfl⟩ := zc_parts (hk9.2 _ rfl)
      obtain ⟨c0, c1, f0, f1, l0⟩ := blk2 hb9
      refine par_value (v := .agg #[.slice a9 n9 n9, .bool b9]) (w' := W) ?_ ⟨Keep.refl _, hJ.same _ _ _ (by simp), ⟨_, rfl, hk9.2 _ rfl⟩⟩
      simp [go_sem, Act.eval, hp9, c0, c1]
     ·have t38 : ZIs W (A.tmps.getD 38 undef) ((y / (((Nat.gcd x.natAbs y.natAbs) : Nat) : Int))) := hdep 2 _ 38 rfl (by kernel_rfl) rfl
      refine par_call (w' := W) (f := 65) (xs := #[A.tmps.getD 38 undef]) (by simp [go_sem, Act.eval]) ?_
      refine (neg_any (y / (((Nat.gcd x.natAbs y.natAbs) : Nat) : Int)) _ _ t38 HLY.out).mono ?_
      rintro e w1 ⟨r, rfl, hr, hg1⟩
      exact ⟨r, rfl, Gr.keep hg1, hJ.gr hg1.b _ _ _ (by simp), hr⟩
     ·have t37 : ZIs W (A.tmps.getD 37 undef) (-(x / (((Nat.gcd x.natAbs y.natAbs) : Nat) : Int))) := hdep 1 _ 37 rfl (by kernel_rfl) rfl
      obtain ⟨g9, cs9, hp9, hb9, hk9⟩ := hJ.ahead (t0 := tgZ 2 none 4 (some (x / (((Nat.gcd x.natAbs y.natAbs) : Nat) : Int))) (-(x / (((Nat.gcd x.natAbs y.natAbs) : Nat) : Int)))) (by simp) (fun j hj => by cases hj) hf
      obtain ⟨⟨y0, y1, rfl⟩, _⟩ := hk9
      obtain ⟨a8, n8, b8, e8⟩ := t37.parts
      have hv8 := t37
      rw [e8] at hv8
      obtain ⟨c0, c1, f0, f1, l0⟩ := blk2 hb9
      obtain ⟨k1, k2, k3⟩ := set2_all (T := 28) hb9 (by decide) (.slice a8 n8 n8) (.bool b8)
      refine par_skip ?_ ⟨k2, hJ.put 4 undef (by simp) (fun j hj => by cases hj) rfl hp9 k1 k2 k3 (zc_of (hv8.keep k2)) (by simp) (by simp), trivial⟩
      simp [go_sem, Act.eval, hp9, e8, c0, c1, f0, f1]
     ·have t39 : ZIs W (A.tmps.getD 39 undef) (-(y / (((Nat.gcd x.natAbs y.natAbs) : Nat) : Int))) := hdep 3 _ 39 rfl (by kernel_rfl) rfl
      obtain ⟨g9, cs9, hp9, hb9, hk9⟩ := hJ.ahead (t0 := tgZ 3 none 5 (some (y / (((Nat.gcd x.natAbs y.natAbs) : Nat) : Int))) (-(y / (((Nat.gcd x.natAbs y.natAbs) : Nat) : Int)))) (by simp) (fun j hj => by cases hj) hf
      obtain ⟨⟨y0, y1, rfl⟩, _⟩ := hk9
      obtain ⟨a8, n8, b8, e8⟩ := t39.parts
      have hv8 := t39
      rw [e8] at hv8
      obtain ⟨c0, c1, f0, f1, l0⟩ := blk2 hb9
      obtain ⟨k1, k2, k3⟩ := set2_all (T := 28) hb9 (by decide) (.slice a8 n8 n8) (.bool b8)
      refine par_skip ?_ ⟨k2, hJ.put 5 undef (by simp) (fun j hj => by cases hj) rfl hp9 k1 k2 k3 (zc_of (hv8.keep k2)) (by simp) (by simp), trivial⟩
      simp [go_sem, Act.eval, hp9, e8, c0, c1, f0, f1]
    ·intro vs7a W7a hJ7a hs7a
     obtain ⟨gA, csA, pA, _, bA, kA, _⟩ := hJ7a.at' (tgZ 2 none 4 (some (x / (((Nat.gcd x.natAbs y.natAbs) : Nat) : Int))) (-(x / (((Nat.gcd x.natAbs y.natAbs) : Nat) : Int)))) (by simp) (fun j hj => by cases hj)
     obtain ⟨gB, csB, pB, _, bB, kB, _⟩ := hJ7a.at' (tgZ 3 none 5 (some (y / (((Nat.gcd x.natAbs y.natAbs) : Nat) : Int))) (-(y / (((Nat.gcd x.natAbs y.natAbs) : Nat) : Int)))) (by simp) (fun j hj => by cases hj)
     have eA : gA = w.heap.size := ptr_eq (by simpa [putAll, Act.put] using pA)
     have eB : gB = w.heap.size + 1 := ptr_eq (by simpa [putAll, Act.put] using pB)
     subst eA
     subst eB
     have kA' : ZC W7a csA (-(x / (((Nat.gcd x.natAbs y.natAbs) : Nat) : Int))) := kA
     have kB' : ZC W7a csB (-(y / (((Nat.gcd x.natAbs y.natAbs) : Nat) : Int))) := kB
     obtain ⟨aA, nA, bbA, rfl⟩ := zc_parts kA'
     obtain ⟨aB, nB, bbB, rfl⟩ := zc_parts kB'
     have HU1 : Hid (BlkC 28 W7a w.heap.size [.slice aA nA nA, .bool bbA]) := bA
     have HU2 : Hid (BlkC 28 W7a (w.heap.size + 1) [.slice aB nB nB, .bool bbB]) := bB
     have HU3 : Hid (BlkC 30 W7a (w.heap.size + 1 + 1) [.slice none 0 0, .bool false, .slice none 0 0, .bool false]) := hJ7a.kept (30, (w.heap.size + 1 + 1), [.slice none 0 0, .bool false, .slice none 0 0, .bool false]) (by simp)
     have HUX : Hid (ZIs W7a (.agg #[.slice aA nA nA, .bool bbA]) (-(x / (((Nat.gcd x.natAbs y.natAbs) : Nat) : Int)))) := ⟨_, rfl, kA'⟩
     have HUY : Hid (ZIs W7a (.agg #[.slice aB nB nB, .bool bbB]) (-(y / (((Nat.gcd x.natAbs y.natAbs) : Nat) : Int)))) := ⟨_, rfl, kB'⟩
     have HUB : Hid (Below w.heap.size w W7a) := hJ7a.b
     clear pA pB bA bB kA kB kA' kB' hJ7a hs7a HT1 HT2 HT3 HTX HTY HTB
     have HT1 := HU1
     have HT2 := HU2
     have HT3 := HU3
     have HTB := HUB
     clear HU1 HU2 HU3 HUB
     simp only [putAll, List.foldl_cons, List.foldl_nil, Act.put, List.setIfInBounds_toArray, List.set_cons_succ, List.set_cons_zero]
     obtain ⟨c0, c1, c2, c3, c4⟩ := blk2 HT1.out
     obtain ⟨d0, d1, d2, d3, d4⟩ := blk2 HT2.out
     obtain ⟨i0, i1, i2, i3⟩ := blk4 HT3.out
     obtain ⟨j0, j1, j2, j3, j4⟩ := blk4f HT3.out
     have hnum := (low_num x y (Nat.gcd x.natAbs y.natAbs) rfl HD0.out).1
     have hden := (low_num x y (Nat.gcd x.natAbs y.natAbs) rfl HD0.out).2
     rw [if_pos hn] at hnum hden
     go_wp2_with fail
     obtain ⟨s1, s2⟩ := r_shut (r_mk (q := Rat.divInt x y) (by rw [hnum]; exact HUX.out) (by rw [hden]; exact HUY.out)) HT3.out (by decide)
     exact r_ret rfl rfl rfl s1 ⟨_, rfl, s2, below_set4 HTB.out (by omega) _ _ _ _⟩
   ·have hsg : ¬ signZ (y / (((Nat.gcd x.natAbs y.natAbs) : Nat) : Int)) < 0 := by unfold signZ; rw [if_neg hn]; split <;> omega
    obtain ⟨c0, c1, c2, c3, c4⟩ := blk2 HT1.out
    obtain ⟨d0, d1, d2, d3, d4⟩ := blk2 HT2.out
    obtain ⟨i0, i1, i2, i3⟩ := blk4 HT3.out
    obtain ⟨j0, j1, j2, j3, j4⟩ := blk4f HT3.out
    have hnum := (low_num x y (Nat.gcd x.natAbs y.natAbs) rfl HD0.out).1
    have hden := (low_num x y (Nat.gcd x.natAbs y.natAbs) rfl HD0.out).2
    rw [if_neg hn] at hnum hden
    go_wp2_with fail
    obtain ⟨s1, s2⟩ := r_shut (r_mk (q := Rat.divInt x y) (by rw [hnum]; exact HTX.out) (by rw [hden]; exact HTY.out)) HT3.out (by decide)
    exact r_ret rfl rfl rfl s1 ⟨_, rfl, s2, below_set4 HTB.out (by omega) _ _ _ _⟩
  ·have hcc : cmpZ (((Nat.gcd x.natAbs y.natAbs) : Nat) : Int) ((1 : Nat) : Int) ≠ 0 := by
    have := HGP.out
    unfold cmpZ
    rw [if_neg (by omega), if_pos (by omega)]
    decide
   generalize cmpZ (((Nat.gcd x.natAbs y.natAbs) : Nat) : Int) ((1 : Nat) : Int) = cc at hcc ⊢
   have hcb : (cc == 0) = false := beq_false_of_ne hcc
   clear hG1
   go_wp2_with fail
   refine region_mem (s := fun | 0 => .z (x) | 1 => .n ((Nat.gcd x.natAbs y.natAbs)) | 2 => .z ((((Nat.gcd x.natAbs y.natAbs) : Nat) : Int)) | 3 => .p (T3 (x / (((Nat.gcd x.natAbs y.natAbs) : Nat) : Int))) T3.keep | 4 => .p (T3 (x / (((Nat.gcd x.natAbs y.natAbs) : Nat) : Int))) T3.keep | 5 => .z (x / (((Nat.gcd x.natAbs y.natAbs) : Nat) : Int)) | 6 => .any | 7 => .any | 8 => .any | _ => .any) (J := MM w.heap.size w w2 [(28, (w.heap.size + 1), [.slice c m m, .bool d]), (30, (w.heap.size + 1 + 1), [.slice none 0 0, .bool false, .slice none 0 0, .bool false]), (26, g5, [.slice ga gn gn])] [tgZ 2 none 8 (some x) (x / (((Nat.gcd x.natAbs y.natAbs) : Nat) : Int))]) (by kernel_rfl) (by kernel_rfl) rfl (fun f g a w hn h => MM.ext (n := 9) (by simp) hn h) ?_ ?_ ?_
   ·refine ⟨below_same HSB.out rfl rfl rfl rfl, fun _ _ h => h, HSB.out.size, (by intro q hq; simp only [List.mem_cons, List.not_mem_nil, or_false] at hq; rcases hq with rfl | rfl | rfl; exact HS2.out; exact HS3.out; exact HS5.out), ?_, (by intro t u h1 h2 hd; simp only [List.mem_singleton] at h1 h2; subst h1; subst h2; exact absurd rfl hd)⟩
    intro t ht h
    simp only [List.mem_cons, List.not_mem_nil, or_false] at ht
    subst ht
    exact ⟨w.heap.size, _, rfl, by omega, HS1.out, ⟨⟨_, _, rfl⟩, fun p hp => by cases hp; exact zc_of HSX.out⟩, by intro q hq; simp only [List.mem_cons, List.not_mem_nil, or_false] at hq; rcases hq with rfl | rfl | rfl <;> simp <;> omega⟩
   ·intro i o f A W hi hJ hf hdep hdn hcl hfr hsz
    rcases i with _ | _ | _ | _ | _ | _ | _ | _ | _ | i
    all_goals (simp at hi)
    all_goals (try subst hi)
    ·have hst : f 8 = false := by
      cases h : f 8 with
      | false => rfl
      | true => rw [hcl 8 _ 0 rfl h (by kernel_rfl)] at hf; cases hf
     obtain ⟨g9, cs9, hp9, hb9, hk9⟩ := hJ.ahead (t0 := tgZ 2 none 8 (some x) (x / (((Nat.gcd x.natAbs y.natAbs) : Nat) : Int))) (by simp) (fun j hj => by cases hj) hst
     obtain ⟨a9, n9, b9, rfl⟩ := zc_parts (hk9.2 _ rfl)
     obtain ⟨c0, c1, f0, f1, l0⟩ := blk2 hb9
     refine par_value (v := .agg #[.slice a9 n9 n9, .bool b9]) (w' := W) ?_ ⟨Keep.refl _, hJ.same _ _ _ (by simp), ⟨_, rfl, hk9.2 _ rfl⟩⟩
     simp [go_sem, Act.eval, hp9, c0, c1]
    ·have t5 := hfr 5 (by simp)
     have hb2 : BlkC 26 W g5 [.slice ga gn gn] := hJ.kept (26, g5, [.slice ga gn gn]) (by simp)
     have x20 : W.cell? ⟨g5, 0, none⟩ = some (.slice ga gn gn) := by rw [hb2.cell 0]; rfl
     refine par_value (v := .agg #[.slice ga gn gn]) (w' := W) ?_ ⟨Keep.refl _, hJ.same _ _ _ (by simp), HxG.out.keep hJ.k⟩
     simp [go_sem, Act.eval, t5, x20]
    ·have t19 : NatIs W (A.tmps.getD 19 undef) ((Nat.gcd x.natAbs y.natAbs)) := hdep 1 _ 19 rfl (by kernel_rfl) rfl
     refine par_call (w' := W) (f := 64) (xs := #[A.tmps.getD 19 undef]) (by simp [go_sem, Act.eval]) ?_
     refine (big_any (Nat.gcd x.natAbs y.natAbs) _ _ t19 HGL.out).mono ?_
     rintro e w1 ⟨r, rfl, hr, hg1⟩
     exact ⟨r, rfl, Gr.keep hg1, hJ.gr hg1.b _ _ _ (by simp), hr⟩
    ·have t18 : ZIs W (A.tmps.getD 18 undef) (x) := hdep 0 _ 18 rfl (by kernel_rfl) rfl
     have t20 : ZIs W (A.tmps.getD 20 undef) ((((Nat.gcd x.natAbs y.natAbs) : Nat) : Int)) := hdep 2 _ 20 rfl (by kernel_rfl) rfl
     refine par_call (w' := W) (f := 63) (xs := #[A.tmps.getD 18 undef, A.tmps.getD 20 undef]) (by simp [go_sem, Act.eval]) ?_
     refine (floor_exact x (Nat.gcd x.natAbs y.natAbs) _ _ _ t18 t20 HGP.out HxD.out HXL.out).mono ?_
     rintro e w1 ⟨r, rfl, hr, hg1⟩
     exact ⟨r, rfl, keep_below hg1, hJ.gr hg1 _ _ _ (by simp), hr⟩
    ·have t21 : T3 (x / (((Nat.gcd x.natAbs y.natAbs) : Nat) : Int)) W (A.tmps.getD 21 undef) := hdep 3 _ 21 rfl (by kernel_rfl) rfl
     refine par_value (v := A.tmps.getD 21 undef) (w' := W) ?_ ⟨Keep.refl _, hJ.same _ _ _ (by simp), t21⟩
     simp [go_sem, Act.eval]
    ·have t17 : T3 (x / (((Nat.gcd x.natAbs y.natAbs) : Nat) : Int)) W (A.tmps.getD 17 undef) := hdep 4 _ 17 rfl (by kernel_rfl) rfl
     obtain ⟨e0, e1, e2, q17, qh⟩ := t17
     refine par_value (v := e0) (w' := W) ?_ ⟨Keep.refl _, hJ.same _ _ _ (by simp), qh⟩
     simp [go_sem, Act.eval, q17]
    ·have t17 : T3 (x / (((Nat.gcd x.natAbs y.natAbs) : Nat) : Int)) W (A.tmps.getD 17 undef) := hdep 4 _ 17 rfl (by kernel_rfl) rfl
     obtain ⟨e0, e1, e2, q17, qh⟩ := t17
     refine par_value (v := e1) (w' := W) ?_ ⟨Keep.refl _, hJ.same _ _ _ (by simp), trivial⟩
     simp [go_sem, Act.eval, q17]
    ·have t17 : T3 (x / (((Nat.gcd x.natAbs y.natAbs) : Nat) : Int)) W (A.tmps.getD 17 undef) := hdep 4 _ 17 rfl (by kernel_rfl) rfl
     obtain ⟨e0, e1, e2, q17, qh⟩ := t17
     refine par_value (v := e2) (w' := W) ?_ ⟨Keep.refl _, hJ.same _ _ _ (by simp), trivial⟩
     simp [go_sem, Act.eval, q17]
    ·have t22 : ZIs W (A.tmps.getD 22 undef) (x / (((Nat.gcd x.natAbs y.natAbs) : Nat) : Int)) := hdep 5 _ 22 rfl (by kernel_rfl) rfl
     obtain ⟨g9, cs9, hp9, hb9, hk9⟩ := hJ.ahead (t0 := tgZ 2 none 8 (some x) (x / (((Nat.gcd x.natAbs y.natAbs) : Nat) : Int))) (by simp) (fun j hj => by cases hj) hf
     obtain ⟨⟨y0, y1, rfl⟩, _⟩ := hk9
     obtain ⟨a8, n8, b8, e8⟩ := t22.parts
     have hv8 := t22
     rw [e8] at hv8
     obtain ⟨c0, c1, f0, f1, l0⟩ := blk2 hb9
     obtain ⟨k1, k2, k3⟩ := set2_all (T := 28) hb9 (by decide) (.slice a8 n8 n8) (.bool b8)
     refine par_skip ?_ ⟨k2, hJ.put 8 undef (by simp) (fun j hj => by cases hj) rfl hp9 k1 k2 k3 (zc_of (hv8.keep k2)) (by simp) (by simp), trivial⟩
     simp [go_sem, Act.eval, hp9, e8, c0, c1, f0, f1]
   ·intro vs4 W4 hJ4 hs4
    obtain ⟨gA, csA, pA, _, bA, kA, _⟩ := hJ4.at' (tgZ 2 none 8 (some x) (x / (((Nat.gcd x.natAbs y.natAbs) : Nat) : Int))) (by simp) (fun j hj => by cases hj)
    have eA : gA = w.heap.size := ptr_eq (by simpa [putAll, Act.put] using pA)
    subst eA
    have kA' : ZC W4 csA (x / (((Nat.gcd x.natAbs y.natAbs) : Nat) : Int)) := kA
    obtain ⟨a4, n4, b4, rfl⟩ := zc_parts kA'
    have HU1 : Hid (BlkC 28 W4 (w.heap.size) [.slice a4 n4 n4, .bool b4]) := bA
    have HU2 : Hid (BlkC 28 W4 (w.heap.size + 1) [.slice c m m, .bool d]) := hJ4.kept (28, (w.heap.size + 1), [.slice c m m, .bool d]) (by simp)
    have HU3 : Hid (BlkC 30 W4 (w.heap.size + 1 + 1) [.slice none 0 0, .bool false, .slice none 0 0, .bool false]) := hJ4.kept (30, (w.heap.size + 1 + 1), [.slice none 0 0, .bool false, .slice none 0 0, .bool false]) (by simp)
    have HU5 : Hid (BlkC 26 W4 g5 [.slice ga gn gn]) := hJ4.kept (26, g5, [.slice ga gn gn]) (by simp)
    have HUX : Hid (ZIs W4 (.agg #[.slice a4 n4 n4, .bool b4]) (x / (((Nat.gcd x.natAbs y.natAbs) : Nat) : Int))) := ⟨_, rfl, kA'⟩
    have HUY := Lib.hid (HSY.out.keep hJ4.k)
    have HUG := Lib.hid (NatIs.keep HxG.out hJ4.k)
    have HUB : Hid (Below w.heap.size w W4) := hJ4.b
    clear pA bA kA kA' hJ4 hs4 HS1 HS2 HS3 HS5 HSX HSY HSB HxG
    have HS1 := HU1
    have HS2 := HU2
    have HS3 := HU3
    have HS5 := HU5
    have HSX := HUX
    have HSY := HUY
    have HSB := HUB
    have HxG := HUG
    clear HU1 HU2 HU3 HU5 HUX HUY HUB HUG
    simp only [putAll, List.foldl_cons, List.foldl_nil, Act.put, List.setIfInBounds_toArray, List.set_cons_succ, List.set_cons_zero]
    go_wp2_with fail
    refine region_mem (s := fun | 0 => .z (y) | 1 => .n ((Nat.gcd x.natAbs y.natAbs)) | 2 => .z ((((Nat.gcd x.natAbs y.natAbs) : Nat) : Int)) | 3 => .p (T3 (y / (((Nat.gcd x.natAbs y.natAbs) : Nat) : Int))) T3.keep | 4 => .p (T3 (y / (((Nat.gcd x.natAbs y.natAbs) : Nat) : Int))) T3.keep | 5 => .z (y / (((Nat.gcd x.natAbs y.natAbs) : Nat) : Int)) | 6 => .any | 7 => .any | 8 => .any | _ => .any) (J := MM w.heap.size w W4 [(28, w.heap.size, [.slice a4 n4 n4, .bool b4]), (30, (w.heap.size + 1 + 1), [.slice none 0 0, .bool false, .slice none 0 0, .bool false]), (26, g5, [.slice ga gn gn])] [tgZ 3 none 8 (some y) (y / (((Nat.gcd x.natAbs y.natAbs) : Nat) : Int))]) (by kernel_rfl) (by kernel_rfl) rfl (fun f g a w hn h => MM.ext (n := 9) (by simp) hn h) ?_ ?_ ?_
    ·refine ⟨below_same HSB.out rfl rfl rfl rfl, fun _ _ h => h, HSB.out.size, (by intro q hq; simp only [List.mem_cons, List.not_mem_nil, or_false] at hq; rcases hq with rfl | rfl | rfl; exact HS1.out; exact HS3.out; exact HS5.out), ?_, (by intro t u h1 h2 hd; simp only [List.mem_singleton] at h1 h2; subst h1; subst h2; exact absurd rfl hd)⟩
     intro t ht h
     simp only [List.mem_cons, List.not_mem_nil, or_false] at ht
     subst ht
     exact ⟨w.heap.size + 1, _, rfl, by omega, HS2.out, ⟨⟨_, _, rfl⟩, fun p hp => by cases hp; exact zc_of HSY.out⟩, by intro q hq; simp only [List.mem_cons, List.not_mem_nil, or_false] at hq; rcases hq with rfl | rfl | rfl <;> simp <;> omega⟩
    ·intro i o f A W hi hJ hf hdep hdn hcl hfr hsz
     rcases i with _ | _ | _ | _ | _ | _ | _ | _ | _ | i
     all_goals (simp at hi)
     all_goals (try subst hi)
     ·have hst : f 8 = false := by
       cases h : f 8 with
       | false => rfl
       | true => rw [hcl 8 _ 0 rfl h (by kernel_rfl)] at hf; cases hf
      obtain ⟨g9, cs9, hp9, hb9, hk9⟩ := hJ.ahead (t0 := tgZ 3 none 8 (some y) (y / (((Nat.gcd x.natAbs y.natAbs) : Nat) : Int))) (by simp) (fun j hj => by cases hj) hst
      obtain ⟨a9, n9, b9, rfl⟩ := zc_parts (hk9.2 _ rfl)
      obtain ⟨c0, c1, f0, f1, l0⟩ := blk2 hb9
      refine par_value (v := .agg #[.slice a9 n9 n9, .bool b9]) (w' := W) ?_ ⟨Keep.refl _, hJ.same _ _ _ (by simp), ⟨_, rfl, hk9.2 _ rfl⟩⟩
      simp [go_sem, Act.eval, hp9, c0, c1]
     ·have t5 := hfr 5 (by simp)
      have hb2 : BlkC 26 W g5 [.slice ga gn gn] := hJ.kept (26, g5, [.slice ga gn gn]) (by simp)
      have x20 : W.cell? ⟨g5, 0, none⟩ = some (.slice ga gn gn) := by rw [hb2.cell 0]; rfl
      refine par_value (v := .agg #[.slice ga gn gn]) (w' := W) ?_ ⟨Keep.refl _, hJ.same _ _ _ (by simp), HxG.out.keep hJ.k⟩
      simp [go_sem, Act.eval, t5, x20]
     ·have t27 : NatIs W (A.tmps.getD 27 undef) ((Nat.gcd x.natAbs y.natAbs)) := hdep 1 _ 27 rfl (by kernel_rfl) rfl
      refine par_call (w' := W) (f := 64) (xs := #[A.tmps.getD 27 undef]) (by simp [go_sem, Act.eval]) ?_
      refine (big_any (Nat.gcd x.natAbs y.natAbs) _ _ t27 HGL.out).mono ?_
      rintro e w1 ⟨r, rfl, hr, hg1⟩
      exact ⟨r, rfl, Gr.keep hg1, hJ.gr hg1.b _ _ _ (by simp), hr⟩
     ·have t26 : ZIs W (A.tmps.getD 26 undef) (y) := hdep 0 _ 26 rfl (by kernel_rfl) rfl
      have t28 : ZIs W (A.tmps.getD 28 undef) ((((Nat.gcd x.natAbs y.natAbs) : Nat) : Int)) := hdep 2 _ 28 rfl (by kernel_rfl) rfl
      refine par_call (w' := W) (f := 63) (xs := #[A.tmps.getD 26 undef, A.tmps.getD 28 undef]) (by simp [go_sem, Act.eval]) ?_
      refine (floor_exact y (Nat.gcd x.natAbs y.natAbs) _ _ _ t26 t28 HGP.out HyD.out HYL.out).mono ?_
      rintro e w1 ⟨r, rfl, hr, hg1⟩
      exact ⟨r, rfl, keep_below hg1, hJ.gr hg1 _ _ _ (by simp), hr⟩
     ·have t29 : T3 (y / (((Nat.gcd x.natAbs y.natAbs) : Nat) : Int)) W (A.tmps.getD 29 undef) := hdep 3 _ 29 rfl (by kernel_rfl) rfl
      refine par_value (v := A.tmps.getD 29 undef) (w' := W) ?_ ⟨Keep.refl _, hJ.same _ _ _ (by simp), t29⟩
      simp [go_sem, Act.eval]
     ·have t25 : T3 (y / (((Nat.gcd x.natAbs y.natAbs) : Nat) : Int)) W (A.tmps.getD 25 undef) := hdep 4 _ 25 rfl (by kernel_rfl) rfl
      obtain ⟨e0, e1, e2, q25, qh⟩ := t25
      refine par_value (v := e0) (w' := W) ?_ ⟨Keep.refl _, hJ.same _ _ _ (by simp), qh⟩
      simp [go_sem, Act.eval, q25]
     ·have t25 : T3 (y / (((Nat.gcd x.natAbs y.natAbs) : Nat) : Int)) W (A.tmps.getD 25 undef) := hdep 4 _ 25 rfl (by kernel_rfl) rfl
      obtain ⟨e0, e1, e2, q25, qh⟩ := t25
      refine par_value (v := e1) (w' := W) ?_ ⟨Keep.refl _, hJ.same _ _ _ (by simp), trivial⟩
      simp [go_sem, Act.eval, q25]
     ·have t25 : T3 (y / (((Nat.gcd x.natAbs y.natAbs) : Nat) : Int)) W (A.tmps.getD 25 undef) := hdep 4 _ 25 rfl (by kernel_rfl) rfl
      obtain ⟨e0, e1, e2, q25, qh⟩ := t25
      refine par_value (v := e2) (w' := W) ?_ ⟨Keep.refl _, hJ.same _ _ _ (by simp), trivial⟩
      simp [go_sem, Act.eval, q25]
     ·have t30 : ZIs W (A.tmps.getD 30 undef) (y / (((Nat.gcd x.natAbs y.natAbs) : Nat) : Int)) := hdep 5 _ 30 rfl (by kernel_rfl) rfl
      obtain ⟨g9, cs9, hp9, hb9, hk9⟩ := hJ.ahead (t0 := tgZ 3 none 8 (some y) (y / (((Nat.gcd x.natAbs y.natAbs) : Nat) : Int))) (by simp) (fun j hj => by cases hj) hf
      obtain ⟨⟨y0, y1, rfl⟩, _⟩ := hk9
      obtain ⟨a8, n8, b8, e8⟩ := t30.parts
      have hv8 := t30
      rw [e8] at hv8
      obtain ⟨c0, c1, f0, f1, l0⟩ := blk2 hb9
      obtain ⟨k1, k2, k3⟩ := set2_all (T := 28) hb9 (by decide) (.slice a8 n8 n8) (.bool b8)
      refine par_skip ?_ ⟨k2, hJ.put 8 undef (by simp) (fun j hj => by cases hj) rfl hp9 k1 k2 k3 (zc_of (hv8.keep k2)) (by simp) (by simp), trivial⟩
      simp [go_sem, Act.eval, hp9, e8, c0, c1, f0, f1]
    ·intro vs5 W5 hJ5 hs5
     obtain ⟨gA, csA, pA, _, bA, kA, _⟩ := hJ5.at' (tgZ 3 none 8 (some y) (y / (((Nat.gcd x.natAbs y.natAbs) : Nat) : Int))) (by simp) (fun j hj => by cases hj)
     have eA : gA = w.heap.size + 1 := ptr_eq (by simpa [putAll, Act.put] using pA)
     subst eA
     have kA' : ZC W5 csA (y / (((Nat.gcd x.natAbs y.natAbs) : Nat) : Int)) := kA
     obtain ⟨a5, n5, b5, rfl⟩ := zc_parts kA'
     have HU1 : Hid (BlkC 28 W5 (w.heap.size + 1) [.slice a5 n5 n5, .bool b5]) := bA
     have HU2 : Hid (BlkC 28 W5 w.heap.size [.slice a4 n4 n4, .bool b4]) := hJ5.kept (28, w.heap.size, [.slice a4 n4 n4, .bool b4]) (by simp)
     have HU3 : Hid (BlkC 30 W5 (w.heap.size + 1 + 1) [.slice none 0 0, .bool false, .slice none 0 0, .bool false]) := hJ5.kept (30, (w.heap.size + 1 + 1), [.slice none 0 0, .bool false, .slice none 0 0, .bool false]) (by simp)
     have HU5 : Hid (BlkC 26 W5 g5 [.slice ga gn gn]) := hJ5.kept (26, g5, [.slice ga gn gn]) (by simp)
     have HUX : Hid (ZIs W5 (.agg #[.slice a5 n5 n5, .bool b5]) (y / (((Nat.gcd x.natAbs y.natAbs) : Nat) : Int))) := ⟨_, rfl, kA'⟩
     have HUY := Lib.hid (HSX.out.keep hJ5.k)
     have HUG := Lib.hid (NatIs.keep HxG.out hJ5.k)
     have HUB : Hid (Below w.heap.size w W5) := hJ5.b
     clear pA bA kA kA' hJ5 hs5 HS1 HS2 HS3 HS5 HSX HSY HSB HxG
     have HS1 := HU2
     have HS2 := HU1
     have HS3 := HU3
     have HSX := HUY
     have HSY := HUX
     have HSB := HUB
     clear HU1 HU2 HU3 HU5 HUX HUY HUB HUG
     simp only [putAll, List.foldl_cons, List.foldl_nil, Act.put, List.setIfInBounds_toArray, List.set_cons_succ, List.set_cons_zero]
     have HLX : Hid ((limbs (x / (((Nat.gcd x.natAbs y.natAbs) : Nat) : Int)).natAbs).length ≤ 1000000) := Nat.le_trans quo_len (by have := HXL.out; omega)
     have HLY : Hid ((limbs (y / (((Nat.gcd x.natAbs y.natAbs) : Nat) : Int)).natAbs).length ≤ 1000000) := Nat.le_trans quo_len (by have := HYL.out; omega)
     obtain ⟨d0, d1, d2, d3, d4⟩ := blk2 HS2.out
     go_wp2_with fail
     refine (sign_any (y / (((Nat.gcd x.natAbs y.natAbs) : Nat) : Int)) _ _ HSY.out HLY.out).mono ?_
     rintro e w9 ⟨rfl, hg9⟩
     have HT1 := Lib.hid (HS1.out.still (Gr.grown hg9))
     have HT2 := Lib.hid (HS2.out.still (Gr.grown hg9))
     have HT3 := Lib.hid (HS3.out.still (Gr.grown hg9))
     have HTX := Lib.hid (Gr.zIs hg9 HSX.out)
     have HTY := Lib.hid (Gr.zIs hg9 HSY.out)
     have HTB : Hid (Below w.heap.size w w9) := HSB.out.trans (hg9.b.mono HSB.out.size)
     clear hg9 d0 d1 d2 d3 d4 HS1 HS2 HS3 HSX HSY HSB
     by_cases hn : (y / (((Nat.gcd x.natAbs y.natAbs) : Nat) : Int)) < 0
     ·rw [show signZ (y / (((Nat.gcd x.natAbs y.natAbs) : Nat) : Int)) = -1 from if_pos hn]
      go_wp2_with fail
      refine region_mem (s := fun | 0 => .z ((x / (((Nat.gcd x.natAbs y.natAbs) : Nat) : Int))) | 1 => .z (-(x / (((Nat.gcd x.natAbs y.natAbs) : Nat) : Int))) | 2 => .z ((y / (((Nat.gcd x.natAbs y.natAbs) : Nat) : Int))) | 3 => .z (-(y / (((Nat.gcd x.natAbs y.natAbs) : Nat) : Int))) | 4 => .any | 5 => .any | _ => .any) (J := MM w.heap.size w w9 [(30, (w.heap.size + 1 + 1), [.slice none 0 0, .bool false, .slice none 0 0, .bool false])] [tgZ 2 none 4 (some (x / (((Nat.gcd x.natAbs y.natAbs) : Nat) : Int))) (-(x / (((Nat.gcd x.natAbs y.natAbs) : Nat) : Int))), tgZ 3 none 5 (some (y / (((Nat.gcd x.natAbs y.natAbs) : Nat) : Int))) (-(y / (((Nat.gcd x.natAbs y.natAbs) : Nat) : Int)))]) (by kernel_rfl) (by kernel_rfl) rfl (fun f g a w hn h => MM.ext (n := 6) (by simp) hn h) ?_ ?_ ?_
      ·refine ⟨below_same HTB.out rfl rfl rfl rfl, fun _ _ h => h, HTB.out.size, (by intro q hq; simp only [List.mem_cons, List.not_mem_nil, or_false] at hq; subst hq; exact HT3.out), ?_, ?_⟩
       ·intro t ht h
        simp only [List.mem_cons, List.not_mem_nil, or_false] at ht
        rcases ht with rfl | rfl
        ·exact ⟨w.heap.size, _, rfl, Nat.le_refl _, HT1.out, ⟨⟨_, _, rfl⟩, fun p hp => by cases hp; exact zc_of HTX.out⟩, by intro q hq; simp only [List.mem_singleton] at hq; subst hq; simp; omega⟩
        ·exact ⟨w.heap.size + 1, _, rfl, by omega, HT2.out, ⟨⟨_, _, rfl⟩, fun p hp => by cases hp; exact zc_of HTY.out⟩, by intro q hq; simp only [List.mem_singleton] at hq; subst hq; simp⟩
       ·intro t u h1 h2 hd _ _
        simp only [List.mem_cons, List.not_mem_nil, or_false] at h1 h2
        rcases h1 with rfl | rfl <;> rcases h2 with rfl | rfl
        ·exact absurd rfl hd
        ·simp
        ·simp
        ·exact absurd rfl hd
      ·intro i o f A W hi hJ hf hdep hdn hcl hfr hsz
       rcases i with _ | _ | _ | _ | _ | _ | i
       all_goals (simp at hi)
       all_goals (try subst hi)
       ·have hst : f 4 = false := by
         cases h : f 4 with
         | false => rfl
         | true => rw [hcl 4 _ 0 rfl h (by kernel_rfl)] at hf; cases hf
        obtain ⟨g9, cs9, hp9, hb9, hk9⟩ := hJ.ahead (t0 := tgZ 2 none 4 (some (x / (((Nat.gcd x.natAbs y.natAbs) : Nat) : Int))) (-(x / (((Nat.gcd x.natAbs y.natAbs) : Nat) : Int)))) (by simp) (fun j hj => by cases hj) hst
        obtain ⟨a9, n9, b9, rfl⟩ := zc_parts (hk9.2 _ rfl)
        obtain ⟨c0, c1, f0, f1, l0⟩ := blk2 hb9
        refine par_value (v := .agg #[.slice a9 n9 n9, .bool b9]) (w' := W) ?_ ⟨Keep.refl _, hJ.same _ _ _ (by simp), ⟨_, rfl, hk9.2 _ rfl⟩⟩
        simp [go_sem, Act.eval, hp9, c0, c1]
       ·have t36 : ZIs W (A.tmps.getD 36 undef) ((x / (((Nat.gcd x.natAbs y.natAbs) : Nat) : Int))) := hdep 0 _ 36 rfl (by kernel_rfl) rfl
        refine par_call (w' := W) (f := 65) (xs := #[A.tmps.getD 36 undef]) (by simp [go_sem, Act.eval]) ?_
        refine (neg_any (x / (((Nat.gcd x.natAbs y.natAbs) : Nat) : Int)) _ _ t36 HLX.out).mono ?_
        rintro e w1 ⟨r, rfl, hr, hg1⟩
        exact ⟨r, rfl, Gr.keep hg1, hJ.gr hg1.b _ _ _ (by simp), hr⟩
       ·have hst : f 5 = false := by
         cases h : f 5 with
         | false => rfl
         | true => rw [hcl 5 _ 2 rfl h (by kernel_rfl)] at hf; cases hf
        obtain ⟨g9, cs9, hp9, hb9, hk9⟩ := hJ.ahead (t0 := tgZ 3 none 5 (some (y / (((Nat.gcd x.natAbs y.natAbs) : Nat) : Int))) (-(y / (((Nat.gcd x.natAbs y.natAbs) : Nat) : Int)))) (by simp) (fun j hj => by cases hj) hst
        obtain ⟨a9, n9, b9, rfl⟩ := zc_parts (hk9.2 _ rfl)
        obtain ⟨c0, c1, f0, f1, l0⟩ := blk2 hb9
        refine par_value (v := .agg #[.slice a9 n9 n9, .bool b9]) (w' := W) ?_ ⟨Keep.refl _, hJ.same _ _ _ (by simp), ⟨_, rfl, hk9.2 _ rfl⟩⟩
        simp [go_sem, Act.eval, hp9, c0, c1]
       ·have t38 : ZIs W (A.tmps.getD 38 undef) ((y / (((Nat.gcd x.natAbs y.natAbs) : Nat) : Int))) := hdep 2 _ 38 rfl (by kernel_rfl) rfl
        refine par_call (w' := W) (f := 65) (xs := #[A.tmps.getD 38 undef]) (by simp [go_sem, Act.eval]) ?_
        refine (neg_any (y / (((Nat.gcd x.natAbs y.natAbs) : Nat) : Int)) _ _ t38 HLY.out).mono ?_
        rintro e w1 ⟨r, rfl, hr, hg1⟩
        exact ⟨r, rfl, Gr.keep hg1, hJ.gr hg1.b _ _ _ (by simp), hr⟩
       ·have t37 : ZIs W (A.tmps.getD 37 undef) (-(x / (((Nat.gcd x.natAbs y.natAbs) : Nat) : Int))) := hdep 1 _ 37 rfl (by kernel_rfl) rfl
        obtain ⟨g9, cs9, hp9, hb9, hk9⟩ := hJ.ahead (t0 := tgZ 2 none 4 (some (x / (((Nat.gcd x.natAbs y.natAbs) : Nat) : Int))) (-(x / (((Nat.gcd x.natAbs y.natAbs) : Nat) : Int)))) (by simp) (fun j hj => by cases hj) hf
        obtain ⟨⟨y0, y1, rfl⟩, _⟩ := hk9
        obtain ⟨a8, n8, b8, e8⟩ := t37.parts
        have hv8 := t37
        rw [e8] at hv8
        obtain ⟨c0, c1, f0, f1, l0⟩ := blk2 hb9
        obtain ⟨k1, k2, k3⟩ := set2_all (T := 28) hb9 (by decide) (.slice a8 n8 n8) (.bool b8)
        refine par_skip ?_ ⟨k2, hJ.put 4 undef (by simp) (fun j hj => by cases hj) rfl hp9 k1 k2 k3 (zc_of (hv8.keep k2)) (by simp) (by simp), trivial⟩
        simp [go_sem, Act.eval, hp9, e8, c0, c1, f0, f1]
       ·have t39 : ZIs W (A.tmps.getD 39 undef) (-(y / (((Nat.gcd x.natAbs y.natAbs) : Nat) : Int))) := hdep 3 _ 39 rfl (by kernel_rfl) rfl
        obtain ⟨g9, cs9, hp9, hb9, hk9⟩ := hJ.ahead (t0 := tgZ 3 none 5 (some (y / (((Nat.gcd x.natAbs y.natAbs) : Nat) : Int))) (-(y / (((Nat.gcd x.natAbs y.natAbs) : Nat) : Int)))) (by simp) (fun j hj => by cases hj) hf
        obtain ⟨⟨y0, y1, rfl⟩, _⟩ := hk9
        obtain ⟨a8, n8, b8, e8⟩ := t39.parts
        have hv8 := t39
        rw [e8] at hv8
        obtain ⟨c0, c1, f0, f1, l0⟩ := blk2 hb9
        obtain ⟨k1, k2, k3⟩ := set2_all (T := 28) hb9 (by decide) (.slice a8 n8 n8) (.bool b8)
        refine par_skip ?_ ⟨k2, hJ.put 5 undef (by simp) (fun j hj => by cases hj) rfl hp9 k1 k2 k3 (zc_of (hv8.keep k2)) (by simp) (by simp), trivial⟩
        simp [go_sem, Act.eval, hp9, e8, c0, c1, f0, f1]
      ·intro vs7b W7b hJ7b hs7b
       obtain ⟨gA, csA, pA, _, bA, kA, _⟩ := hJ7b.at' (tgZ 2 none 4 (some (x / (((Nat.gcd x.natAbs y.natAbs) : Nat) : Int))) (-(x / (((Nat.gcd x.natAbs y.natAbs) : Nat) : Int)))) (by simp) (fun j hj => by cases hj)
       obtain ⟨gB, csB, pB, _, bB, kB, _⟩ := hJ7b.at' (tgZ 3 none 5 (some (y / (((Nat.gcd x.natAbs y.natAbs) : Nat) : Int))) (-(y / (((Nat.gcd x.natAbs y.natAbs) : Nat) : Int)))) (by simp) (fun j hj => by cases hj)
       have eA : gA = w.heap.size := ptr_eq (by simpa [putAll, Act.put] using pA)
       have eB : gB = w.heap.size + 1 := ptr_eq (by simpa [putAll, Act.put] using pB)
       subst eA
       subst eB
       have kA' : ZC W7b csA (-(x / (((Nat.gcd x.natAbs y.natAbs) : Nat) : Int))) := kA
       have kB' : ZC W7b csB (-(y / (((Nat.gcd x.natAbs y.natAbs) : Nat) : Int))) := kB
       obtain ⟨aA, nA, bbA, rfl⟩ := zc_parts kA'
       obtain ⟨aB, nB, bbB, rfl⟩ := zc_parts kB'
       have HU1 : Hid (BlkC 28 W7b w.heap.size [.slice aA nA nA, .bool bbA]) := bA
       have HU2 : Hid (BlkC 28 W7b (w.heap.size + 1) [.slice aB nB nB, .bool bbB]) := bB
       have HU3 : Hid (BlkC 30 W7b (w.heap.size + 1 + 1) [.slice none 0 0, .bool false, .slice none 0 0, .bool false]) := hJ7b.kept (30, (w.heap.size + 1 + 1), [.slice none 0 0, .bool false, .slice none 0 0, .bool false]) (by simp)
       have HUX : Hid (ZIs W7b (.agg #[.slice aA nA nA, .bool bbA]) (-(x / (((Nat.gcd x.natAbs y.natAbs) : Nat) : Int)))) := ⟨_, rfl, kA'⟩
       have HUY : Hid (ZIs W7b (.agg #[.slice aB nB nB, .bool bbB]) (-(y / (((Nat.gcd x.natAbs y.natAbs) : Nat) : Int)))) := ⟨_, rfl, kB'⟩
       have HUB : Hid (Below w.heap.size w W7b) := hJ7b.b
       clear pA pB bA bB kA kB kA' kB' hJ7b hs7b HT1 HT2 HT3 HTX HTY HTB
       have HT1 := HU1
       have HT2 := HU2
       have HT3 := HU3
       have HTB := HUB
       clear HU1 HU2 HU3 HUB
       simp only [putAll, List.foldl_cons, List.foldl_nil, Act.put, List.setIfInBounds_toArray, List.set_cons_succ, List.set_cons_zero]
       obtain ⟨c0, c1, c2, c3, c4⟩ := blk2 HT1.out
       obtain ⟨d0, d1, d2, d3, d4⟩ := blk2 HT2.out
       obtain ⟨i0, i1, i2, i3⟩ := blk4 HT3.out
       obtain ⟨j0, j1, j2, j3, j4⟩ := blk4f HT3.out
       have hnum := (low_num x y (Nat.gcd x.natAbs y.natAbs) rfl HD0.out).1
       have hden := (low_num x y (Nat.gcd x.natAbs y.natAbs) rfl HD0.out).2
       rw [if_pos hn] at hnum hden
       go_wp2_with fail
       obtain ⟨s1, s2⟩ := r_shut (r_mk (q := Rat.divInt x y) (by rw [hnum]; exact HUX.out) (by rw [hden]; exact HUY.out)) HT3.out (by decide)
       exact r_ret rfl rfl rfl s1 ⟨_, rfl, s2, below_set4 HTB.out (by omega) _ _ _ _⟩
     ·have hsg : ¬ signZ (y / (((Nat.gcd x.natAbs y.natAbs) : Nat) : Int)) < 0 := by unfold signZ; rw [if_neg hn]; split <;> omega
      obtain ⟨c0, c1, c2, c3, c4⟩ := blk2 HT1.out
      obtain ⟨d0, d1, d2, d3, d4⟩ := blk2 HT2.out
      obtain ⟨i0, i1, i2, i3⟩ := blk4 HT3.out
      obtain ⟨j0, j1, j2, j3, j4⟩ := blk4f HT3.out
      have hnum := (low_num x y (Nat.gcd x.natAbs y.natAbs) rfl HD0.out).1
      have hden := (low_num x y (Nat.gcd x.natAbs y.natAbs) rfl HD0.out).2
      rw [if_neg hn] at hnum hden
      go_wp2_with fail
      obtain ⟨s1, s2⟩ := r_shut (r_mk (q := Rat.divInt x y) (by rw [hnum]; exact HTX.out) (by rw [hden]; exact HTY.out)) HT3.out (by decide)
      exact r_ret rfl rfl rfl s1 ⟨_, rfl, s2, below_set4 HTB.out (by omega) _ _ _ _⟩
end Go.Proofs.Ytnojfiokdhcbjaa
