/-
  zed.Floor at a divisor: the walk. (Printed by gen_low.py.)
-/
import Derived.Test.YtnojfiokdhcbjaaGY
namespace Go.Proofs.Ytnojfiokdhcbjaa
open Go Go.RowKit
theorem sgnZ_zero (b : Bool) : sgnZ 0 b = 0 := by cases b <;> rfl
theorem sgn_div {x : Int} {b : Bool} {g : Nat} (hb : decide (x < 0) = b) (hg : 0 < g) (h : (g : Int) ∣ x) : sgnZ (x.natAbs / g) b = x / (g : Int) := by
 obtain ⟨q, rfl⟩ := h
 have e : ((g : Int) * q).natAbs / g = q.natAbs := by rw [Int.natAbs_mul, Int.natAbs_natCast, Nat.mul_div_cancel_left _ hg]
 rw [e, Int.mul_ediv_cancel_left _ (by omega)]
 subst hb
 unfold sgnZ
 by_cases hq : q < 0
 ·rw [decide_eq_true (Int.mul_neg_of_pos_of_neg (by omega) hq)]; simp; omega
 ·rw [decide_eq_false (by have := Int.mul_nonneg (show (0 : Int) ≤ g by omega) (show 0 ≤ q by omega); omega)]; simp; omega
theorem div_len {x g : Nat} : (limbs (x / g)).length ≤ (limbs x).length := limbs_mono (Nat.div_le_self _ _)
section
variable (w : World) (a : Option Addr) (n : Nat) (b : Bool) (c : Option Addr) (m : Nat) (d : Bool)
abbrev flW : World := (((w.alloc (.cells #[.slice a n n, .bool b] 28)).alloc (.cells #[.slice c m m, .bool d] 28)).alloc (.cells #[.slice none 0 0, .bool false] 28)).alloc (.cells #[.slice none 0 0, .bool false] 28)
theorem flW_1 : BlkC 28 (flW w a n b c m d) w.heap.size [.slice a n n, .bool b] := (((BlkC.new _ w [.slice a n n, .bool b]).still (grown_alloc _ _ none)).still (grown_alloc _ _ none)).still (grown_alloc _ _ none)
theorem flW_2 : BlkC 28 (flW w a n b c m d) (w.heap.size + 1) [.slice c m m, .bool d] := ((blk_at (cs := [.slice c m m, .bool d]) (by simp)).still (grown_alloc _ _ none)).still (grown_alloc _ _ none)
theorem flW_3 : BlkC 28 (flW w a n b c m d) (w.heap.size + 1 + 1) [.slice none 0 0, .bool false] := (blk_at (cs := [.slice none 0 0, .bool false]) (by simp)).still (grown_alloc _ _ none)
theorem flW_4 : BlkC 28 (flW w a n b c m d) (w.heap.size + 1 + 1 + 1) [.slice none 0 0, .bool false] := blk_at (cs := [.slice none 0 0, .bool false]) (by simp)
theorem flW_g : Own w.heap.size w (flW w a n b c m d) := ((((own_alloc _ _).alloc (by simp) _).alloc (by simp; omega) _).alloc (by simp; omega) _)
end
set_option maxHeartbeats 8000000 in
set_option maxRecDepth 100000 in
theorem floor_exact (x : Int) (g : Nat) (v u : Value) (w : World) (hv : ZIs w v x) (hu : ZIs w u (g : Int)) (hg0 : 0 < g) (hdv : (g : Int) ∣ x) (hx : (limbs x.natAbs).length ≤ 800000) :
  Calls Try.prog 63 #[v, u] w fun e w' => ∃ r, e = .returned r ∧ T3 (x / (g : Int)) w' r ∧ Below w.heap.size w w' := by
 obtain ⟨a, n, b, rfl⟩ := hv.parts
 obtain ⟨c, m, d, rfl⟩ := hu.parts
 obtain ⟨hNx, hbx⟩ := z_nat hv
 obtain ⟨hNg, hbg⟩ := z_nat hu
 have hd : d = false := by rw [← hbg]; exact decide_eq_false (by omega)
 subst hd
 have HB1 := Lib.hid (flW_1 w a n b c m false)
 have HB2 := Lib.hid (flW_2 w a n b c m false)
 have HB3 := Lib.hid (flW_3 w a n b c m false)
 have HB4 := Lib.hid (flW_4 w a n b c m false)
 have HG := Lib.hid (flW_g w a n b c m false)
 have HNX := Lib.hid (Gr.natIs HG.out hNx)
 have HNG := Lib.hid (Gr.natIs HG.out hNg)
 have HXL := Lib.hid hx
 have HSG := Lib.hid (sgn_div hbx hg0 hdv)
 have HQL : Hid ((limbs (x.natAbs / g)).length ≤ 1000000) := Nat.le_trans div_len (by omega)
 have HMD : Hid (x.natAbs % g = 0) := by
  show _ = _
  obtain ⟨q, rfl⟩ := hdv
  rw [Int.natAbs_mul, Int.natAbs_natCast, Nat.mul_mod_right]
 have HG0 := Lib.hid hg0
 obtain ⟨x0, x1, x2, x3, x4⟩ := blk2 HB1.out
 obtain ⟨y0, y1, y2, y3, y4⟩ := blk2 HB2.out
 clear hv hu hNx hNg hbx hbg hx hdv hg0
 go_enter Try.func63, Try.ntmps63
 go_wp2_with fail
 refine (natDiv_any x.natAbs (g : Int).natAbs _ _ _ HNX.out HNG.out HXL.out).mono ?_
 rintro e w1 ⟨hdr, hb1⟩
 rw [Int.natAbs_natCast] at hdr
 rcases hdr with ⟨h0, _⟩ | ⟨_, q, r, rfl, hq, hr⟩
 ·exact absurd h0 (by have := HG0.out; omega)
 obtain ⟨qa, qn, rfl⟩ := nat_parts hq
 obtain ⟨ra, rn, rfl⟩ := nat_parts hr
 rw [HMD.out] at hr
 have HQ := Lib.hid hq
 have HR := Lib.hid hr
 have hs1 := hb1.size
 simp at hs1
 have gr1 := grown_of_below hb1 none
 have HE1 := Lib.hid (HB1.out.still gr1)
 have HE2 := Lib.hid (HB2.out.still gr1)
 have HE3 := Lib.hid (HB3.out.still gr1)
 have HE4 := Lib.hid (HB4.out.still gr1)
 have HBB : Hid (Below w.heap.size w w1) := HG.out.b.trans (hb1.mono HG.out.size)
 clear x0 x1 x2 x3 x4 y0 y1 y2 y3 y4 HB1 HB2 HB3 HB4 HNX HNG hq hr hb1 gr1 HG
 obtain ⟨wf, hwf⟩ : ∃ wf, wf = (w1.alloc (.cells #[.slice qa qn qn] 26)).alloc (.cells #[.slice ra rn rn] 26) := ⟨_, rfl⟩
 have gf0 : w1.grownBy wf none := by rw [hwf]; exact grown_trans (grown_alloc _ _ none) (grown_alloc _ _ none)
 have gf1 : w1.grownBy wf.drew none := ⟨gf0.os, gf0.tape, gf0.output, gf0.size, gf0.block⟩
 have HC1 : Hid (BlkC 28 wf.drew w.heap.size [.slice a n n, .bool b]) := HE1.out.still gf1
 have HC2 : Hid (BlkC 28 wf.drew (w.heap.size + 1) [.slice c m m, .bool false]) := HE2.out.still gf1
 have HC3 : Hid (BlkC 28 wf.drew (w.heap.size + 1 + 1) [.slice none 0 0, .bool false]) := HE3.out.still gf1
 have HC4 : Hid (BlkC 28 wf.drew (w.heap.size + 1 + 1 + 1) [.slice none 0 0, .bool false]) := HE4.out.still gf1
 have HC5 : Hid (BlkC 26 wf.drew w1.heap.size [.slice qa qn qn]) := by show BlkC _ _ _ _; rw [hwf]; exact ((BlkC.new _ w1 [.slice qa qn qn]).still (grown_alloc _ _ none) : BlkC _ ((w1.alloc (.cells #[.slice qa qn qn] 26)).alloc (.cells #[.slice ra rn rn] 26)) _ _)
 have HC6 : Hid (BlkC 26 wf.drew (w1.heap.size + 1) [.slice ra rn rn]) := by show BlkC _ _ _ _; rw [hwf]; exact (blk_at (T := 26) (g := w1.heap.size + 1) (cs := [.slice ra rn rn]) (by simp) : BlkC _ ((w1.alloc (.cells #[.slice qa qn qn] 26)).alloc (.cells #[.slice ra rn rn] 26)) _ _)
 have HK4 : Hid (Keep w1 wf.drew) := by show Keep _ _; exact keep_grown gf1
 have HBL : Hid (Below w.heap.size w wf.drew) := by show Below _ _ _; exact HBB.out.grown gf1 (by omega) (by simp)
 clear gf0 gf1 HE1 HE2 HE3 HE4 HBB
 subst hwf
 go_wp2_with fail
 refine region_mem (s := fun | 0 => .n (x.natAbs / g) | 1 => .is (.pointer (some ⟨w.heap.size, 1, none⟩)) | 2 => .is (.bool b) | 3 => .is (.pointer (some ⟨w.heap.size + 1, 1, none⟩)) | 4 => .is (.bool false) | 5 => .is (.bool b) | 6 => .z (x / (g : Int)) | 7 => .n (0) | 8 => .is (.pointer (some ⟨w.heap.size, 1, none⟩)) | 9 => .is (.bool b) | 10 => .z (0) | 11 => .any | 12 => .any | 13 => .any | 14 => .any | _ => .any) (J := MM w.heap.size w w1 [(28, w.heap.size, [.slice a n n, .bool b]), (28, (w.heap.size + 1), [.slice c m m, .bool false]), (28, (w.heap.size + 1 + 1), [.slice none 0 0, .bool false]), (28, (w.heap.size + 1 + 1 + 1), [.slice none 0 0, .bool false]), (26, w1.heap.size, [.slice qa qn qn]), (26, (w1.heap.size + 1), [.slice ra rn rn])] [tgZ 10 (some 11) 13 none (x / (g : Int)), tgZ 11 (some 12) 14 none 0]) (by kernel_rfl) (by kernel_rfl) rfl (fun f g a w hn h => MM.ext (n := 15) (by simp) hn h) ?_ ?_ ?_
 ·exact ⟨HBL.out, HK4.out, by have := HBL.out.size; omega, (by intro q hq; simp only [List.mem_cons, List.not_mem_nil, or_false] at hq; rcases hq with rfl | rfl | rfl | rfl | rfl | rfl; exact HC1.out; exact HC2.out; exact HC3.out; exact HC4.out; exact HC5.out; exact HC6.out), (by intro t ht h; simp only [List.mem_cons, List.not_mem_nil, or_false] at ht; rcases ht with rfl | rfl <;> exact absurd (h _ rfl) (by simp)), (by intro t u h1 h2 hd c1 c2; simp only [List.mem_cons, List.not_mem_nil, or_false] at h1; rcases h1 with rfl | rfl <;> exact absurd (c1 _ rfl) (by simp))⟩
 ·intro i o f A W hi hJ hf hdep hdn hcl hfr hsz
  rcases i with _ | _ | _ | _ | _ | _ | _ | _ | _ | _ | _ | _ | _ | _ | _ | i
  all_goals (simp at hi)
  all_goals (try subst hi)
  ·have t7 := hfr 7 (by simp)
   have hb4 : BlkC 26 W w1.heap.size [.slice qa qn qn] := hJ.kept (26, w1.heap.size, [.slice qa qn qn]) (by simp)
   have x40 : W.cell? ⟨w1.heap.size, 0, none⟩ = some (.slice qa qn qn) := by rw [hb4.cell 0]; rfl
   refine par_value (v := .agg #[.slice qa qn qn]) (w' := W) ?_ ⟨Keep.refl _, hJ.same _ _ _ (by simp), HQ.out.keep hJ.k⟩
   simp [go_sem, Act.eval, t7, x40]
  ·have t2 := hfr 2 (by simp)
   refine par_value (v := .pointer (some ⟨w.heap.size, 1, none⟩)) (w' := W) ?_ ⟨Keep.refl _, hJ.same _ _ _ (by simp), rfl⟩
   simp [go_sem, Act.eval, t2]
  ·have t27 : A.tmps.getD 27 undef = .pointer (some ⟨w.heap.size, 1, none⟩) := hdep 1 _ 27 rfl (by kernel_rfl) rfl
   have hb0 : BlkC 28 W w.heap.size [.slice a n n, .bool b] := hJ.kept (28, w.heap.size, [.slice a n n, .bool b]) (by simp)
   have x00 : W.cell? ⟨w.heap.size, 0, none⟩ = some (.slice a n n) := by rw [hb0.cell 0]; rfl
   have x01 : W.cell? ⟨w.heap.size, 1, none⟩ = some (.bool b) := by rw [hb0.cell 1]; rfl
   refine par_value (v := (.bool b)) (w' := W) ?_ ⟨Keep.refl _, hJ.same _ _ _ (by simp), rfl⟩
   simp [go_sem, Act.eval, t27, x01]
  ·have t3 := hfr 3 (by simp)
   refine par_value (v := .pointer (some ⟨w.heap.size + 1, 1, none⟩)) (w' := W) ?_ ⟨Keep.refl _, hJ.same _ _ _ (by simp), rfl⟩
   simp [go_sem, Act.eval, t3]
  ·have t29 : A.tmps.getD 29 undef = .pointer (some ⟨w.heap.size + 1, 1, none⟩) := hdep 3 _ 29 rfl (by kernel_rfl) rfl
   have hb1 : BlkC 28 W (w.heap.size + 1) [.slice c m m, .bool false] := hJ.kept (28, (w.heap.size + 1), [.slice c m m, .bool false]) (by simp)
   have x10 : W.cell? ⟨(w.heap.size + 1), 0, none⟩ = some (.slice c m m) := by rw [hb1.cell 0]; rfl
   have x11 : W.cell? ⟨(w.heap.size + 1), 1, none⟩ = some (.bool false) := by rw [hb1.cell 1]; rfl
   refine par_value (v := (.bool false)) (w' := W) ?_ ⟨Keep.refl _, hJ.same _ _ _ (by simp), rfl⟩
   simp [go_sem, Act.eval, t29, x11]
  ·have t28 : A.tmps.getD 28 undef = .bool b := hdep 2 _ 28 rfl (by kernel_rfl) rfl
   have t30 : A.tmps.getD 30 undef = .bool false := hdep 4 _ 30 rfl (by kernel_rfl) rfl
   refine par_value (v := .bool b) (w' := W) ?_ ⟨Keep.refl _, hJ.same _ _ _ (by simp), rfl⟩
   simp [go_sem, Act.eval, t28, t30]
  ·have t26 : NatIs W (A.tmps.getD 26 undef) (x.natAbs / g) := hdep 0 _ 26 rfl (by kernel_rfl) rfl
   have t31 : A.tmps.getD 31 undef = .bool b := hdep 5 _ 31 rfl (by kernel_rfl) rfl
   refine par_call (w' := W) (f := 39) (xs := #[A.tmps.getD 26 undef, .bool b]) (by simp [go_sem, Act.eval, t31]) ?_
   refine (made_any (x.natAbs / g) b _ _ t26 HQL.out).mono ?_
   rintro e w1' ⟨r, rfl, hr0, hg1⟩
   have hr : ZIs w1' r (x / (g : Int)) := HSG.out ▸ hr0
   exact ⟨r, rfl, Gr.keep hg1, hJ.gr hg1.b _ _ _ (by simp), hr⟩
  ·have t8 := hfr 8 (by simp)
   have hb5 : BlkC 26 W (w1.heap.size + 1) [.slice ra rn rn] := hJ.kept (26, (w1.heap.size + 1), [.slice ra rn rn]) (by simp)
   have x50 : W.cell? ⟨(w1.heap.size + 1), 0, none⟩ = some (.slice ra rn rn) := by rw [hb5.cell 0]; rfl
   refine par_value (v := .agg #[.slice ra rn rn]) (w' := W) ?_ ⟨Keep.refl _, hJ.same _ _ _ (by simp), HR.out.keep hJ.k⟩
   simp [go_sem, Act.eval, t8, x50]
  ·have t2 := hfr 2 (by simp)
   refine par_value (v := .pointer (some ⟨w.heap.size, 1, none⟩)) (w' := W) ?_ ⟨Keep.refl _, hJ.same _ _ _ (by simp), rfl⟩
   simp [go_sem, Act.eval, t2]
  ·have t34 : A.tmps.getD 34 undef = .pointer (some ⟨w.heap.size, 1, none⟩) := hdep 8 _ 34 rfl (by kernel_rfl) rfl
   have hb0 : BlkC 28 W w.heap.size [.slice a n n, .bool b] := hJ.kept (28, w.heap.size, [.slice a n n, .bool b]) (by simp)
   have x00 : W.cell? ⟨w.heap.size, 0, none⟩ = some (.slice a n n) := by rw [hb0.cell 0]; rfl
   have x01 : W.cell? ⟨w.heap.size, 1, none⟩ = some (.bool b) := by rw [hb0.cell 1]; rfl
   refine par_value (v := (.bool b)) (w' := W) ?_ ⟨Keep.refl _, hJ.same _ _ _ (by simp), rfl⟩
   simp [go_sem, Act.eval, t34, x01]
  ·have t33 : NatIs W (A.tmps.getD 33 undef) (0) := hdep 7 _ 33 rfl (by kernel_rfl) rfl
   have t35 : A.tmps.getD 35 undef = .bool b := hdep 9 _ 35 rfl (by kernel_rfl) rfl
   refine par_call (w' := W) (f := 39) (xs := #[A.tmps.getD 33 undef, .bool b]) (by simp [go_sem, Act.eval, t35]) ?_
   refine (made_any 0 b _ _ t33 (by rw [limbs_zero]; simp)).mono ?_
   rintro e w1' ⟨r, rfl, hr0, hg1⟩
   have hr : ZIs w1' r 0 := by have h := hr0; rwa [sgnZ_zero] at h
   exact ⟨r, rfl, Gr.keep hg1, hJ.gr hg1.b _ _ _ (by simp), hr⟩
  ·have hst : f 13 = false := by
    cases h : f 13 with
    | false => rfl
    | true => rw [hcl 13 _ 11 rfl h (by kernel_rfl)] at hf; cases hf
   refine par_value (v := .pointer (some ⟨W.heap.size, 0, none⟩)) (w' := W.alloc (.cells #[.slice none 0 0, .bool false] 28)) ?_ ⟨keep_alloc _ _, hJ.new (t0 := tgZ 10 (some 11) 13 none (x / (g : Int))) (cs := [.slice none 0 0, .bool false]) 11 (by simp) rfl (by rw [hsz]; simp) hst (by simp) (by simp) ⟨⟨_, _, rfl⟩, fun p hp => by cases hp⟩, trivial⟩
   simp [go_sem]
  ·have hst : f 14 = false := by
    cases h : f 14 with
    | false => rfl
    | true => rw [hcl 14 _ 12 rfl h (by kernel_rfl)] at hf; cases hf
   refine par_value (v := .pointer (some ⟨W.heap.size, 0, none⟩)) (w' := W.alloc (.cells #[.slice none 0 0, .bool false] 28)) ?_ ⟨keep_alloc _ _, hJ.new (t0 := tgZ 11 (some 12) 14 none 0) (cs := [.slice none 0 0, .bool false]) 12 (by simp) rfl (by rw [hsz]; simp) hst (by simp) (by simp) ⟨⟨_, _, rfl⟩, fun p hp => by cases hp⟩, trivial⟩
   simp [go_sem]
  ·have t32 : ZIs W (A.tmps.getD 32 undef) (x / (g : Int)) := hdep 6 _ 32 rfl (by kernel_rfl) rfl
   obtain ⟨g9, cs9, hp9, hb9, hk9⟩ := hJ.ahead (t0 := tgZ 10 (some 11) 13 none (x / (g : Int))) (by simp) (fun j hj => by cases hj; exact hdn 11 (by kernel_rfl)) hf
   obtain ⟨⟨y0, y1, rfl⟩, _⟩ := hk9
   obtain ⟨a8, n8, b8, e8⟩ := t32.parts
   have hv8 := t32
   rw [e8] at hv8
   obtain ⟨c0, c1, f0, f1, l0⟩ := blk2 hb9
   obtain ⟨k1, k2, k3⟩ := set2_all (T := 28) hb9 (by decide) (.slice a8 n8 n8) (.bool b8)
   refine par_skip ?_ ⟨k2, hJ.put 13 undef (by simp) (fun j hj => by cases hj; exact hdn 11 (by kernel_rfl)) rfl hp9 k1 k2 k3 (zc_of (hv8.keep k2)) (by simp) (by simp), trivial⟩
   simp [go_sem, Act.eval, hp9, e8, c0, c1, f0, f1]
  ·have t36 : ZIs W (A.tmps.getD 36 undef) (0) := hdep 10 _ 36 rfl (by kernel_rfl) rfl
   obtain ⟨g9, cs9, hp9, hb9, hk9⟩ := hJ.ahead (t0 := tgZ 11 (some 12) 14 none 0) (by simp) (fun j hj => by cases hj; exact hdn 12 (by kernel_rfl)) hf
   obtain ⟨⟨y0, y1, rfl⟩, _⟩ := hk9
   obtain ⟨a8, n8, b8, e8⟩ := t36.parts
   have hv8 := t36
   rw [e8] at hv8
   obtain ⟨c0, c1, f0, f1, l0⟩ := blk2 hb9
   obtain ⟨k1, k2, k3⟩ := set2_all (T := 28) hb9 (by decide) (.slice a8 n8 n8) (.bool b8)
   refine par_skip ?_ ⟨k2, hJ.put 14 undef (by simp) (fun j hj => by cases hj; exact hdn 12 (by kernel_rfl)) rfl hp9 k1 k2 k3 (zc_of (hv8.keep k2)) (by simp) (by simp), trivial⟩
   simp [go_sem, Act.eval, hp9, e8, c0, c1, f0, f1]
 ·intro vs W hJ hs
  obtain ⟨g10, cs10, p10, _, b10, k10, n10⟩ := hJ.at' (tgZ 10 (some 11) 13 none (x / (g : Int))) (by simp) (fun j hj => rfl)
  obtain ⟨g11, cs11, p11, _, b11, k11, n11⟩ := hJ.at' (tgZ 11 (some 12) 14 none 0) (by simp) (fun j hj => rfl)
  have hne := hJ.ne (tgZ 10 (some 11) 13 none (x / (g : Int))) (tgZ 11 (some 12) 14 none 0) (by simp) (by simp) (by simp) (fun j hj => rfl) (fun j hj => rfl)
  rw [p10, p11] at hne
  have e10 : vs 10 = .pointer (some ⟨g10, 0, none⟩) := by simpa [putAll, Act.put] using p10
  have e11 : vs 11 = .pointer (some ⟨g11, 0, none⟩) := by simpa [putAll, Act.put] using p11
  have k10' : ZC W cs10 (x / (g : Int)) := k10
  have k11' : ZC W cs11 0 := k11
  obtain ⟨a1, n1, b1, rfl⟩ := zc_parts k10'
  obtain ⟨a2, rfl, k11r⟩ := k11'
  have HD3 : Hid (BlkC 28 W (w.heap.size + 1 + 1) [.slice none 0 0, .bool false]) := hJ.kept (28, (w.heap.size + 1 + 1), [.slice none 0 0, .bool false]) (by simp)
  have HD4 : Hid (BlkC 28 W (w.heap.size + 1 + 1 + 1) [.slice none 0 0, .bool false]) := hJ.kept (28, (w.heap.size + 1 + 1 + 1), [.slice none 0 0, .bool false]) (by simp)
  have HD10 : Hid (BlkC 28 W g10 [.slice a1 n1 n1, .bool b1]) := b10
  have HD11 : Hid (BlkC 28 W g11 _) := b11
  have HZ : Hid (ZIs W (.agg #[.slice a1 n1 n1, .bool b1]) (x / (g : Int))) := ⟨_, rfl, k10'⟩
  have HBW : Hid (Below w.heap.size w W) := hJ.b
  obtain ⟨c0, c1, f0, f1, l0⟩ := blk2 HD10.out
  obtain ⟨d0, d1, h0, h1, l1⟩ := blk2 HD11.out
  obtain ⟨i0, i1, j0, j1, l2⟩ := blk2 HD3.out
  obtain ⟨m0, m1, o0, o1, l3⟩ := blk2 HD4.out
  have u1 : ¬ w.heap.size + 1 + 1 = g10 := n10 (28, (w.heap.size + 1 + 1), [.slice none 0 0, .bool false]) (by simp)
  have u2 : ¬ w.heap.size + 1 + 1 + 1 = g10 := n10 (28, (w.heap.size + 1 + 1 + 1), [.slice none 0 0, .bool false]) (by simp)
  have u3 : ¬ w.heap.size + 1 + 1 = g11 := n11 (28, (w.heap.size + 1 + 1), [.slice none 0 0, .bool false]) (by simp)
  have u4 : ¬ w.heap.size + 1 + 1 + 1 = g11 := n11 (28, (w.heap.size + 1 + 1 + 1), [.slice none 0 0, .bool false]) (by simp)
  have v1 := Ne.symm u1
  have v2 := Ne.symm u2
  have v3 := Ne.symm u3
  have v4 := Ne.symm u4
  clear hne n10 p10 p11 k10 k10' k11 k11r n11 b10 b11 hJ hs
  simp only [putAll, List.foldl_cons, List.foldl_nil, Act.put, List.setIfInBounds_toArray, List.set_cons_succ, List.set_cons_zero, e10, e11]
  generalize (limbs (Int.natAbs 0)).length = n2 at *
  rw [show decide ((0 : Int) < 0) = false from rfl] at *
  go_wp2_with fail
  have mixed : Try.prog.follows .mixedOrders = true := by kernel_rfl
  go_big_region_o
  all_goals go_wp2_with fail
  obtain ⟨p1, p2, p3⟩ := set2_all (T := 28) HD3.out (by decide) (.slice a1 n1 n1) (.bool b1)
  have HD5 := HD4.out.grown p1 (by simp)
  obtain ⟨r1, r2, r3⟩ := set2_all (T := 28) HD5 (by decide) (.slice a2 n2 n2) (.bool false)
  have q1 := p3.grown r1 (by simp)
  have hsz1 := HBW.out.size
  have hsz2 := p1.size
  exact blk_ret3 (T := 28) (U := 28) rfl (by kernel_rfl) (by kernel_rfl) rfl rfl rfl q1 r3 ⟨_, rfl, ⟨_, _, _, rfl, HZ.out.keep (p2.trans r2)⟩, below_same ((HBW.out.grown p1 hsz1 (by intro k e; cases e; omega)).grown r1 (by omega) (by intro k e; cases e; omega)) rfl rfl rfl rfl⟩
end Go.Proofs.Ytnojfiokdhcbjaa
