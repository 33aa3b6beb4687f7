/-
  frac.Add, Mul: the walks. (Printed by gen_frac.py.)
-/
import Derived.Test.YtnojfiokdhcbjaaGLow
namespace Go.Proofs.Ytnojfiokdhcbjaa
open Go Go.RowKit
def rlen (q : Rat) : Nat := (limbs q.num.natAbs).length + (limbs q.den).length
theorem limbs_addZ {x y : Int} {k : Nat} (hx : (limbs x.natAbs).length ≤ k) (hy : (limbs y.natAbs).length ≤ k) : (limbs (x + y).natAbs).length ≤ k + 1 := by
 have h1 := val_lt (limbs_limb x.natAbs)
 have h2 := val_lt (limbs_limb y.natAbs)
 rw [val_limbs] at h1 h2
 rw [limbs_len, Nat.pow_succ]
 have e1 := Nat.pow_le_pow_right (show 0 < 4294967296 by omega) hx
 have e2 := Nat.pow_le_pow_right (show 0 < 4294967296 by omega) hy
 have := Int.natAbs_add_le x y
 omega
section
variable (w : World) (a : Option Addr) (n : Nat) (b : Bool) (c : Option Addr) (m : Nat) (d : Bool) (a' : Option Addr) (n' : Nat) (b' : Bool) (c' : Option Addr) (m' : Nat) (d' : Bool)
abbrev r3W : World := ((w.alloc (.cells #[.slice a n n, .bool b, .slice c m m, .bool d] 30)).alloc (.cells #[.slice a' n' n', .bool b', .slice c' m' m', .bool d'] 30)).alloc (.cells #[.slice none 0 0, .bool false, .slice none 0 0, .bool false] 30)
theorem r3W_1 : BlkC 30 (r3W w a n b c m d a' n' b' c' m' d') w.heap.size [.slice a n n, .bool b, .slice c m m, .bool d] := ((BlkC.new _ w [.slice a n n, .bool b, .slice c m m, .bool d]).still (grown_alloc _ _ none)).still (grown_alloc _ _ none)
theorem r3W_2 : BlkC 30 (r3W w a n b c m d a' n' b' c' m' d') (w.heap.size + 1) [.slice a' n' n', .bool b', .slice c' m' m', .bool d'] := (blk_at (cs := [.slice a' n' n', .bool b', .slice c' m' m', .bool d']) (by simp)).still (grown_alloc _ _ none)
theorem r3W_3 : BlkC 30 (r3W w a n b c m d a' n' b' c' m' d') (w.heap.size + 1 + 1) [.slice none 0 0, .bool false, .slice none 0 0, .bool false] := blk_at (cs := [.slice none 0 0, .bool false, .slice none 0 0, .bool false]) (by simp)
theorem r3W_g : Own w.heap.size w (r3W w a n b c m d a' n' b' c' m' d') := (((own_alloc _ _).alloc (by simp) _).alloc (by simp; omega) _)
end
set_option maxHeartbeats 8000000 in
set_option maxRecDepth 100000 in
theorem add_any (q p : Rat) (v u : Value) (w : World) (hv : RIs w v q) (hu : RIs w u p) (hq : rlen q ≤ 100000) (hp : rlen p ≤ 100000) :
  Calls Try.prog 38 #[v, u] w fun e w' => ∃ r, e = .returned r ∧ RIs w' r (q + p) ∧ Below w.heap.size w w' := by
 obtain ⟨a, n, b, c, m, d, rfl⟩ := hv.parts
 obtain ⟨a', n', b', c', m', d', rfl⟩ := hu.parts
 have HB1 : Hid (BlkC 30 (r3W w a n b c m d a' n' b' c' m' d').drew w.heap.size [.slice a n n, .bool b, .slice c m m, .bool d]) := r3W_1 w a n b c m d a' n' b' c' m' d'
 have HB2 : Hid (BlkC 30 (r3W w a n b c m d a' n' b' c' m' d').drew (w.heap.size + 1) [.slice a' n' n', .bool b', .slice c' m' m', .bool d']) := r3W_2 w a n b c m d a' n' b' c' m' d'
 have HB3 : Hid (BlkC 30 (r3W w a n b c m d a' n' b' c' m' d').drew (w.heap.size + 1 + 1) [.slice none 0 0, .bool false, .slice none 0 0, .bool false]) := r3W_3 w a n b c m d a' n' b' c' m' d'
 have HG : Hid (Own w.heap.size w (r3W w a n b c m d a' n' b' c' m' d').drew) := (r3W_g w a n b c m d a' n' b' c' m' d').drew
 have HV := Lib.hid hv
 have HU := Lib.hid hu
 have HQ := Lib.hid hq
 have HP := Lib.hid hp
 have HL1 : Hid ((limbs ((q.num) * (p.den : Int)).natAbs).length ≤ 900000) := by show _ ≤ _; have h := limbs_mulZ (q.num) (p.den : Int); (try simp only [Int.natAbs_natCast] at h); unfold rlen at *; omega
 have HL2 : Hid ((limbs ((p.num) * (q.den : Int)).natAbs).length ≤ 900000) := by show _ ≤ _; have h := limbs_mulZ (p.num) (q.den : Int); (try simp only [Int.natAbs_natCast] at h); unfold rlen at *; omega
 have HL4 : Hid ((limbs ((q.den : Int) * (p.den : Int)).natAbs).length ≤ 800000) := by show _ ≤ _; have h := limbs_mulZ (q.den : Int) (p.den : Int); (try simp only [Int.natAbs_natCast] at h); unfold rlen at *; omega
 have HL3 : Hid ((limbs ((q.num) * (p.den : Int) + (p.num) * (q.den : Int)).natAbs).length ≤ 800000) := by
  show _ ≤ _
  have h1 := limbs_mulZ (q.num) (p.den : Int)
  have h2 := limbs_mulZ (p.num) (q.den : Int)
  simp only [Int.natAbs_natCast] at h1 h2
  unfold rlen at *
  have h3 := limbs_addZ (x := (q.num) * (p.den : Int)) (y := (p.num) * (q.den : Int)) (k := 300000) (by omega) (by omega)
  omega
 have HD : Hid ((q.den : Int) * (p.den : Int) ≠ 0) := Int.mul_ne_zero (den_ne q) (den_ne p)
 clear hv hu hq hp
 go_enter Try.func38, Try.ntmps38
 go_wp2_with fail
 refine region_mem (s := fun | 0 => .is (.pointer (some ⟨w.heap.size, 0, none⟩)) | 1 => .z (q.num) | 2 => .q (p) | 3 => .z ((p.den : Int)) | 4 => .z ((q.num) * (p.den : Int)) | 5 => .is (.pointer (some ⟨(w.heap.size + 1), 0, none⟩)) | 6 => .z (p.num) | 7 => .q (q) | 8 => .z ((q.den : Int)) | 9 => .z ((p.num) * (q.den : Int)) | 10 => .z ((q.num) * (p.den : Int) + (p.num) * (q.den : Int)) | 11 => .q (q) | 12 => .z ((q.den : Int)) | 13 => .q (p) | 14 => .z ((p.den : Int)) | 15 => .z ((q.den : Int) * (p.den : Int)) | 16 => .q (q + p) | 17 => .any | _ => .any) (J := MM w.heap.size w w [(30, w.heap.size, [.slice a n n, .bool b, .slice c m m, .bool d]), (30, (w.heap.size + 1), [.slice a' n' n', .bool b', .slice c' m' m', .bool d'])] [tgR 4 none 17 (q + p)]) (by kernel_rfl) (by kernel_rfl) rfl (fun f g a w hn h => MM.ext (n := 18) (by simp) hn h) ?_ ?_ ?_
 ·refine ⟨HG.out.b, HG.out.b |> keep_below, HG.out.size, (by intro q hq; simp only [List.mem_cons, List.not_mem_nil, or_false] at hq; rcases hq with rfl | rfl; exact HB1.out; exact HB2.out), ?_, (by intro t u h1 h2 hd; simp only [List.mem_singleton] at h1 h2; subst h1; subst h2; exact absurd rfl hd)⟩
  intro t ht h
  simp only [List.mem_singleton] at ht
  subst ht
  exact ⟨w.heap.size + 1 + 1, _, rfl, by omega, HB3.out, ⟨_, _, _, _, rfl⟩, by intro q hq; simp only [List.mem_cons, List.not_mem_nil, or_false] at hq; rcases hq with rfl | rfl <;> simp <;> omega⟩
 ·intro i o f A W hi hJ hf hdep hdn hcl hfr hsz
  rcases i with _ | _ | _ | _ | _ | _ | _ | _ | _ | _ | _ | _ | _ | _ | _ | _ | _ | _ | i
  all_goals (simp at hi)
  all_goals (try subst hi)
  ·have t2 := hfr 2 (by simp)
   refine par_value (v := .pointer (some ⟨w.heap.size, 0, none⟩)) (w' := W) ?_ ⟨Keep.refl _, hJ.same _ _ _ (by simp), rfl⟩
   simp [go_sem, Act.eval, t2]
  ·have t5 : A.tmps.getD 5 undef = .pointer (some ⟨w.heap.size, 0, none⟩) := hdep 0 _ 5 rfl (by kernel_rfl) rfl
   have hb0 : BlkC 30 W w.heap.size [.slice a n n, .bool b, .slice c m m, .bool d] := hJ.kept (30, w.heap.size, [.slice a n n, .bool b, .slice c m m, .bool d]) (by simp)
   have x00 : W.cell? ⟨w.heap.size, 0, none⟩ = some (.slice a n n) := by rw [hb0.cell 0]; rfl
   have x01 : W.cell? ⟨w.heap.size, 1, none⟩ = some (.bool b) := by rw [hb0.cell 1]; rfl
   have x02 : W.cell? ⟨w.heap.size, 2, none⟩ = some (.slice c m m) := by rw [hb0.cell 2]; rfl
   have x03 : W.cell? ⟨w.heap.size, 3, none⟩ = some (.bool d) := by rw [hb0.cell 3]; rfl
   refine par_value (v := .agg #[.slice a n n, .bool b]) (w' := W) ?_ ⟨Keep.refl _, hJ.same _ _ _ (by simp), (r_parts (RIs.keep HV.out hJ.k)).1⟩
   simp [go_sem, Act.eval, t5, x00, x01]
  ·have t3 := hfr 3 (by simp)
   have hb1 : BlkC 30 W (w.heap.size + 1) [.slice a' n' n', .bool b', .slice c' m' m', .bool d'] := hJ.kept (30, (w.heap.size + 1), [.slice a' n' n', .bool b', .slice c' m' m', .bool d']) (by simp)
   have x10 : W.cell? ⟨(w.heap.size + 1), 0, none⟩ = some (.slice a' n' n') := by rw [hb1.cell 0]; rfl
   have x11 : W.cell? ⟨(w.heap.size + 1), 1, none⟩ = some (.bool b') := by rw [hb1.cell 1]; rfl
   have x12 : W.cell? ⟨(w.heap.size + 1), 2, none⟩ = some (.slice c' m' m') := by rw [hb1.cell 2]; rfl
   have x13 : W.cell? ⟨(w.heap.size + 1), 3, none⟩ = some (.bool d') := by rw [hb1.cell 3]; rfl
   refine par_value (v := .agg #[.slice a' n' n', .bool b', .slice c' m' m', .bool d']) (w' := W) ?_ ⟨Keep.refl _, hJ.same _ _ _ (by simp), RIs.keep HU.out hJ.k⟩
   simp [go_sem, Act.eval, t3, x10, x11, x12, x13]
  ·have t7 : RIs W (A.tmps.getD 7 undef) (p) := hdep 2 _ 7 rfl (by kernel_rfl) rfl
   refine par_call (w' := W) (f := 33) (xs := #[A.tmps.getD 7 undef]) (by simp [go_sem, Act.eval]) ?_
   refine (den_any p _ _ t7 (by have := HP.out; unfold rlen at this; omega)).mono ?_
   rintro e w1 ⟨r, rfl, hr, hg1⟩
   exact ⟨r, rfl, Gr.keep hg1, hJ.gr hg1.b _ _ _ (by simp), hr⟩
  ·have t6 : ZIs W (A.tmps.getD 6 undef) (q.num) := hdep 1 _ 6 rfl (by kernel_rfl) rfl
   have t8 : ZIs W (A.tmps.getD 8 undef) ((p.den : Int)) := hdep 3 _ 8 rfl (by kernel_rfl) rfl
   refine par_call (w' := W) (f := 32) (xs := #[A.tmps.getD 6 undef, A.tmps.getD 8 undef]) (by simp [go_sem, Act.eval]) ?_
   refine (mulZ_any (q.num) (p.den : Int) _ _ _ t6 t8 (by have := HQ.out; unfold rlen at this; omega) (by have := HP.out; unfold rlen at this; rw [Int.natAbs_natCast]; omega)).mono ?_
   rintro e w1 ⟨r, rfl, hr, hg1⟩
   exact ⟨r, rfl, Gr.keep hg1, hJ.gr hg1.b _ _ _ (by simp), hr⟩
  ·have t3 := hfr 3 (by simp)
   refine par_value (v := .pointer (some ⟨(w.heap.size + 1), 0, none⟩)) (w' := W) ?_ ⟨Keep.refl _, hJ.same _ _ _ (by simp), rfl⟩
   simp [go_sem, Act.eval, t3]
  ·have t10 : A.tmps.getD 10 undef = .pointer (some ⟨(w.heap.size + 1), 0, none⟩) := hdep 5 _ 10 rfl (by kernel_rfl) rfl
   have hb1 : BlkC 30 W (w.heap.size + 1) [.slice a' n' n', .bool b', .slice c' m' m', .bool d'] := hJ.kept (30, (w.heap.size + 1), [.slice a' n' n', .bool b', .slice c' m' m', .bool d']) (by simp)
   have x10 : W.cell? ⟨(w.heap.size + 1), 0, none⟩ = some (.slice a' n' n') := by rw [hb1.cell 0]; rfl
   have x11 : W.cell? ⟨(w.heap.size + 1), 1, none⟩ = some (.bool b') := by rw [hb1.cell 1]; rfl
   have x12 : W.cell? ⟨(w.heap.size + 1), 2, none⟩ = some (.slice c' m' m') := by rw [hb1.cell 2]; rfl
   have x13 : W.cell? ⟨(w.heap.size + 1), 3, none⟩ = some (.bool d') := by rw [hb1.cell 3]; rfl
   refine par_value (v := .agg #[.slice a' n' n', .bool b']) (w' := W) ?_ ⟨Keep.refl _, hJ.same _ _ _ (by simp), (r_parts (RIs.keep HU.out hJ.k)).1⟩
   simp [go_sem, Act.eval, t10, x10, x11]
  ·have t2 := hfr 2 (by simp)
   have hb0 : BlkC 30 W w.heap.size [.slice a n n, .bool b, .slice c m m, .bool d] := hJ.kept (30, w.heap.size, [.slice a n n, .bool b, .slice c m m, .bool d]) (by simp)
   have x00 : W.cell? ⟨w.heap.size, 0, none⟩ = some (.slice a n n) := by rw [hb0.cell 0]; rfl
   have x01 : W.cell? ⟨w.heap.size, 1, none⟩ = some (.bool b) := by rw [hb0.cell 1]; rfl
   have x02 : W.cell? ⟨w.heap.size, 2, none⟩ = some (.slice c m m) := by rw [hb0.cell 2]; rfl
   have x03 : W.cell? ⟨w.heap.size, 3, none⟩ = some (.bool d) := by rw [hb0.cell 3]; rfl
   refine par_value (v := .agg #[.slice a n n, .bool b, .slice c m m, .bool d]) (w' := W) ?_ ⟨Keep.refl _, hJ.same _ _ _ (by simp), RIs.keep HV.out hJ.k⟩
   simp [go_sem, Act.eval, t2, x00, x01, x02, x03]
  ·have t12 : RIs W (A.tmps.getD 12 undef) (q) := hdep 7 _ 12 rfl (by kernel_rfl) rfl
   refine par_call (w' := W) (f := 33) (xs := #[A.tmps.getD 12 undef]) (by simp [go_sem, Act.eval]) ?_
   refine (den_any q _ _ t12 (by have := HQ.out; unfold rlen at this; omega)).mono ?_
   rintro e w1 ⟨r, rfl, hr, hg1⟩
   exact ⟨r, rfl, Gr.keep hg1, hJ.gr hg1.b _ _ _ (by simp), hr⟩
  ·have t11 : ZIs W (A.tmps.getD 11 undef) (p.num) := hdep 6 _ 11 rfl (by kernel_rfl) rfl
   have t13 : ZIs W (A.tmps.getD 13 undef) ((q.den : Int)) := hdep 8 _ 13 rfl (by kernel_rfl) rfl
   refine par_call (w' := W) (f := 32) (xs := #[A.tmps.getD 11 undef, A.tmps.getD 13 undef]) (by simp [go_sem, Act.eval]) ?_
   refine (mulZ_any (p.num) (q.den : Int) _ _ _ t11 t13 (by have := HP.out; unfold rlen at this; omega) (by have := HQ.out; unfold rlen at this; rw [Int.natAbs_natCast]; omega)).mono ?_
   rintro e w1 ⟨r, rfl, hr, hg1⟩
   exact ⟨r, rfl, Gr.keep hg1, hJ.gr hg1.b _ _ _ (by simp), hr⟩
  ·have t9 : ZIs W (A.tmps.getD 9 undef) ((q.num) * (p.den : Int)) := hdep 4 _ 9 rfl (by kernel_rfl) rfl
   have t14 : ZIs W (A.tmps.getD 14 undef) ((p.num) * (q.den : Int)) := hdep 9 _ 14 rfl (by kernel_rfl) rfl
   refine par_call (w' := W) (f := 67) (xs := #[A.tmps.getD 9 undef, A.tmps.getD 14 undef]) (by simp [go_sem, Act.eval]) ?_
   refine (zAdd_any ((q.num) * (p.den : Int)) ((p.num) * (q.den : Int)) _ _ _ t9 t14 HL1.out HL2.out).mono ?_
   rintro e w1 ⟨r, rfl, hr, hg1⟩
   exact ⟨r, rfl, Gr.keep hg1, hJ.gr hg1.b _ _ _ (by simp), hr⟩
  ·have t2 := hfr 2 (by simp)
   have hb0 : BlkC 30 W w.heap.size [.slice a n n, .bool b, .slice c m m, .bool d] := hJ.kept (30, w.heap.size, [.slice a n n, .bool b, .slice c m m, .bool d]) (by simp)
   have x00 : W.cell? ⟨w.heap.size, 0, none⟩ = some (.slice a n n) := by rw [hb0.cell 0]; rfl
   have x01 : W.cell? ⟨w.heap.size, 1, none⟩ = some (.bool b) := by rw [hb0.cell 1]; rfl
   have x02 : W.cell? ⟨w.heap.size, 2, none⟩ = some (.slice c m m) := by rw [hb0.cell 2]; rfl
   have x03 : W.cell? ⟨w.heap.size, 3, none⟩ = some (.bool d) := by rw [hb0.cell 3]; rfl
   refine par_value (v := .agg #[.slice a n n, .bool b, .slice c m m, .bool d]) (w' := W) ?_ ⟨Keep.refl _, hJ.same _ _ _ (by simp), RIs.keep HV.out hJ.k⟩
   simp [go_sem, Act.eval, t2, x00, x01, x02, x03]
  ·have t16 : RIs W (A.tmps.getD 16 undef) (q) := hdep 11 _ 16 rfl (by kernel_rfl) rfl
   refine par_call (w' := W) (f := 33) (xs := #[A.tmps.getD 16 undef]) (by simp [go_sem, Act.eval]) ?_
   refine (den_any q _ _ t16 (by have := HQ.out; unfold rlen at this; omega)).mono ?_
   rintro e w1 ⟨r, rfl, hr, hg1⟩
   exact ⟨r, rfl, Gr.keep hg1, hJ.gr hg1.b _ _ _ (by simp), hr⟩
  ·have t3 := hfr 3 (by simp)
   have hb1 : BlkC 30 W (w.heap.size + 1) [.slice a' n' n', .bool b', .slice c' m' m', .bool d'] := hJ.kept (30, (w.heap.size + 1), [.slice a' n' n', .bool b', .slice c' m' m', .bool d']) (by simp)
   have x10 : W.cell? ⟨(w.heap.size + 1), 0, none⟩ = some (.slice a' n' n') := by rw [hb1.cell 0]; rfl
   have x11 : W.cell? ⟨(w.heap.size + 1), 1, none⟩ = some (.bool b') := by rw [hb1.cell 1]; rfl
   have x12 : W.cell? ⟨(w.heap.size + 1), 2, none⟩ = some (.slice c' m' m') := by rw [hb1.cell 2]; rfl
   have x13 : W.cell? ⟨(w.heap.size + 1), 3, none⟩ = some (.bool d') := by rw [hb1.cell 3]; rfl
   refine par_value (v := .agg #[.slice a' n' n', .bool b', .slice c' m' m', .bool d']) (w' := W) ?_ ⟨Keep.refl _, hJ.same _ _ _ (by simp), RIs.keep HU.out hJ.k⟩
   simp [go_sem, Act.eval, t3, x10, x11, x12, x13]
  ·have t18 : RIs W (A.tmps.getD 18 undef) (p) := hdep 13 _ 18 rfl (by kernel_rfl) rfl
   refine par_call (w' := W) (f := 33) (xs := #[A.tmps.getD 18 undef]) (by simp [go_sem, Act.eval]) ?_
   refine (den_any p _ _ t18 (by have := HP.out; unfold rlen at this; omega)).mono ?_
   rintro e w1 ⟨r, rfl, hr, hg1⟩
   exact ⟨r, rfl, Gr.keep hg1, hJ.gr hg1.b _ _ _ (by simp), hr⟩
  ·have t17 : ZIs W (A.tmps.getD 17 undef) ((q.den : Int)) := hdep 12 _ 17 rfl (by kernel_rfl) rfl
   have t19 : ZIs W (A.tmps.getD 19 undef) ((p.den : Int)) := hdep 14 _ 19 rfl (by kernel_rfl) rfl
   refine par_call (w' := W) (f := 32) (xs := #[A.tmps.getD 17 undef, A.tmps.getD 19 undef]) (by simp [go_sem, Act.eval]) ?_
   refine (mulZ_any (q.den : Int) (p.den : Int) _ _ _ t17 t19 (by have := HQ.out; unfold rlen at this; rw [Int.natAbs_natCast]; omega) (by have := HP.out; unfold rlen at this; rw [Int.natAbs_natCast]; omega)).mono ?_
   rintro e w1 ⟨r, rfl, hr, hg1⟩
   exact ⟨r, rfl, Gr.keep hg1, hJ.gr hg1.b _ _ _ (by simp), hr⟩
  ·have t15 : ZIs W (A.tmps.getD 15 undef) ((q.num) * (p.den : Int) + (p.num) * (q.den : Int)) := hdep 10 _ 15 rfl (by kernel_rfl) rfl
   have t20 : ZIs W (A.tmps.getD 20 undef) ((q.den : Int) * (p.den : Int)) := hdep 15 _ 20 rfl (by kernel_rfl) rfl
   refine par_call (w' := W) (f := 35) (xs := #[A.tmps.getD 15 undef, A.tmps.getD 20 undef]) (by simp [go_sem, Act.eval]) ?_
   refine (lowest_any ((q.num) * (p.den : Int) + (p.num) * (q.den : Int)) ((q.den : Int) * (p.den : Int)) _ _ _ t15 t20 HL3.out HL4.out HD.out).mono ?_
   rintro e w1 ⟨r, rfl, hr0, hg1⟩
   have hr : RIs w1 r (q + p) := by have h := hr0; rwa [add_frac] at h
   exact ⟨r, rfl, keep_below hg1, hJ.gr hg1 _ _ _ (by simp), hr⟩
  ·have t21 : RIs W (A.tmps.getD 21 undef) (q + p) := hdep 16 _ 21 rfl (by kernel_rfl) rfl
   obtain ⟨g9, cs9, hp9, hb9, hk9⟩ := hJ.ahead (t0 := tgR 4 none 17 (q + p)) (by simp) (fun j hj => by cases hj) hf
   obtain ⟨y0, y1, y2, y3, rfl⟩ := hk9
   obtain ⟨a8, n8, b8, a7, n7, b7, e8⟩ := t21.parts
   have hv8 := t21
   rw [e8] at hv8
   obtain ⟨c0, c1, c2, c3⟩ := blk4 hb9
   obtain ⟨f0, f1, f2, f3, l0⟩ := blk4f hb9
   obtain ⟨k1, k2, k3⟩ := set4_all (T := 30) hb9 (by decide) (.slice a8 n8 n8) (.bool b8) (.slice a7 n7 n7) (.bool b7)
   refine par_skip ?_ ⟨k2, hJ.put 17 undef (by simp) (fun j hj => by cases hj) rfl hp9 k1 k2 k3 (rc_of (hv8.keep k2)) (by simp) (by simp), trivial⟩
   simp [go_sem, Act.eval, hp9, e8, c0, c1, c2, c3, f0, f1, f2, f3]
 ·intro vs W hJ hs
  obtain ⟨gA, csA, pA, _, bA, kA, _⟩ := hJ.at' (tgR 4 none 17 (q + p)) (by simp) (fun j hj => by cases hj)
  have eA : gA = w.heap.size + 1 + 1 := ptr_eq (by simpa [putAll, Act.put] using pA)
  subst eA
  have kA' : RC W csA (q + p) := kA
  obtain ⟨a9, n9, b9, c9, m9, d9, rfl⟩ := rc_parts kA'
  have HB9 : Hid (BlkC 30 W (w.heap.size + 1 + 1) [.slice a9 n9 n9, .bool b9, .slice c9 m9 m9, .bool d9]) := bA
  have HR9 : Hid (RIs W (.agg #[.slice a9 n9 n9, .bool b9, .slice c9 m9 m9, .bool d9]) (q + p)) := ⟨_, rfl, kA'⟩
  have HL9 : Hid (Below w.heap.size w W) := hJ.b
  clear pA bA kA kA' hJ hs
  simp only [putAll, List.foldl_cons, List.foldl_nil, Act.put, List.setIfInBounds_toArray, List.set_cons_succ, List.set_cons_zero]
  go_wp2_with fail
  exact r_ret rfl rfl rfl HB9.out ⟨_, rfl, HR9.out, HL9.out⟩
set_option maxHeartbeats 8000000 in
set_option maxRecDepth 100000 in
theorem rmul_any (q p : Rat) (v u : Value) (w : World) (hv : RIs w v q) (hu : RIs w u p) (hq : rlen q ≤ 100000) (hp : rlen p ≤ 100000) :
  Calls Try.prog 16 #[v, u] w fun e w' => ∃ r, e = .returned r ∧ RIs w' r (q * p) ∧ Below w.heap.size w w' := by
 obtain ⟨a, n, b, c, m, d, rfl⟩ := hv.parts
 obtain ⟨a', n', b', c', m', d', rfl⟩ := hu.parts
 have HB1 : Hid (BlkC 30 (r3W w a n b c m d a' n' b' c' m' d').drew w.heap.size [.slice a n n, .bool b, .slice c m m, .bool d]) := r3W_1 w a n b c m d a' n' b' c' m' d'
 have HB2 : Hid (BlkC 30 (r3W w a n b c m d a' n' b' c' m' d').drew (w.heap.size + 1) [.slice a' n' n', .bool b', .slice c' m' m', .bool d']) := r3W_2 w a n b c m d a' n' b' c' m' d'
 have HB3 : Hid (BlkC 30 (r3W w a n b c m d a' n' b' c' m' d').drew (w.heap.size + 1 + 1) [.slice none 0 0, .bool false, .slice none 0 0, .bool false]) := r3W_3 w a n b c m d a' n' b' c' m' d'
 have HG : Hid (Own w.heap.size w (r3W w a n b c m d a' n' b' c' m' d').drew) := (r3W_g w a n b c m d a' n' b' c' m' d').drew
 have HV := Lib.hid hv
 have HU := Lib.hid hu
 have HQ := Lib.hid hq
 have HP := Lib.hid hp
 have HL1 : Hid ((limbs ((q.num) * (p.num)).natAbs).length ≤ 800000) := by show _ ≤ _; have h := limbs_mulZ (q.num) (p.num); (try simp only [Int.natAbs_natCast] at h); unfold rlen at *; omega
 have HL4 : Hid ((limbs ((q.den : Int) * (p.den : Int)).natAbs).length ≤ 800000) := by show _ ≤ _; have h := limbs_mulZ (q.den : Int) (p.den : Int); (try simp only [Int.natAbs_natCast] at h); unfold rlen at *; omega
 have HD : Hid ((q.den : Int) * (p.den : Int) ≠ 0) := Int.mul_ne_zero (den_ne q) (den_ne p)
 clear hv hu hq hp
 go_enter Try.func16, Try.ntmps16
 go_wp2_with fail
 refine region_mem (s := fun | 0 => .is (.pointer (some ⟨w.heap.size, 0, none⟩)) | 1 => .z (q.num) | 2 => .is (.pointer (some ⟨(w.heap.size + 1), 0, none⟩)) | 3 => .z (p.num) | 4 => .z ((q.num) * (p.num)) | 5 => .q (q) | 6 => .z ((q.den : Int)) | 7 => .q (p) | 8 => .z ((p.den : Int)) | 9 => .z ((q.den : Int) * (p.den : Int)) | 10 => .q (q * p) | 11 => .any | _ => .any) (J := MM w.heap.size w w [(30, w.heap.size, [.slice a n n, .bool b, .slice c m m, .bool d]), (30, (w.heap.size + 1), [.slice a' n' n', .bool b', .slice c' m' m', .bool d'])] [tgR 4 none 11 (q * p)]) (by kernel_rfl) (by kernel_rfl) rfl (fun f g a w hn h => MM.ext (n := 12) (by simp) hn h) ?_ ?_ ?_
 ·refine ⟨HG.out.b, HG.out.b |> keep_below, HG.out.size, (by intro q hq; simp only [List.mem_cons, List.not_mem_nil, or_false] at hq; rcases hq with rfl | rfl; exact HB1.out; exact HB2.out), ?_, (by intro t u h1 h2 hd; simp only [List.mem_singleton] at h1 h2; subst h1; subst h2; exact absurd rfl hd)⟩
  intro t ht h
  simp only [List.mem_singleton] at ht
  subst ht
  exact ⟨w.heap.size + 1 + 1, _, rfl, by omega, HB3.out, ⟨_, _, _, _, rfl⟩, by intro q hq; simp only [List.mem_cons, List.not_mem_nil, or_false] at hq; rcases hq with rfl | rfl <;> simp <;> omega⟩
 ·intro i o f A W hi hJ hf hdep hdn hcl hfr hsz
  rcases i with _ | _ | _ | _ | _ | _ | _ | _ | _ | _ | _ | _ | i
  all_goals (simp at hi)
  all_goals (try subst hi)
  ·have t2 := hfr 2 (by simp)
   refine par_value (v := .pointer (some ⟨w.heap.size, 0, none⟩)) (w' := W) ?_ ⟨Keep.refl _, hJ.same _ _ _ (by simp), rfl⟩
   simp [go_sem, Act.eval, t2]
  ·have t5 : A.tmps.getD 5 undef = .pointer (some ⟨w.heap.size, 0, none⟩) := hdep 0 _ 5 rfl (by kernel_rfl) rfl
   have hb0 : BlkC 30 W w.heap.size [.slice a n n, .bool b, .slice c m m, .bool d] := hJ.kept (30, w.heap.size, [.slice a n n, .bool b, .slice c m m, .bool d]) (by simp)
   have x00 : W.cell? ⟨w.heap.size, 0, none⟩ = some (.slice a n n) := by rw [hb0.cell 0]; rfl
   have x01 : W.cell? ⟨w.heap.size, 1, none⟩ = some (.bool b) := by rw [hb0.cell 1]; rfl
   have x02 : W.cell? ⟨w.heap.size, 2, none⟩ = some (.slice c m m) := by rw [hb0.cell 2]; rfl
   have x03 : W.cell? ⟨w.heap.size, 3, none⟩ = some (.bool d) := by rw [hb0.cell 3]; rfl
   refine par_value (v := .agg #[.slice a n n, .bool b]) (w' := W) ?_ ⟨Keep.refl _, hJ.same _ _ _ (by simp), (r_parts (RIs.keep HV.out hJ.k)).1⟩
   simp [go_sem, Act.eval, t5, x00, x01]
  ·have t3 := hfr 3 (by simp)
   refine par_value (v := .pointer (some ⟨(w.heap.size + 1), 0, none⟩)) (w' := W) ?_ ⟨Keep.refl _, hJ.same _ _ _ (by simp), rfl⟩
   simp [go_sem, Act.eval, t3]
  ·have t7 : A.tmps.getD 7 undef = .pointer (some ⟨(w.heap.size + 1), 0, none⟩) := hdep 2 _ 7 rfl (by kernel_rfl) rfl
   have hb1 : BlkC 30 W (w.heap.size + 1) [.slice a' n' n', .bool b', .slice c' m' m', .bool d'] := hJ.kept (30, (w.heap.size + 1), [.slice a' n' n', .bool b', .slice c' m' m', .bool d']) (by simp)
   have x10 : W.cell? ⟨(w.heap.size + 1), 0, none⟩ = some (.slice a' n' n') := by rw [hb1.cell 0]; rfl
   have x11 : W.cell? ⟨(w.heap.size + 1), 1, none⟩ = some (.bool b') := by rw [hb1.cell 1]; rfl
   have x12 : W.cell? ⟨(w.heap.size + 1), 2, none⟩ = some (.slice c' m' m') := by rw [hb1.cell 2]; rfl
   have x13 : W.cell? ⟨(w.heap.size + 1), 3, none⟩ = some (.bool d') := by rw [hb1.cell 3]; rfl
   refine par_value (v := .agg #[.slice a' n' n', .bool b']) (w' := W) ?_ ⟨Keep.refl _, hJ.same _ _ _ (by simp), (r_parts (RIs.keep HU.out hJ.k)).1⟩
   simp [go_sem, Act.eval, t7, x10, x11]
  ·have t6 : ZIs W (A.tmps.getD 6 undef) (q.num) := hdep 1 _ 6 rfl (by kernel_rfl) rfl
   have t8 : ZIs W (A.tmps.getD 8 undef) (p.num) := hdep 3 _ 8 rfl (by kernel_rfl) rfl
   refine par_call (w' := W) (f := 32) (xs := #[A.tmps.getD 6 undef, A.tmps.getD 8 undef]) (by simp [go_sem, Act.eval]) ?_
   refine (mulZ_any (q.num) (p.num) _ _ _ t6 t8 (by have := HQ.out; unfold rlen at this; omega) (by have := HP.out; unfold rlen at this; omega)).mono ?_
   rintro e w1 ⟨r, rfl, hr, hg1⟩
   exact ⟨r, rfl, Gr.keep hg1, hJ.gr hg1.b _ _ _ (by simp), hr⟩
  ·have t2 := hfr 2 (by simp)
   have hb0 : BlkC 30 W w.heap.size [.slice a n n, .bool b, .slice c m m, .bool d] := hJ.kept (30, w.heap.size, [.slice a n n, .bool b, .slice c m m, .bool d]) (by simp)
   have x00 : W.cell? ⟨w.heap.size, 0, none⟩ = some (.slice a n n) := by rw [hb0.cell 0]; rfl
   have x01 : W.cell? ⟨w.heap.size, 1, none⟩ = some (.bool b) := by rw [hb0.cell 1]; rfl
   have x02 : W.cell? ⟨w.heap.size, 2, none⟩ = some (.slice c m m) := by rw [hb0.cell 2]; rfl
   have x03 : W.cell? ⟨w.heap.size, 3, none⟩ = some (.bool d) := by rw [hb0.cell 3]; rfl
   refine par_value (v := .agg #[.slice a n n, .bool b, .slice c m m, .bool d]) (w' := W) ?_ ⟨Keep.refl _, hJ.same _ _ _ (by simp), RIs.keep HV.out hJ.k⟩
   simp [go_sem, Act.eval, t2, x00, x01, x02, x03]
  ·have t10 : RIs W (A.tmps.getD 10 undef) (q) := hdep 5 _ 10 rfl (by kernel_rfl) rfl
   refine par_call (w' := W) (f := 33) (xs := #[A.tmps.getD 10 undef]) (by simp [go_sem, Act.eval]) ?_
   refine (den_any q _ _ t10 (by have := HQ.out; unfold rlen at this; omega)).mono ?_
   rintro e w1 ⟨r, rfl, hr, hg1⟩
   exact ⟨r, rfl, Gr.keep hg1, hJ.gr hg1.b _ _ _ (by simp), hr⟩
  ·have t3 := hfr 3 (by simp)
   have hb1 : BlkC 30 W (w.heap.size + 1) [.slice a' n' n', .bool b', .slice c' m' m', .bool d'] := hJ.kept (30, (w.heap.size + 1), [.slice a' n' n', .bool b', .slice c' m' m', .bool d']) (by simp)
   have x10 : W.cell? ⟨(w.heap.size + 1), 0, none⟩ = some (.slice a' n' n') := by rw [hb1.cell 0]; rfl
   have x11 : W.cell? ⟨(w.heap.size + 1), 1, none⟩ = some (.bool b') := by rw [hb1.cell 1]; rfl
   have x12 : W.cell? ⟨(w.heap.size + 1), 2, none⟩ = some (.slice c' m' m') := by rw [hb1.cell 2]; rfl
   have x13 : W.cell? ⟨(w.heap.size + 1), 3, none⟩ = some (.bool d') := by rw [hb1.cell 3]; rfl
   refine par_value (v := .agg #[.slice a' n' n', .bool b', .slice c' m' m', .bool d']) (w' := W) ?_ ⟨Keep.refl _, hJ.same _ _ _ (by simp), RIs.keep HU.out hJ.k⟩
   simp [go_sem, Act.eval, t3, x10, x11, x12, x13]
  ·have t12 : RIs W (A.tmps.getD 12 undef) (p) := hdep 7 _ 12 rfl (by kernel_rfl) rfl
   refine par_call (w' := W) (f := 33) (xs := #[A.tmps.getD 12 undef]) (by simp [go_sem, Act.eval]) ?_
   refine (den_any p _ _ t12 (by have := HP.out; unfold rlen at this; omega)).mono ?_
   rintro e w1 ⟨r, rfl, hr, hg1⟩
   exact ⟨r, rfl, Gr.keep hg1, hJ.gr hg1.b _ _ _ (by simp), hr⟩
  ·have t11 : ZIs W (A.tmps.getD 11 undef) ((q.den : Int)) := hdep 6 _ 11 rfl (by kernel_rfl) rfl
   have t13 : ZIs W (A.tmps.getD 13 undef) ((p.den : Int)) := hdep 8 _ 13 rfl (by kernel_rfl) rfl
   refine par_call (w' := W) (f := 32) (xs := #[A.tmps.getD 11 undef, A.tmps.getD 13 undef]) (by simp [go_sem, Act.eval]) ?_
   refine (mulZ_any (q.den : Int) (p.den : Int) _ _ _ t11 t13 (by have := HQ.out; unfold rlen at this; rw [Int.natAbs_natCast]; omega) (by have := HP.out; unfold rlen at this; rw [Int.natAbs_natCast]; omega)).mono ?_
   rintro e w1 ⟨r, rfl, hr, hg1⟩
   exact ⟨r, rfl, Gr.keep hg1, hJ.gr hg1.b _ _ _ (by simp), hr⟩
  ·have t9 : ZIs W (A.tmps.getD 9 undef) ((q.num) * (p.num)) := hdep 4 _ 9 rfl (by kernel_rfl) rfl
   have t14 : ZIs W (A.tmps.getD 14 undef) ((q.den : Int) * (p.den : Int)) := hdep 9 _ 14 rfl (by kernel_rfl) rfl
   refine par_call (w' := W) (f := 35) (xs := #[A.tmps.getD 9 undef, A.tmps.getD 14 undef]) (by simp [go_sem, Act.eval]) ?_
   refine (lowest_any ((q.num) * (p.num)) ((q.den : Int) * (p.den : Int)) _ _ _ t9 t14 HL1.out HL4.out HD.out).mono ?_
   rintro e w1 ⟨r, rfl, hr0, hg1⟩
   have hr : RIs w1 r (q * p) := by have h := hr0; rwa [mul_frac] at h
   exact ⟨r, rfl, keep_below hg1, hJ.gr hg1 _ _ _ (by simp), hr⟩
  ·have t15 : RIs W (A.tmps.getD 15 undef) (q * p) := hdep 10 _ 15 rfl (by kernel_rfl) rfl
   obtain ⟨g9, cs9, hp9, hb9, hk9⟩ := hJ.ahead (t0 := tgR 4 none 11 (q * p)) (by simp) (fun j hj => by cases hj) hf
   obtain ⟨y0, y1, y2, y3, rfl⟩ := hk9
   obtain ⟨a8, n8, b8, a7, n7, b7, e8⟩ := t15.parts
   have hv8 := t15
   rw [e8] at hv8
   obtain ⟨c0, c1, c2, c3⟩ := blk4 hb9
   obtain ⟨f0, f1, f2, f3, l0⟩ := blk4f hb9
   obtain ⟨k1, k2, k3⟩ := set4_all (T := 30) hb9 (by decide) (.slice a8 n8 n8) (.bool b8) (.slice a7 n7 n7) (.bool b7)
   refine par_skip ?_ ⟨k2, hJ.put 11 undef (by simp) (fun j hj => by cases hj) rfl hp9 k1 k2 k3 (rc_of (hv8.keep k2)) (by simp) (by simp), trivial⟩
   simp [go_sem, Act.eval, hp9, e8, c0, c1, c2, c3, f0, f1, f2, f3]
 ·intro vs W hJ hs
  obtain ⟨gA, csA, pA, _, bA, kA, _⟩ := hJ.at' (tgR 4 none 11 (q * p)) (by simp) (fun j hj => by cases hj)
  have eA : gA = w.heap.size + 1 + 1 := ptr_eq (by simpa [putAll, Act.put] using pA)
  subst eA
  have kA' : RC W csA (q * p) := kA
  obtain ⟨a9, n9, b9, c9, m9, d9, rfl⟩ := rc_parts kA'
  have HB9 : Hid (BlkC 30 W (w.heap.size + 1 + 1) [.slice a9 n9 n9, .bool b9, .slice c9 m9 m9, .bool d9]) := bA
  have HR9 : Hid (RIs W (.agg #[.slice a9 n9 n9, .bool b9, .slice c9 m9 m9, .bool d9]) (q * p)) := ⟨_, rfl, kA'⟩
  have HL9 : Hid (Below w.heap.size w W) := hJ.b
  clear pA bA kA kA' hJ hs
  simp only [putAll, List.foldl_cons, List.foldl_nil, Act.put, List.setIfInBounds_toArray, List.set_cons_succ, List.set_cons_zero]
  go_wp2_with fail
  exact r_ret rfl rfl rfl HB9.out ⟨_, rfl, HR9.out, HL9.out⟩
set_option maxHeartbeats 8000000 in
set_option maxRecDepth 100000 in
theorem rsub_any (q p : Rat) (v u : Value) (w : World) (hv : RIs w v q) (hu : RIs w u p) (hq : rlen q ≤ 100000) (hp : rlen p ≤ 100000) :
  Calls Try.prog 36 #[v, u] w fun e w' => ∃ r, e = .returned r ∧ RIs w' r (q - p) ∧ Below w.heap.size w w' := by
 obtain ⟨a, n, b, c, m, d, rfl⟩ := hv.parts
 obtain ⟨a', n', b', c', m', d', rfl⟩ := hu.parts
 have HB1 : Hid (BlkC 30 (r3W w a n b c m d a' n' b' c' m' d').drew w.heap.size [.slice a n n, .bool b, .slice c m m, .bool d]) := r3W_1 w a n b c m d a' n' b' c' m' d'
 have HB2 : Hid (BlkC 30 (r3W w a n b c m d a' n' b' c' m' d').drew (w.heap.size + 1) [.slice a' n' n', .bool b', .slice c' m' m', .bool d']) := r3W_2 w a n b c m d a' n' b' c' m' d'
 have HB3 : Hid (BlkC 30 (r3W w a n b c m d a' n' b' c' m' d').drew (w.heap.size + 1 + 1) [.slice none 0 0, .bool false, .slice none 0 0, .bool false]) := r3W_3 w a n b c m d a' n' b' c' m' d'
 have HG : Hid (Own w.heap.size w (r3W w a n b c m d a' n' b' c' m' d').drew) := (r3W_g w a n b c m d a' n' b' c' m' d').drew
 have HV := Lib.hid hv
 have HU := Lib.hid hu
 have HQ := Lib.hid hq
 have HP := Lib.hid hp
 clear hv hu hq hp
 go_enter Try.func36, Try.ntmps36
 go_wp2_with fail
 refine region_mem (s := fun | 0 => .q (q) | 1 => .q (p) | 2 => .q (-p) | 3 => .q (q - p) | 4 => .any | _ => .any) (J := MM w.heap.size w w [(30, w.heap.size, [.slice a n n, .bool b, .slice c m m, .bool d]), (30, (w.heap.size + 1), [.slice a' n' n', .bool b', .slice c' m' m', .bool d'])] [tgR 4 none 4 (q - p)]) (by kernel_rfl) (by kernel_rfl) rfl (fun f g a w hn h => MM.ext (n := 5) (by simp) hn h) ?_ ?_ ?_
 ·refine ⟨HG.out.b, HG.out.b |> keep_below, HG.out.size, (by intro q hq; simp only [List.mem_cons, List.not_mem_nil, or_false] at hq; rcases hq with rfl | rfl; exact HB1.out; exact HB2.out), ?_, (by intro t u h1 h2 hd; simp only [List.mem_singleton] at h1 h2; subst h1; subst h2; exact absurd rfl hd)⟩
  intro t ht h
  simp only [List.mem_singleton] at ht
  subst ht
  exact ⟨w.heap.size + 1 + 1, _, rfl, by omega, HB3.out, ⟨_, _, _, _, rfl⟩, by intro q hq; simp only [List.mem_cons, List.not_mem_nil, or_false] at hq; rcases hq with rfl | rfl <;> simp <;> omega⟩
 ·intro i o f A W hi hJ hf hdep hdn hcl hfr hsz
  rcases i with _ | _ | _ | _ | _ | i
  all_goals (simp at hi)
  all_goals (try subst hi)
  ·have t2 := hfr 2 (by simp)
   have hb0 : BlkC 30 W w.heap.size [.slice a n n, .bool b, .slice c m m, .bool d] := hJ.kept (30, w.heap.size, [.slice a n n, .bool b, .slice c m m, .bool d]) (by simp)
   have x00 : W.cell? ⟨w.heap.size, 0, none⟩ = some (.slice a n n) := by rw [hb0.cell 0]; rfl
   have x01 : W.cell? ⟨w.heap.size, 1, none⟩ = some (.bool b) := by rw [hb0.cell 1]; rfl
   have x02 : W.cell? ⟨w.heap.size, 2, none⟩ = some (.slice c m m) := by rw [hb0.cell 2]; rfl
   have x03 : W.cell? ⟨w.heap.size, 3, none⟩ = some (.bool d) := by rw [hb0.cell 3]; rfl
   refine par_value (v := .agg #[.slice a n n, .bool b, .slice c m m, .bool d]) (w' := W) ?_ ⟨Keep.refl _, hJ.same _ _ _ (by simp), RIs.keep HV.out hJ.k⟩
   simp [go_sem, Act.eval, t2, x00, x01, x02, x03]
  ·have t3 := hfr 3 (by simp)
   have hb1 : BlkC 30 W (w.heap.size + 1) [.slice a' n' n', .bool b', .slice c' m' m', .bool d'] := hJ.kept (30, (w.heap.size + 1), [.slice a' n' n', .bool b', .slice c' m' m', .bool d']) (by simp)
   have x10 : W.cell? ⟨(w.heap.size + 1), 0, none⟩ = some (.slice a' n' n') := by rw [hb1.cell 0]; rfl
   have x11 : W.cell? ⟨(w.heap.size + 1), 1, none⟩ = some (.bool b') := by rw [hb1.cell 1]; rfl
   have x12 : W.cell? ⟨(w.heap.size + 1), 2, none⟩ = some (.slice c' m' m') := by rw [hb1.cell 2]; rfl
   have x13 : W.cell? ⟨(w.heap.size + 1), 3, none⟩ = some (.bool d') := by rw [hb1.cell 3]; rfl
   refine par_value (v := .agg #[.slice a' n' n', .bool b', .slice c' m' m', .bool d']) (w' := W) ?_ ⟨Keep.refl _, hJ.same _ _ _ (by simp), RIs.keep HU.out hJ.k⟩
   simp [go_sem, Act.eval, t3, x10, x11, x12, x13]
  ·have t6 : RIs W (A.tmps.getD 6 undef) (p) := hdep 1 _ 6 rfl (by kernel_rfl) rfl
   refine par_call (w' := W) (f := 66) (xs := #[A.tmps.getD 6 undef]) (by simp [go_sem, Act.eval]) ?_
   refine (fneg_any p _ _ t6 (by have := HP.out; unfold rlen at this; omega)).mono ?_
   rintro e w1 ⟨r, rfl, hr, hg1⟩
   exact ⟨r, rfl, Gr.keep hg1, hJ.gr hg1.b _ _ _ (by simp), hr⟩
  ·have t5 : RIs W (A.tmps.getD 5 undef) (q) := hdep 0 _ 5 rfl (by kernel_rfl) rfl
   have t7 : RIs W (A.tmps.getD 7 undef) (-p) := hdep 2 _ 7 rfl (by kernel_rfl) rfl
   refine par_call (w' := W) (f := 38) (xs := #[A.tmps.getD 5 undef, A.tmps.getD 7 undef]) (by simp [go_sem, Act.eval]) ?_
   refine (add_any q (-p) _ _ _ t5 t7 HQ.out (by have := HP.out; unfold rlen at *; simpa using this)).mono ?_
   rintro e w1 ⟨r, rfl, hr0, hg1⟩
   have hr : RIs w1 r (q - p) := by have h := hr0; rwa [← Rat.sub_eq_add_neg] at h
   exact ⟨r, rfl, keep_below hg1, hJ.gr hg1 _ _ _ (by simp), hr⟩
  ·have t8 : RIs W (A.tmps.getD 8 undef) (q - p) := hdep 3 _ 8 rfl (by kernel_rfl) rfl
   obtain ⟨g9, cs9, hp9, hb9, hk9⟩ := hJ.ahead (t0 := tgR 4 none 4 (q - p)) (by simp) (fun j hj => by cases hj) hf
   obtain ⟨y0, y1, y2, y3, rfl⟩ := hk9
   obtain ⟨a8, n8, b8, a7, n7, b7, e8⟩ := t8.parts
   have hv8 := t8
   rw [e8] at hv8
   obtain ⟨c0, c1, c2, c3⟩ := blk4 hb9
   obtain ⟨f0, f1, f2, f3, l0⟩ := blk4f hb9
   obtain ⟨k1, k2, k3⟩ := set4_all (T := 30) hb9 (by decide) (.slice a8 n8 n8) (.bool b8) (.slice a7 n7 n7) (.bool b7)
   refine par_skip ?_ ⟨k2, hJ.put 4 undef (by simp) (fun j hj => by cases hj) rfl hp9 k1 k2 k3 (rc_of (hv8.keep k2)) (by simp) (by simp), trivial⟩
   simp [go_sem, Act.eval, hp9, e8, c0, c1, c2, c3, f0, f1, f2, f3]
 ·intro vs W hJ hs
  obtain ⟨gA, csA, pA, _, bA, kA, _⟩ := hJ.at' (tgR 4 none 4 (q - p)) (by simp) (fun j hj => by cases hj)
  have eA : gA = w.heap.size + 1 + 1 := ptr_eq (by simpa [putAll, Act.put] using pA)
  subst eA
  have kA' : RC W csA (q - p) := kA
  obtain ⟨a9, n9, b9, c9, m9, d9, rfl⟩ := rc_parts kA'
  have HB9 : Hid (BlkC 30 W (w.heap.size + 1 + 1) [.slice a9 n9 n9, .bool b9, .slice c9 m9 m9, .bool d9]) := bA
  have HR9 : Hid (RIs W (.agg #[.slice a9 n9 n9, .bool b9, .slice c9 m9 m9, .bool d9]) (q - p)) := ⟨_, rfl, kA'⟩
  have HL9 : Hid (Below w.heap.size w W) := hJ.b
  clear pA bA kA kA' hJ hs
  simp only [putAll, List.foldl_cons, List.foldl_nil, Act.put, List.setIfInBounds_toArray, List.set_cons_succ, List.set_cons_zero]
  go_wp2_with fail
  exact r_ret rfl rfl rfl HB9.out ⟨_, rfl, HR9.out, HL9.out⟩
end Go.Proofs.Ytnojfiokdhcbjaa
