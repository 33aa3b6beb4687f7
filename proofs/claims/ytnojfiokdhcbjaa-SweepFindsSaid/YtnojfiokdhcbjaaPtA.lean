/-
  Points in memory; plane.Grid. (Printed by gen_pt.py.)
-/
import Derived.Test.YtnojfiokdhcbjaaGLst
namespace Go.Proofs.Ytnojfiokdhcbjaa
open Go Go.RowKit
def PIs (w : World) (v : Value) (x y : Rat) : Prop := ∃ (a : Option Addr) (n : Nat) (b : Bool) (c : Option Addr) (m : Nat) (d : Bool) (a' : Option Addr) (n' : Nat) (b' : Bool) (c' : Option Addr) (m' : Nat) (d' : Bool),
 v = .agg #[.slice a n n, .bool b, .slice c m m, .bool d, .slice a' n' n', .bool b', .slice c' m' m', .bool d'] ∧ RIs w (.agg #[.slice a n n, .bool b, .slice c m m, .bool d]) x ∧ RIs w (.agg #[.slice a' n' n', .bool b', .slice c' m' m', .bool d']) y
theorem PIs.keep {x y : Rat} (w w' : World) (v : Value) (k : Keep w w') : PIs w v x y → PIs w' v x y := by
 rintro ⟨a, n, b, c, m, d, a', n', b', c', m', d', rfl, h1, h2⟩
 exact ⟨a, n, b, c, m, d, a', n', b', c', m', d', rfl, h1.keep k, h2.keep k⟩
theorem PIs.of {w : World} {u v : Value} {x y : Rat} (hu : RIs w u x) (hv : RIs w v y) : ∃ (a : Option Addr) (n : Nat) (b : Bool) (c : Option Addr) (m : Nat) (d : Bool) (a' : Option Addr) (n' : Nat) (b' : Bool) (c' : Option Addr) (m' : Nat) (d' : Bool), u = .agg #[.slice a n n, .bool b, .slice c m m, .bool d] ∧ v = .agg #[.slice a' n' n', .bool b', .slice c' m' m', .bool d'] ∧ PIs w (.agg #[.slice a n n, .bool b, .slice c m m, .bool d, .slice a' n' n', .bool b', .slice c' m' m', .bool d']) x y := by
 obtain ⟨a, n, b, c, m, d, rfl⟩ := hu.parts
 obtain ⟨a', n', b', c', m', d', rfl⟩ := hv.parts
 exact ⟨a, n, b, c, m, d, a', n', b', c', m', d', rfl, rfl, a, n, b, c, m, d, a', n', b', c', m', d', rfl, hu, hv⟩
def KP (x y : Rat) : Bool → World → List Value → Prop
 | false, _, cs => ∃ x0 x1 x2 x3 x4 x5 x6 x7, cs = [x0, x1, x2, x3, x4, x5, x6, x7]
 | true, w, cs => PIs w (.agg cs.toArray) x y
abbrev tgP (d : Nat) (ia : Option Nat) (st : Nat) (x y : Rat) : Tg := ⟨d, ia, st, 32, KP x y, fun c _ _ _ k h => by
 cases c with
 | false => exact h
 | true => exact PIs.keep _ _ _ k h⟩
theorem p_cs {w : World} {cs : List Value} {x y : Rat} (h : PIs w (.agg cs.toArray) x y) : ∃ (a : Option Addr) (n : Nat) (b : Bool) (c : Option Addr) (m : Nat) (d : Bool) (a' : Option Addr) (n' : Nat) (b' : Bool) (c' : Option Addr) (m' : Nat) (d' : Bool), cs = [.slice a n n, .bool b, .slice c m m, .bool d, .slice a' n' n', .bool b', .slice c' m' m', .bool d'] := by
 obtain ⟨a, n, b, c, m, d, a', n', b', c', m', d', e, _⟩ := h
 simp only [Value.agg.injEq] at e
 have f := congrArg Array.toList e
 exact ⟨a, n, b, c, m, d, a', n', b', c', m', d', f⟩
section
variable {T : TypeId} {w : World} {g : Nat} {x0 x1 x2 x3 x4 x5 x6 x7 c0 c1 c2 c3 c4 c5 c6 c7 : Value}
theorem blk8 (h : BlkC T w g [x0, x1, x2, x3, x4, x5, x6, x7]) : w.cell? ⟨g, 0, none⟩ = some x0 ∧ w.cell? ⟨g, 1, none⟩ = some x1 ∧ w.cell? ⟨g, 2, none⟩ = some x2 ∧ w.cell? ⟨g, 3, none⟩ = some x3 ∧ w.cell? ⟨g, 4, none⟩ = some x4 ∧ w.cell? ⟨g, 5, none⟩ = some x5 ∧ w.cell? ⟨g, 6, none⟩ = some x6 ∧ w.cell? ⟨g, 7, none⟩ = some x7 :=
 ⟨by rw [h.cell 0]; rfl, by rw [h.cell 1]; rfl, by rw [h.cell 2]; rfl, by rw [h.cell 3]; rfl, by rw [h.cell 4]; rfl, by rw [h.cell 5]; rfl, by rw [h.cell 6]; rfl, by rw [h.cell 7]; rfl⟩
theorem blk8f (h : BlkC T w g [x0, x1, x2, x3, x4, x5, x6, x7]) : w.frozen? ⟨g, 0, none⟩ = false ∧ w.frozen? ⟨g, 1, none⟩ = false ∧ w.frozen? ⟨g, 2, none⟩ = false ∧ w.frozen? ⟨g, 3, none⟩ = false ∧ w.frozen? ⟨g, 4, none⟩ = false ∧ w.frozen? ⟨g, 5, none⟩ = false ∧ w.frozen? ⟨g, 6, none⟩ = false ∧ w.frozen? ⟨g, 7, none⟩ = false :=
 ⟨h.free 0, h.free 1, h.free 2, h.free 3, h.free 4, h.free 5, h.free 6, h.free 7⟩
theorem set8_all (h : BlkC T w g [x0, x1, x2, x3, x4, x5, x6, x7]) (hT : T ≠ 126) (c0 c1 c2 c3 c4 c5 c6 c7 : Value) : w.grownBy ((((((((w.setCell ⟨g, 0, none⟩ c0).setCell ⟨g, 1, none⟩ c1).setCell ⟨g, 2, none⟩ c2).setCell ⟨g, 3, none⟩ c3).setCell ⟨g, 4, none⟩ c4).setCell ⟨g, 5, none⟩ c5).setCell ⟨g, 6, none⟩ c6).setCell ⟨g, 7, none⟩ c7) (some g) ∧ Keep w ((((((((w.setCell ⟨g, 0, none⟩ c0).setCell ⟨g, 1, none⟩ c1).setCell ⟨g, 2, none⟩ c2).setCell ⟨g, 3, none⟩ c3).setCell ⟨g, 4, none⟩ c4).setCell ⟨g, 5, none⟩ c5).setCell ⟨g, 6, none⟩ c6).setCell ⟨g, 7, none⟩ c7) ∧ BlkC T ((((((((w.setCell ⟨g, 0, none⟩ c0).setCell ⟨g, 1, none⟩ c1).setCell ⟨g, 2, none⟩ c2).setCell ⟨g, 3, none⟩ c3).setCell ⟨g, 4, none⟩ c4).setCell ⟨g, 5, none⟩ c5).setCell ⟨g, 6, none⟩ c6).setCell ⟨g, 7, none⟩ c7) g [c0, c1, c2, c3, c4, c5, c6, c7] := by
 have h1 := h.set 0 c0
 have h2 := h1.set 1 c1
 have h3 := h2.set 2 c2
 have h4 := h3.set 3 c3
 have h5 := h4.set 4 c4
 have h6 := h5.set 5 c5
 have h7 := h6.set 6 c6
 refine ⟨grown_trans (grown_setCell _ _ _) (grown_trans (grown_setCell _ _ _) (grown_trans (grown_setCell _ _ _) (grown_trans (grown_setCell _ _ _) (grown_trans (grown_setCell _ _ _) (grown_trans (grown_setCell _ _ _) (grown_trans (grown_setCell _ _ _) (grown_setCell _ _ _))))))), ?_, h7.set 7 c7⟩
 exact (keep_set h hT _).trans ((keep_set h1 hT _).trans ((keep_set h2 hT _).trans ((keep_set h3 hT _).trans ((keep_set h4 hT _).trans ((keep_set h5 hT _).trans ((keep_set h6 hT _).trans (keep_set h7 hT _)))))))
end
theorem p_ret {T : TypeId} {R : Ending → World → Prop} {a : Act} {w : World} {g : Nat} {x0 x1 x2 x3 x4 x5 x6 x7 : Value} {f : Func} {t : Tmp} (h : f.results = #[.cell t 32])
  (hp : a.tmps.getD t undef = .pointer (some ⟨g, 0, none⟩)) (ha : a.defers = []) (hB : BlkC T w g [x0, x1, x2, x3, x4, x5, x6, x7]) (hR : R (.returned (.agg #[x0, x1, x2, x3, x4, x5, x6, x7])) w) : bodyPost Try.prog f R .ret a w :=
 blk_ret h (by kernel_rfl) (by kernel_rfl) hp ha hB hR
section
variable (w : World) (x y : Int)
abbrev gridW : World := (w.alloc (.cells #[.int .i64 x, .int .i64 y] 62)).alloc (.cells #[.slice none 0 0, .bool false, .slice none 0 0, .bool false, .slice none 0 0, .bool false, .slice none 0 0, .bool false] 32)
theorem gridW_1 : BlkC 62 (gridW w x y) w.heap.size [.int .i64 x, .int .i64 y] := (BlkC.new _ w [.int .i64 x, .int .i64 y]).still (grown_alloc _ _ none)
theorem gridW_2 : BlkC 32 (gridW w x y) (w.heap.size + 1) [.slice none 0 0, .bool false, .slice none 0 0, .bool false, .slice none 0 0, .bool false, .slice none 0 0, .bool false] := blk_at (cs := [.slice none 0 0, .bool false, .slice none 0 0, .bool false, .slice none 0 0, .bool false, .slice none 0 0, .bool false]) (by simp)
theorem gridW_g : Own w.heap.size w (gridW w x y) := (own_alloc _ _).alloc (by simp) _
end
set_option maxHeartbeats 8000000 in
set_option maxRecDepth 100000 in
theorem planeGrid_any (x y : Int) (w : World) (hx0 : -9223372036854775808 ≤ x) (hx1 : x ≤ 9223372036854775807) (hy0 : -9223372036854775808 ≤ y) (hy1 : y ≤ 9223372036854775807) :
  Calls Try.prog 13 #[.agg #[.int .i64 x, .int .i64 y]] w fun e w' => ∃ r, e = .returned r ∧ PIs w' r (x : Rat) (y : Rat) ∧ Below w.heap.size w w' := by
 have HX := Lib.hid (And.intro hx0 hx1)
 have HY := Lib.hid (And.intro hy0 hy1)
 have HB1 : Hid (BlkC 62 (gridW w x y).drew w.heap.size [.int .i64 x, .int .i64 y]) := gridW_1 w x y
 have HB2 : Hid (BlkC 32 (gridW w x y).drew (w.heap.size + 1) [.slice none 0 0, .bool false, .slice none 0 0, .bool false, .slice none 0 0, .bool false, .slice none 0 0, .bool false]) := gridW_2 w x y
 have HG : Hid (Own w.heap.size w (gridW w x y).drew) := (gridW_g w x y).drew
 clear hx0 hx1 hy0 hy1
 go_enter Try.func13, Try.ntmps13
 go_wp2_with fail
 refine region_mem (s := fun | 0 => .is (.pointer (some ⟨w.heap.size, 0, none⟩)) | 1 => .is ((.int .i64 x)) | 2 => .z (x) | 3 => .q ((x : Rat)) | 4 => .is (.pointer (some ⟨w.heap.size, 1, none⟩)) | 5 => .is ((.int .i64 y)) | 6 => .z (y) | 7 => .q ((y : Rat)) | 8 => .p ((fun W v => PIs W v (x : Rat) (y : Rat))) PIs.keep | 9 => .any | _ => .any) (J := MM w.heap.size w w [(62, w.heap.size, [.int .i64 x, .int .i64 y])] [tgP 2 none 9 (x : Rat) (y : Rat)]) (by kernel_rfl) (by kernel_rfl) rfl (fun f g a w hn h => MM.ext (n := 10) (by simp) hn h) ?_ ?_ ?_
 ·refine ⟨HG.out.b, HG.out.b |> keep_below, HG.out.size, (by intro q hq; simp only [List.mem_cons, List.not_mem_nil, or_false] at hq; rcases hq with rfl; exact HB1.out), ?_, (by intro t u h1 h2 hd; simp only [List.mem_singleton] at h1 h2; subst h1; subst h2; exact absurd rfl hd)⟩
  intro t ht h
  simp only [List.mem_singleton] at ht
  subst ht
  exact ⟨w.heap.size + 1, _, rfl, by omega, HB2.out, ⟨_, _, _, _, _, _, _, _, rfl⟩, by intro q hq; simp only [List.mem_cons, List.not_mem_nil, or_false] at hq; rcases hq with rfl; simp⟩
 ·intro i o f A W hi hJ hf hdep hdn hcl hfr hsz
  rcases i with _ | _ | _ | _ | _ | _ | _ | _ | _ | _ | i
  all_goals (simp at hi)
  all_goals (try subst hi)
  ·have t1 := hfr 1 (by simp)
   refine par_value (v := .pointer (some ⟨w.heap.size, 0, none⟩)) (w' := W) ?_ ⟨Keep.refl _, hJ.same _ _ _ (by simp), rfl⟩
   simp [go_sem, Act.eval, t1]
  ·have t3 : A.tmps.getD 3 undef = .pointer (some ⟨w.heap.size, 0, none⟩) := hdep 0 _ 3 rfl (by kernel_rfl) rfl
   have hb0 : BlkC 62 W w.heap.size [.int .i64 x, .int .i64 y] := hJ.kept (62, w.heap.size, [.int .i64 x, .int .i64 y]) (by simp)
   have x00 : W.cell? ⟨w.heap.size, 0, none⟩ = some (.int .i64 x) := by rw [hb0.cell 0]; rfl
   have x01 : W.cell? ⟨w.heap.size, 1, none⟩ = some (.int .i64 y) := by rw [hb0.cell 1]; rfl
   refine par_value (v := (.int .i64 x)) (w' := W) ?_ ⟨Keep.refl _, hJ.same _ _ _ (by simp), rfl⟩
   simp [go_sem, Act.eval, t3, x00]
  ·have t4 : A.tmps.getD 4 undef = (.int .i64 x) := hdep 1 _ 4 rfl (by kernel_rfl) rfl
   refine par_call (w' := W) (f := 19) (xs := #[Value.int IntKind.i64 x]) (by simp [go_sem, Act.eval, t4]) ?_
   refine (zedOf_any x _ HX.out.1 HX.out.2).mono ?_
   rintro e w1 ⟨r, rfl, hr, hg1⟩
   exact ⟨r, rfl, Gr.keep hg1, hJ.gr hg1.b _ _ _ (by simp), hr⟩
  ·have t5 : ZIs W (A.tmps.getD 5 undef) (x) := hdep 2 _ 5 rfl (by kernel_rfl) rfl
   refine par_call (w' := W) (f := 18) (xs := #[A.tmps.getD 5 undef]) (by simp [go_sem, Act.eval]) ?_
   refine (whole_any x _ _ t5).mono ?_
   rintro e w1 ⟨r, rfl, hr, hg1⟩
   exact ⟨r, rfl, Gr.keep hg1, hJ.gr hg1.b _ _ _ (by simp), hr⟩
  ·have t1 := hfr 1 (by simp)
   refine par_value (v := .pointer (some ⟨w.heap.size, 1, none⟩)) (w' := W) ?_ ⟨Keep.refl _, hJ.same _ _ _ (by simp), rfl⟩
   simp [go_sem, Act.eval, t1]
  ·have t7 : A.tmps.getD 7 undef = .pointer (some ⟨w.heap.size, 1, none⟩) := hdep 4 _ 7 rfl (by kernel_rfl) rfl
   have hb0 : BlkC 62 W w.heap.size [.int .i64 x, .int .i64 y] := hJ.kept (62, w.heap.size, [.int .i64 x, .int .i64 y]) (by simp)
   have x00 : W.cell? ⟨w.heap.size, 0, none⟩ = some (.int .i64 x) := by rw [hb0.cell 0]; rfl
   have x01 : W.cell? ⟨w.heap.size, 1, none⟩ = some (.int .i64 y) := by rw [hb0.cell 1]; rfl
   refine par_value (v := (.int .i64 y)) (w' := W) ?_ ⟨Keep.refl _, hJ.same _ _ _ (by simp), rfl⟩
   simp [go_sem, Act.eval, t7, x01]
  ·have t8 : A.tmps.getD 8 undef = (.int .i64 y) := hdep 5 _ 8 rfl (by kernel_rfl) rfl
   refine par_call (w' := W) (f := 19) (xs := #[Value.int IntKind.i64 y]) (by simp [go_sem, Act.eval, t8]) ?_
   refine (zedOf_any y _ HY.out.1 HY.out.2).mono ?_
   rintro e w1 ⟨r, rfl, hr, hg1⟩
   exact ⟨r, rfl, Gr.keep hg1, hJ.gr hg1.b _ _ _ (by simp), hr⟩
  ·have t9 : ZIs W (A.tmps.getD 9 undef) (y) := hdep 6 _ 9 rfl (by kernel_rfl) rfl
   refine par_call (w' := W) (f := 18) (xs := #[A.tmps.getD 9 undef]) (by simp [go_sem, Act.eval]) ?_
   refine (whole_any y _ _ t9).mono ?_
   rintro e w1 ⟨r, rfl, hr, hg1⟩
   exact ⟨r, rfl, Gr.keep hg1, hJ.gr hg1.b _ _ _ (by simp), hr⟩
  ·have t6 : RIs W (A.tmps.getD 6 undef) ((x : Rat)) := hdep 3 _ 6 rfl (by kernel_rfl) rfl
   have t10 : RIs W (A.tmps.getD 10 undef) ((y : Rat)) := hdep 7 _ 10 rfl (by kernel_rfl) rfl
   obtain ⟨a, n, b, c, m, d, a', n', b', c', m', d', e1, e2, hp⟩ := PIs.of t6 t10
   refine par_value (v := .agg #[.slice a n n, .bool b, .slice c m m, .bool d, .slice a' n' n', .bool b', .slice c' m' m', .bool d']) (w' := W) ?_ ⟨Keep.refl _, hJ.same _ _ _ (by simp), hp⟩
   have e1' : A.tmps[6]?.getD undef = _ := (Array.getD_eq_getD_getElem? ..).symm.trans e1
   have e2' : A.tmps[10]?.getD undef = _ := (Array.getD_eq_getD_getElem? ..).symm.trans e2
   simp [go_sem, Act.eval, e1', e2']
  ·have t11 : (fun W v => PIs W v (x : Rat) (y : Rat)) W (A.tmps.getD 11 undef) := hdep 8 _ 11 rfl (by kernel_rfl) rfl
   obtain ⟨g9, cs9, hp9, hb9, hk9⟩ := hJ.ahead (t0 := tgP 2 none 9 (x : Rat) (y : Rat)) (by simp) (fun j hj => by cases hj) hf
   obtain ⟨y0, y1, y2, y3, y4, y5, y6, y7, rfl⟩ := hk9
   have hv8 := t11
   obtain ⟨a, n, b, c, m, d, a', n', b', c', m', d', e8, _, _⟩ := t11
   rw [e8] at hv8
   obtain ⟨c0, c1, c2, c3, c4, c5, c6, c7⟩ := blk8 hb9
   obtain ⟨f0, f1, f2, f3, f4, f5, f6, f7⟩ := blk8f hb9
   obtain ⟨k1, k2, k3⟩ := set8_all (T := 32) hb9 (by decide) (.slice a n n) (.bool b) (.slice c m m) (.bool d) (.slice a' n' n') (.bool b') (.slice c' m' m') (.bool d')
   refine par_skip ?_ ⟨k2, hJ.put 9 undef (by simp) (fun j hj => by cases hj) rfl hp9 k1 k2 k3 (PIs.keep _ _ _ k2 hv8) (by simp) (by simp), trivial⟩
   simp [go_sem, Act.eval, hp9, e8, c0, c1, c2, c3, c4, c5, c6, c7, f0, f1, f2, f3, f4, f5, f6, f7]
 ·intro vs W hJ hs
  obtain ⟨gA, csA, pA, _, bA, kA, _⟩ := hJ.at' (tgP 2 none 9 (x : Rat) (y : Rat)) (by simp) (fun j hj => by cases hj)
  have eA : gA = (w.heap.size + 1) := ptr_eq (by simpa [putAll, Act.put] using pA)
  subst eA
  have kA' : PIs W (.agg csA.toArray) (x : Rat) (y : Rat) := kA
  obtain ⟨a, n, b, c, m, d, a', n', b', c', m', d', rfl⟩ := p_cs kA'
  have HB9 : Hid (BlkC 32 W ((w.heap.size + 1)) [.slice a n n, .bool b, .slice c m m, .bool d, .slice a' n' n', .bool b', .slice c' m' m', .bool d']) := bA
  have HR9 : Hid (PIs W (.agg #[.slice a n n, .bool b, .slice c m m, .bool d, .slice a' n' n', .bool b', .slice c' m' m', .bool d']) (x : Rat) (y : Rat)) := kA'
  have HL9 : Hid (Below w.heap.size w W) := hJ.b
  clear pA bA kA kA' hJ hs
  simp only [putAll, List.foldl_cons, List.foldl_nil, Act.put, List.setIfInBounds_toArray, List.set_cons_succ, List.set_cons_zero]
  go_wp2_with fail
  exact p_ret rfl rfl rfl HB9.out ⟨_, rfl, HR9.out, HL9.out⟩
end Go.Proofs.Ytnojfiokdhcbjaa
