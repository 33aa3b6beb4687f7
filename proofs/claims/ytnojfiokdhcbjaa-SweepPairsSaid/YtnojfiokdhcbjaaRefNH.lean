/-
  Points by small numbers: the reference's and the program's. (Printed by gen_at.py.)
-/
import Derived.Test.YtnojfiokdhcbjaaRefND
import Derived.Test.YtnojfiokdhcbjaaRefNG
import Derived.Test.YtnojfiokdhcbjaaOpPair
namespace Go.Proofs.Ytnojfiokdhcbjaa
open Go Go.RowKit

/-- A point of the reference in memory. -/
def QIs (w : World) (v : Value) (x y u : Int) : Prop := ∃ (a1 : Option Addr) (c1 : Nat) (a2 : Option Addr) (c2 : Nat) (a3 : Option Addr) (c3 : Nat),
  v = .agg #[.int .i64 (x).sign, .slice a1 (Dec.limbs (x).natAbs).length c1, .int .i64 (y).sign, .slice a2 (Dec.limbs (y).natAbs).length c2, .int .i64 (u).sign, .slice a3 (Dec.limbs (u).natAbs).length c3] ∧ JIs w (.agg #[.int .i64 (x).sign, .slice a1 (Dec.limbs (x).natAbs).length c1]) x ∧ JIs w (.agg #[.int .i64 (y).sign, .slice a2 (Dec.limbs (y).natAbs).length c2]) y ∧ JIs w (.agg #[.int .i64 (u).sign, .slice a3 (Dec.limbs (u).natAbs).length c3]) u
theorem kkq {x y u : Int} (w w' : World) (v : Value) (k : KK w w') : QIs w v x y u → QIs w' v x y u := by
  rintro ⟨a1, c1, a2, c2, a3, c3, rfl, h1, h2, h3⟩
  exact ⟨a1, c1, a2, c2, a3, c3, rfl, h1.keep k.2, h2.keep k.2, h3.keep k.2⟩
theorem QIs.of {w : World} {v1 v2 v3 : Value} {x y u : Int} (h1 : JIs w v1 x) (h2 : JIs w v2 y) (h3 : JIs w v3 u) : ∃ (a1 : Option Addr) (c1 : Nat) (a2 : Option Addr) (c2 : Nat) (a3 : Option Addr) (c3 : Nat),
    v1 = .agg #[.int .i64 (x).sign, .slice a1 (Dec.limbs (x).natAbs).length c1] ∧ v2 = .agg #[.int .i64 (y).sign, .slice a2 (Dec.limbs (y).natAbs).length c2] ∧ v3 = .agg #[.int .i64 (u).sign, .slice a3 (Dec.limbs (u).natAbs).length c3] ∧ QIs w (.agg #[.int .i64 (x).sign, .slice a1 (Dec.limbs (x).natAbs).length c1, .int .i64 (y).sign, .slice a2 (Dec.limbs (y).natAbs).length c2, .int .i64 (u).sign, .slice a3 (Dec.limbs (u).natAbs).length c3]) x y u := by
  have k1 := h1
  have k2 := h2
  have k3 := h3
  obtain ⟨a1, c1, rfl, _⟩ := h1
  obtain ⟨a2, c2, rfl, _⟩ := h2
  obtain ⟨a3, c3, rfl, _⟩ := h3
  exact ⟨a1, c1, a2, c2, a3, c3, rfl, rfl, rfl, a1, c1, a2, c2, a3, c3, rfl, k1, k2, k3⟩
theorem q_ret {T : TypeId} {R : Ending → World → Prop} {a : Act} {w : World} {g : Nat} {x0 x1 x2 x3 x4 x5 : Value} {f : Func} {t : Tmp} (h : f.results = #[.cell t 53])
    (hp : a.tmps.getD t undef = .pointer (some ⟨g, 0, none⟩)) (ha : a.defers = []) (hB : BlkC T w g [x0, x1, x2, x3, x4, x5]) (hR : R (.returned (.agg #[x0, x1, x2, x3, x4, x5])) w) : bodyPost Try.prog f R .ret a w :=
  blk_ret h (by kernel_rfl) (by kernel_rfl) hp ha hB hR
theorem q_cs {w : World} {cs : List Value} {x y u : Int} (h : QIs w (.agg cs.toArray) x y u) : ∃ (a1 : Option Addr) (c1 : Nat) (a2 : Option Addr) (c2 : Nat) (a3 : Option Addr) (c3 : Nat), cs = [.int .i64 (x).sign, .slice a1 (Dec.limbs (x).natAbs).length c1, .int .i64 (y).sign, .slice a2 (Dec.limbs (y).natAbs).length c2, .int .i64 (u).sign, .slice a3 (Dec.limbs (u).natAbs).length c3] := by
  obtain ⟨a1, c1, a2, c2, a3, c3, e, _⟩ := h
  simp only [Value.agg.injEq] at e
  exact ⟨a1, c1, a2, c2, a3, c3, congrArg Array.toList e⟩
section
variable (w : World) (x y d : Int)
abbrev at2W : World := (w.alloc (.cells #[.int .i64 x, .int .i64 y, .int .i64 d] 84)).alloc (.cells #[.int .i64 0, .slice none 0 0, .int .i64 0, .slice none 0 0, .int .i64 0, .slice none 0 0] 53)
theorem at2W_1 : BlkC 84 (at2W w x y d) w.heap.size [.int .i64 x, .int .i64 y, .int .i64 d] := (BlkC.new _ w [.int .i64 x, .int .i64 y, .int .i64 d]).still (grown_alloc _ _ none)
theorem at2W_2 : BlkC 53 (at2W w x y d) (w.heap.size + 1) [.int .i64 0, .slice none 0 0, .int .i64 0, .slice none 0 0, .int .i64 0, .slice none 0 0] := blk_at (cs := [.int .i64 0, .slice none 0 0, .int .i64 0, .slice none 0 0, .int .i64 0, .slice none 0 0]) (by simp)
theorem at2W_g : Own w.heap.size w (at2W w x y d) := (own_alloc _ _).alloc (by simp) _
abbrev at1W : World := (w.alloc (.cells #[.int .i64 x, .int .i64 y, .int .i64 d] 84)).alloc (.cells #[.slice none 0 0, .bool false, .slice none 0 0, .bool false, .slice none 0 0, .bool false, .slice none 0 0, .bool false] 32)
theorem at1W_1 : BlkC 84 (at1W w x y d) w.heap.size [.int .i64 x, .int .i64 y, .int .i64 d] := (BlkC.new _ w [.int .i64 x, .int .i64 y, .int .i64 d]).still (grown_alloc _ _ none)
theorem at1W_2 : BlkC 32 (at1W w x y d) (w.heap.size + 1) [.slice none 0 0, .bool false, .slice none 0 0, .bool false, .slice none 0 0, .bool false, .slice none 0 0, .bool false] := blk_at (cs := [.slice none 0 0, .bool false, .slice none 0 0, .bool false, .slice none 0 0, .bool false, .slice none 0 0, .bool false]) (by simp)
theorem at1W_g : Own w.heap.size w (at1W w x y d) := (own_alloc _ _).alloc (by simp) _
end

set_option maxHeartbeats 8000000 in
set_option maxRecDepth 100000 in
theorem rAt_any (x y d : Int) (w : World) (hx : Rng64 x) (hy : Rng64 y) :
    Calls Try.prog 27 #[.agg #[.int .i64 x, .int .i64 y, .int .i64 d]] w fun e w' => ∃ r, e = .returned r ∧ QIs w' r x y ((und d : Nat) : Int) ∧ Below w.heap.size w w' := by
  have HX := Lib.hid hx
  have HY := Lib.hid hy
  have hup := und_pos d
  have HU : Hid (Rng64 ((und d : Nat) : Int)) := Lib.hid ⟨by omega, by omega⟩
  have HB1 : Hid (BlkC 84 (at2W w x y d).drew w.heap.size [.int .i64 x, .int .i64 y, .int .i64 d]) := at2W_1 w x y d
  have HB2 : Hid (BlkC 53 (at2W w x y d).drew (w.heap.size + 1) [.int .i64 0, .slice none 0 0, .int .i64 0, .slice none 0 0, .int .i64 0, .slice none 0 0]) := at2W_2 w x y d
  have HG : Hid (Own w.heap.size w (at2W w x y d).drew) := (at2W_g w x y d).drew
  clear hx hy hup
  go_enter Try.func27, Try.ntmps27
  go_wp2_with fail
  refine region_kk (by kernel_rfl) (by kernel_rfl) rfl (KK) (fun | 0 => .is (.pointer (some ⟨w.heap.size, 0, none⟩)) | 1 => .is ((.int .i64 x)) | 2 => .p ((fun W v => JIs W v x)) kkj | 3 => .is (.pointer (some ⟨w.heap.size, 1, none⟩)) | 4 => .is ((.int .i64 y)) | 5 => .p ((fun W v => JIs W v y)) kkj | 6 => .is (.agg #[.int .i64 x, .int .i64 y, .int .i64 d]) | 7 => .is (.int .i64 ((und d : Nat) : Int)) | 8 => .p ((fun W v => JIs W v ((und d : Nat) : Int))) kkj | 9 => .p ((fun W v => QIs W v x y ((und d : Nat) : Int))) kkq | 10 => .any | _ => .any) (MK w.heap.size w w [(84, w.heap.size, [.int .i64 x, .int .i64 y, .int .i64 d])] [tgK 2 none 10 53 6 (fun W v => QIs W v x y ((und d : Nat) : Int)) kkq]) (fun f g a w hn h => MK.ext (n := 11) (by simp) hn h) ?_ ?_ ?_
  · refine ⟨HG.out.b, kk_below HG.out.b, HG.out.size, (by intro q hq; simp only [List.mem_cons, List.not_mem_nil, or_false] at hq; rcases hq with rfl; exact HB1.out), ?_, (by intro t u h1 h2 hd; simp only [List.mem_singleton] at h1 h2; subst h1; subst h2; exact absurd rfl hd)⟩
    intro t ht h
    simp only [List.mem_singleton] at ht
    subst ht
    exact ⟨w.heap.size + 1, _, rfl, by omega, HB2.out, rfl, by intro q hq; simp only [List.mem_cons, List.not_mem_nil, or_false] at hq; rcases hq with rfl; simp⟩
  · intro i o f A W hi hJ hf hdep hdn hcl hfr hsz
    rcases i with _ | _ | _ | _ | _ | _ | _ | _ | _ | _ | _ | i
    all_goals (simp at hi)
    all_goals (try subst hi)
    · have t1 := hfr 1 (by simp)
      refine par_value (v := .pointer (some ⟨w.heap.size, 0, none⟩)) (w' := W) ?_ ⟨KK.refl _, hJ.same _ _ _ (by simp), rfl⟩
      simp [go_sem, Act.eval, t1]
    · have t3 : A.tmps.getD 3 undef = .pointer (some ⟨w.heap.size, 0, none⟩) := hdep 0 _ 3 rfl (by kernel_rfl) rfl
      have hb0 : BlkC 84 W w.heap.size [.int .i64 x, .int .i64 y, .int .i64 d] := hJ.kept (84, w.heap.size, [.int .i64 x, .int .i64 y, .int .i64 d]) (by simp)
      have x00 : W.cell? ⟨w.heap.size, 0, none⟩ = some (.int .i64 x) := by rw [hb0.cell 0]; rfl
      have x01 : W.cell? ⟨w.heap.size, 1, none⟩ = some (.int .i64 y) := by rw [hb0.cell 1]; rfl
      have x02 : W.cell? ⟨w.heap.size, 2, none⟩ = some (.int .i64 d) := by rw [hb0.cell 2]; rfl
      refine par_value (v := (.int .i64 x)) (w' := W) ?_ ⟨KK.refl _, hJ.same _ _ _ (by simp), rfl⟩
      simp [go_sem, Act.eval, t3, x00]
    · have t4 : A.tmps.getD 4 undef = (.int .i64 x) := hdep 1 _ 4 rfl (by kernel_rfl) rfl
      refine par_call (w' := W) (f := 47) (xs := #[Value.int IntKind.i64 x]) (by simp [go_sem, Act.eval, t4]) ?_
      refine (jOf_any x _ HX.out.1 HX.out.2).mono ?_
      rintro e w1 ⟨r, rfl, hr, hg1⟩
      exact ⟨r, rfl, kk_below hg1, hJ.gr hg1 _ _ _ (by simp), hr⟩
    · have t1 := hfr 1 (by simp)
      refine par_value (v := .pointer (some ⟨w.heap.size, 1, none⟩)) (w' := W) ?_ ⟨KK.refl _, hJ.same _ _ _ (by simp), rfl⟩
      simp [go_sem, Act.eval, t1]
    · have t6 : A.tmps.getD 6 undef = .pointer (some ⟨w.heap.size, 1, none⟩) := hdep 3 _ 6 rfl (by kernel_rfl) rfl
      have hb0 : BlkC 84 W w.heap.size [.int .i64 x, .int .i64 y, .int .i64 d] := hJ.kept (84, w.heap.size, [.int .i64 x, .int .i64 y, .int .i64 d]) (by simp)
      have x00 : W.cell? ⟨w.heap.size, 0, none⟩ = some (.int .i64 x) := by rw [hb0.cell 0]; rfl
      have x01 : W.cell? ⟨w.heap.size, 1, none⟩ = some (.int .i64 y) := by rw [hb0.cell 1]; rfl
      have x02 : W.cell? ⟨w.heap.size, 2, none⟩ = some (.int .i64 d) := by rw [hb0.cell 2]; rfl
      refine par_value (v := (.int .i64 y)) (w' := W) ?_ ⟨KK.refl _, hJ.same _ _ _ (by simp), rfl⟩
      simp [go_sem, Act.eval, t6, x01]
    · have t7 : A.tmps.getD 7 undef = (.int .i64 y) := hdep 4 _ 7 rfl (by kernel_rfl) rfl
      refine par_call (w' := W) (f := 47) (xs := #[Value.int IntKind.i64 y]) (by simp [go_sem, Act.eval, t7]) ?_
      refine (jOf_any y _ HY.out.1 HY.out.2).mono ?_
      rintro e w1 ⟨r, rfl, hr, hg1⟩
      exact ⟨r, rfl, kk_below hg1, hJ.gr hg1 _ _ _ (by simp), hr⟩
    · have t1 := hfr 1 (by simp)
      have hb0 : BlkC 84 W w.heap.size [.int .i64 x, .int .i64 y, .int .i64 d] := hJ.kept (84, w.heap.size, [.int .i64 x, .int .i64 y, .int .i64 d]) (by simp)
      have x00 : W.cell? ⟨w.heap.size, 0, none⟩ = some (.int .i64 x) := by rw [hb0.cell 0]; rfl
      have x01 : W.cell? ⟨w.heap.size, 1, none⟩ = some (.int .i64 y) := by rw [hb0.cell 1]; rfl
      have x02 : W.cell? ⟨w.heap.size, 2, none⟩ = some (.int .i64 d) := by rw [hb0.cell 2]; rfl
      refine par_value (v := .agg #[.int .i64 x, .int .i64 y, .int .i64 d]) (w' := W) ?_ ⟨KK.refl _, hJ.same _ _ _ (by simp), rfl⟩
      simp [go_sem, Act.eval, t1, x00, x01, x02]
    · have t9 : A.tmps.getD 9 undef = .agg #[.int .i64 x, .int .i64 y, .int .i64 d] := hdep 6 _ 9 rfl (by kernel_rfl) rfl
      refine par_call (w' := W) (f := 46) (xs := #[Value.agg #[.int .i64 x, .int .i64 y, .int .i64 d]]) (by simp [go_sem, Act.eval, t9]) ?_
      refine (under_any x y d _).mono ?_
      rintro e w1 ⟨rfl, hg1⟩
      exact ⟨_, rfl, kk_below hg1, hJ.gr hg1 _ _ _ (by simp), rfl⟩
    · have t10 : A.tmps.getD 10 undef = .int .i64 ((und d : Nat) : Int) := hdep 7 _ 10 rfl (by kernel_rfl) rfl
      refine par_call (w' := W) (f := 47) (xs := #[Value.int IntKind.i64 ((und d : Nat) : Int)]) (by simp [go_sem, Act.eval, t10]) ?_
      refine (jOf_any ((und d : Nat) : Int) _ HU.out.1 HU.out.2).mono ?_
      rintro e w1 ⟨r, rfl, hr, hg1⟩
      exact ⟨r, rfl, kk_below hg1, hJ.gr hg1 _ _ _ (by simp), hr⟩
    · have t5 : (fun W v => JIs W v x) W (A.tmps.getD 5 undef) := hdep 2 _ 5 rfl (by kernel_rfl) rfl
      have t8 : (fun W v => JIs W v y) W (A.tmps.getD 8 undef) := hdep 5 _ 8 rfl (by kernel_rfl) rfl
      have t11 : (fun W v => JIs W v ((und d : Nat) : Int)) W (A.tmps.getD 11 undef) := hdep 8 _ 11 rfl (by kernel_rfl) rfl
      obtain ⟨a1, c1, a2, c2, a3, c3, e1, e2, e3, hp⟩ := QIs.of t5 t8 t11
      refine par_value (v := .agg #[.int .i64 (x).sign, .slice a1 (Dec.limbs (x).natAbs).length c1, .int .i64 (y).sign, .slice a2 (Dec.limbs (y).natAbs).length c2, .int .i64 ((und d : Nat) : Int).sign, .slice a3 (Dec.limbs ((und d : Nat) : Int).natAbs).length c3]) (w' := W) ?_ ⟨KK.refl _, hJ.same _ _ _ (by simp), hp⟩
      have e1' : A.tmps[5]?.getD undef = _ := (Array.getD_eq_getD_getElem? ..).symm.trans e1
      have e2' : A.tmps[8]?.getD undef = _ := (Array.getD_eq_getD_getElem? ..).symm.trans e2
      have e3' : A.tmps[11]?.getD undef = _ := (Array.getD_eq_getD_getElem? ..).symm.trans e3
      simp [go_sem, Act.eval, e1', e2', e3']
    · have t12 : (fun W v => QIs W v x y ((und d : Nat) : Int)) W (A.tmps.getD 12 undef) := hdep 9 _ 12 rfl (by kernel_rfl) rfl
      obtain ⟨g9, cs9, hp9, hb9, hk9⟩ := hJ.ahead (t0 := tgK 2 none 10 53 6 (fun W v => QIs W v x y ((und d : Nat) : Int)) kkq) (by simp) (fun j hj => by cases hj) hf
      obtain ⟨y0, y1, y2, y3, y4, y5, rfl⟩ := len6 hk9
      have hv8 := t12
      obtain ⟨a1, c1, a2, c2, a3, c3, e8, _⟩ := t12
      rw [e8] at hv8
      have hst : StK 53 W g9 _ [.int .i64 (x).sign, .slice a1 (Dec.limbs (x).natAbs).length c1, .int .i64 (y).sign, .slice a2 (Dec.limbs (y).natAbs).length c2, .int .i64 ((und d : Nat) : Int).sign, .slice a3 (Dec.limbs ((und d : Nat) : Int).natAbs).length c3] := (((((StK.one (T := 53) hb9 ⟨by decide, by decide⟩ 0 (.int .i64 (x).sign)).more ⟨by decide, by decide⟩ 1 (.slice a1 (Dec.limbs (x).natAbs).length c1)).more ⟨by decide, by decide⟩ 2 (.int .i64 (y).sign)).more ⟨by decide, by decide⟩ 3 (.slice a2 (Dec.limbs (y).natAbs).length c2)).more ⟨by decide, by decide⟩ 4 (.int .i64 ((und d : Nat) : Int).sign)).more ⟨by decide, by decide⟩ 5 (.slice a3 (Dec.limbs ((und d : Nat) : Int).natAbs).length c3)
      have hcell := hb9.cell
      have hfree := hb9.free
      refine par_skip ?_ ⟨hst.kk, hJ.put 10 undef (by simp) (fun j hj => by cases hj) rfl hp9 hst.gr hst.kk hst.bb (kkq _ _ _ hst.kk hv8) (by simp) (by simp), trivial⟩
      simp [go_sem, Act.eval, hp9, e8, hcell, hfree]
  · intro vs W hJ hs
    obtain ⟨gA, csA, pA, _, bA, kA, _⟩ := hJ.at' (tgK 2 none 10 53 6 (fun W v => QIs W v x y ((und d : Nat) : Int)) kkq) (by simp) (fun j hj => by cases hj)
    have eA : gA = (w.heap.size + 1) := ptr_eq (by simpa [putAll, Act.put] using pA)
    subst eA
    have kA' : QIs W (.agg csA.toArray) x y ((und d : Nat) : Int) := kA
    obtain ⟨a1, c1, a2, c2, a3, c3, rfl⟩ := q_cs kA'
    have HB9 : Hid (BlkC 53 W (w.heap.size + 1) _) := bA
    have HR9 : Hid (QIs W (.agg _) x y ((und d : Nat) : Int)) := kA'
    have HL9 : Hid (Below w.heap.size w W) := hJ.b
    clear pA bA kA kA' hJ hs
    simp only [putAll, List.foldl_cons, List.foldl_nil, Act.put, List.setIfInBounds_toArray, List.set_cons_succ, List.set_cons_zero]
    go_wp2_with fail
    exact q_ret rfl rfl rfl HB9.out ⟨_, rfl, HR9.out, HL9.out⟩

theorem kkt {q : Rat} (w w' : World) (v : Value) (k : KK w w') : (∃ r, v = .tuple #[r, .int .i64 0] ∧ RIs w r q) → ∃ r, v = .tuple #[r, .int .i64 0] ∧ RIs w' r q := by
  rintro ⟨r, rfl, h⟩
  exact ⟨r, rfl, h.keep k.1⟩
theorem r_cs {w : World} {cs : List Value} {q : Rat} (h : RIs w (.agg cs.toArray) q) : ∃ (a : Option Addr) (n : Nat) (b : Bool) (c : Option Addr) (m : Nat) (d : Bool), cs = [.slice a n n, .bool b, .slice c m m, .bool d] := by
  obtain ⟨a, n, b, c, m, d, e⟩ := h.parts
  simp only [Value.agg.injEq] at e
  exact ⟨a, n, b, c, m, d, congrArg Array.toList e⟩

set_option maxHeartbeats 8000000 in
set_option maxRecDepth 100000 in
theorem pAt_any (x y d : Int) (w : World) (hx : Rng64 x) (hy : Rng64 y) :
    Calls Try.prog 26 #[.agg #[.int .i64 x, .int .i64 y, .int .i64 d]] w fun e w' => ∃ r, e = .returned r ∧ PIs w' r (Rat.divInt x ((und d : Nat) : Int)) (Rat.divInt y ((und d : Nat) : Int)) ∧ Below w.heap.size w w' := by
  have HX := Lib.hid hx
  have HY := Lib.hid hy
  have hup := und_pos d
  have HU : Hid (Rng64 ((und d : Nat) : Int)) := Lib.hid ⟨by omega, by omega⟩
  have HUN : Hid (((und d : Nat) : Int) ≠ 0) := Lib.hid (by omega)
  have HB1 : Hid (BlkC 84 (at1W w x y d).drew w.heap.size [.int .i64 x, .int .i64 y, .int .i64 d]) := at1W_1 w x y d
  have HB2 : Hid (BlkC 32 (at1W w x y d).drew (w.heap.size + 1) [.slice none 0 0, .bool false, .slice none 0 0, .bool false, .slice none 0 0, .bool false, .slice none 0 0, .bool false]) := at1W_2 w x y d
  have HG : Hid (Own w.heap.size w (at1W w x y d).drew) := (at1W_g w x y d).drew
  clear hx hy hup
  go_enter Try.func26, Try.ntmps26
  go_wp2_with fail
  refine region_kk (by kernel_rfl) (by kernel_rfl) rfl (KK) (fun | 0 => .is (.pointer (some ⟨w.heap.size, 0, none⟩)) | 1 => .is ((.int .i64 x)) | 2 => .is (.agg #[.int .i64 x, .int .i64 y, .int .i64 d]) | 3 => .is (.int .i64 ((und d : Nat) : Int)) | 4 => .p ((fun W v => ∃ r, v = .tuple #[r, .int .i64 0] ∧ RIs W r (Rat.divInt x ((und d : Nat) : Int)))) kkt | 5 => .p ((fun W v => ∃ r, v = .tuple #[r, .int .i64 0] ∧ RIs W r (Rat.divInt x ((und d : Nat) : Int)))) kkt | 6 => .p ((fun W v => RIs W v (Rat.divInt x ((und d : Nat) : Int)))) kkr | 7 => .is (.int .i64 0) | 8 => .any | 9 => .any | 10 => .is (.int .i64 0) | _ => .any) (MK w.heap.size w w [(84, w.heap.size, [.int .i64 x, .int .i64 y, .int .i64 d]), (32, w.heap.size + 1, [.slice none 0 0, .bool false, .slice none 0 0, .bool false, .slice none 0 0, .bool false, .slice none 0 0, .bool false])] [tgK 3 (some 8) 9 30 4 (fun W v => RIs W v (Rat.divInt x ((und d : Nat) : Int))) kkr]) (fun f g a w hn h => MK.ext (n := 11) (by simp) hn h) ?_ ?_ ?_
  · refine ⟨HG.out.b, kk_below HG.out.b, HG.out.size, (by intro q hq; simp only [List.mem_cons, List.not_mem_nil, or_false] at hq; rcases hq with rfl | rfl; exact HB1.out; exact HB2.out), ?_, (by intro t u h1 h2 hd; simp only [List.mem_singleton] at h1 h2; subst h1; subst h2; exact absurd rfl hd)⟩
    intro t ht h
    simp only [List.mem_singleton] at ht
    subst ht
    exact absurd (h 8 rfl) (by simp)
  · intro i o f A W hi hJ hf hdep hdn hcl hfr hsz
    rcases i with _ | _ | _ | _ | _ | _ | _ | _ | _ | _ | _ | i
    all_goals (simp at hi)
    all_goals (try subst hi)
    · have t1 := hfr 1 (by simp)
      refine par_value (v := .pointer (some ⟨w.heap.size, 0, none⟩)) (w' := W) ?_ ⟨KK.refl _, hJ.same _ _ _ (by simp), rfl⟩
      simp [go_sem, Act.eval, t1]
    · have t8 : A.tmps.getD 8 undef = .pointer (some ⟨w.heap.size, 0, none⟩) := hdep 0 _ 8 rfl (by kernel_rfl) rfl
      have hb0 : BlkC 84 W w.heap.size [.int .i64 x, .int .i64 y, .int .i64 d] := hJ.kept (84, w.heap.size, [.int .i64 x, .int .i64 y, .int .i64 d]) (by simp)
      have x00 : W.cell? ⟨w.heap.size, 0, none⟩ = some (.int .i64 x) := by rw [hb0.cell 0]; rfl
      have x01 : W.cell? ⟨w.heap.size, 1, none⟩ = some (.int .i64 y) := by rw [hb0.cell 1]; rfl
      have x02 : W.cell? ⟨w.heap.size, 2, none⟩ = some (.int .i64 d) := by rw [hb0.cell 2]; rfl
      refine par_value (v := (.int .i64 x)) (w' := W) ?_ ⟨KK.refl _, hJ.same _ _ _ (by simp), rfl⟩
      simp [go_sem, Act.eval, t8, x00]
    · have t1 := hfr 1 (by simp)
      have hb0 : BlkC 84 W w.heap.size [.int .i64 x, .int .i64 y, .int .i64 d] := hJ.kept (84, w.heap.size, [.int .i64 x, .int .i64 y, .int .i64 d]) (by simp)
      have x00 : W.cell? ⟨w.heap.size, 0, none⟩ = some (.int .i64 x) := by rw [hb0.cell 0]; rfl
      have x01 : W.cell? ⟨w.heap.size, 1, none⟩ = some (.int .i64 y) := by rw [hb0.cell 1]; rfl
      have x02 : W.cell? ⟨w.heap.size, 2, none⟩ = some (.int .i64 d) := by rw [hb0.cell 2]; rfl
      refine par_value (v := .agg #[.int .i64 x, .int .i64 y, .int .i64 d]) (w' := W) ?_ ⟨KK.refl _, hJ.same _ _ _ (by simp), rfl⟩
      simp [go_sem, Act.eval, t1, x00, x01, x02]
    · have t10 : A.tmps.getD 10 undef = .agg #[.int .i64 x, .int .i64 y, .int .i64 d] := hdep 2 _ 10 rfl (by kernel_rfl) rfl
      refine par_call (w' := W) (f := 46) (xs := #[Value.agg #[.int .i64 x, .int .i64 y, .int .i64 d]]) (by simp [go_sem, Act.eval, t10]) ?_
      refine (under_any x y d _).mono ?_
      rintro e w1 ⟨rfl, hg1⟩
      exact ⟨_, rfl, kk_below hg1, hJ.gr hg1 _ _ _ (by simp), rfl⟩
    · have t9 : A.tmps.getD 9 undef = (.int .i64 x) := hdep 1 _ 9 rfl (by kernel_rfl) rfl
      have t11 : A.tmps.getD 11 undef = .int .i64 ((und d : Nat) : Int) := hdep 3 _ 11 rfl (by kernel_rfl) rfl
      refine par_call (w' := W) (f := 45) (xs := #[Value.int IntKind.i64 x, Value.int IntKind.i64 ((und d : Nat) : Int)]) (by simp [go_sem, Act.eval, t9, t11]) ?_
      refine (of_any x ((und d : Nat) : Int) _ HX.out.1 HX.out.2 HU.out.1 HU.out.2 HUN.out).mono ?_
      rintro e w1 ⟨r, rfl, hr, hg1⟩
      exact ⟨_, rfl, kk_below hg1, hJ.gr hg1 _ _ _ (by simp), ⟨r, rfl, hr⟩⟩
    · have t12 : (fun W v => ∃ r, v = .tuple #[r, .int .i64 0] ∧ RIs W r (Rat.divInt x ((und d : Nat) : Int))) W (A.tmps.getD 12 undef) := hdep 4 _ 12 rfl (by kernel_rfl) rfl
      refine par_value (v := A.tmps.getD 12 undef) (w' := W) ?_ ⟨KK.refl _, hJ.same _ _ _ (by simp), t12⟩
      simp [go_sem, Act.eval]
    · have t7 : (fun W v => ∃ r, v = .tuple #[r, .int .i64 0] ∧ RIs W r (Rat.divInt x ((und d : Nat) : Int))) W (A.tmps.getD 7 undef) := hdep 5 _ 7 rfl (by kernel_rfl) rfl
      obtain ⟨r0, e0, h0⟩ := t7
      refine par_value (v := r0) (w' := W) ?_ ⟨KK.refl _, hJ.same _ _ _ (by simp), h0⟩
      simp [go_sem, Act.eval, e0]
    · have t7 : (fun W v => ∃ r, v = .tuple #[r, .int .i64 0] ∧ RIs W r (Rat.divInt x ((und d : Nat) : Int))) W (A.tmps.getD 7 undef) := hdep 5 _ 7 rfl (by kernel_rfl) rfl
      obtain ⟨r0, e0, h0⟩ := t7
      refine par_value (v := .int .i64 0) (w' := W) ?_ ⟨KK.refl _, hJ.same _ _ _ (by simp), rfl⟩
      simp [go_sem, Act.eval, e0]
    · have hst : f 9 = false := by
        cases h : f 9 with
        | false => rfl
        | true => rw [hcl 9 _ 8 rfl h (by kernel_rfl)] at hf; cases hf
      refine par_value (v := .pointer (some ⟨W.heap.size, 0, none⟩)) (w' := W.alloc (.cells #[.slice none 0 0, .bool false, .slice none 0 0, .bool false] 30)) ?_ ⟨kk_alloc _ _, hJ.new (t0 := tgK 3 (some 8) 9 30 4 (fun W v => RIs W v (Rat.divInt x ((und d : Nat) : Int))) kkr) (cs := [.slice none 0 0, .bool false, .slice none 0 0, .bool false]) 8 (by simp) rfl (by rw [hsz]; simp) hst (by simp) (by simp) rfl, trivial⟩
      simp [go_sem]
    · have t13 : (fun W v => RIs W v (Rat.divInt x ((und d : Nat) : Int))) W (A.tmps.getD 13 undef) := hdep 6 _ 13 rfl (by kernel_rfl) rfl
      obtain ⟨g9, cs9, hp9, hb9, hk9⟩ := hJ.ahead (t0 := tgK 3 (some 8) 9 30 4 (fun W v => RIs W v (Rat.divInt x ((und d : Nat) : Int))) kkr) (by simp) (fun j hj => by cases hj; exact hdn 8 (by kernel_rfl)) hf
      obtain ⟨y0, y1, y2, y3, rfl⟩ := len4 hk9
      obtain ⟨a8, n8, b8, a7, n7, b7, e8⟩ := t13.parts
      have hv8 := t13
      rw [e8] at hv8
      have hst : StK 30 W g9 _ [.slice a8 n8 n8, .bool b8, .slice a7 n7 n7, .bool b7] := (((StK.one (T := 30) hb9 ⟨by decide, by decide⟩ 0 (.slice a8 n8 n8)).more ⟨by decide, by decide⟩ 1 (.bool b8)).more ⟨by decide, by decide⟩ 2 (.slice a7 n7 n7)).more ⟨by decide, by decide⟩ 3 (.bool b7)
      have hcell := hb9.cell
      have hfree := hb9.free
      refine par_skip ?_ ⟨hst.kk, hJ.put 9 undef (by simp) (fun j hj => by cases hj; exact hdn 8 (by kernel_rfl)) rfl hp9 hst.gr hst.kk hst.bb (kkr _ _ _ hst.kk hv8) (by simp) (by simp), trivial⟩
      simp [go_sem, Act.eval, hp9, e8, hcell, hfree]
    · have t14 : A.tmps.getD 14 undef = .int .i64 0 := hdep 7 _ 14 rfl (by kernel_rfl) rfl
      refine par_value (v := .int .i64 0) (w' := W) ?_ ⟨KK.refl _, hJ.same _ _ _ (by simp), rfl⟩
      simp [go_sem, Act.eval, t14]
  · intro vs W hJ hs
    obtain ⟨gX, csA, pA, lA, bA, kA, kn⟩ := hJ.at' (tgK 3 (some 8) 9 30 4 (fun W v => RIs W v (Rat.divInt x ((und d : Nat) : Int))) kkr) (by simp) (fun j hj => by cases hj; rfl)
    have kA' : RIs W (.agg csA.toArray) (Rat.divInt x ((und d : Nat) : Int)) := kA
    obtain ⟨aX, nX, bX, cX, mX, dX, rfl⟩ := r_cs kA'
    have HB3 : Hid (BlkC 84 W.drew w.heap.size [.int .i64 x, .int .i64 y, .int .i64 d]) := hJ.kept (84, w.heap.size, [.int .i64 x, .int .i64 y, .int .i64 d]) (by simp)
    have HB4 : Hid (BlkC 32 W.drew (w.heap.size + 1) [.slice none 0 0, .bool false, .slice none 0 0, .bool false, .slice none 0 0, .bool false, .slice none 0 0, .bool false]) := hJ.kept (32, w.heap.size + 1, [.slice none 0 0, .bool false, .slice none 0 0, .bool false, .slice none 0 0, .bool false, .slice none 0 0, .bool false]) (by simp)
    have HB5 : Hid (BlkC 30 W.drew gX [.slice aX nX nX, .bool bX, .slice cX mX mX, .bool dX]) := bA
    have HRX : Hid (RIs W (.agg #[.slice aX nX nX, .bool bX, .slice cX mX mX, .bool dX]) (Rat.divInt x ((und d : Nat) : Int))) := kA'
    have HG1 : Hid (Below w.heap.size w W) := hJ.b
    have hp3 : vs 3 = .pointer (some ⟨gX, 0, none⟩) := by simpa [putAll, Act.put] using pA
    have hp4 : vs 4 = .int .i64 0 := hs 10 _ _ rfl rfl
    clear pA bA kA kA' hJ hs kn lA
    simp only [putAll, List.foldl_cons, List.foldl_nil, Act.put, List.setIfInBounds_toArray, List.set_cons_succ, List.set_cons_zero]
    rw [hp3]
    generalize hW0 : W = W0 at *
    clear hW0 HB1 HB2 HG
    go_wp2_with fail
    refine region_kk (by kernel_rfl) (by kernel_rfl) rfl (KK) (fun | 0 => .is (.pointer (some ⟨w.heap.size, 1, none⟩)) | 1 => .is ((.int .i64 y)) | 2 => .is (.agg #[.int .i64 x, .int .i64 y, .int .i64 d]) | 3 => .is (.int .i64 ((und d : Nat) : Int)) | 4 => .p ((fun W v => ∃ r, v = .tuple #[r, .int .i64 0] ∧ RIs W r (Rat.divInt y ((und d : Nat) : Int)))) kkt | 5 => .p ((fun W v => ∃ r, v = .tuple #[r, .int .i64 0] ∧ RIs W r (Rat.divInt y ((und d : Nat) : Int)))) kkt | 6 => .p ((fun W v => RIs W v (Rat.divInt y ((und d : Nat) : Int)))) kkr | 7 => .is (.int .i64 0) | 8 => .any | 9 => .any | 10 => .is (.int .i64 0) | _ => .any) (MK w.heap.size w W0 [(84, w.heap.size, [.int .i64 x, .int .i64 y, .int .i64 d]), (32, w.heap.size + 1, [.slice none 0 0, .bool false, .slice none 0 0, .bool false, .slice none 0 0, .bool false, .slice none 0 0, .bool false]), (30, gX, [.slice aX nX nX, .bool bX, .slice cX mX mX, .bool dX])] [tgK 5 (some 8) 9 30 4 (fun W v => RIs W v (Rat.divInt y ((und d : Nat) : Int))) kkr]) (fun f g a w hn h => MK.ext (n := 11) (by simp) hn h) ?_ ?_ ?_
    · refine ⟨HG1.out.drew, ⟨fun _ _ h => h, fun _ _ h => h⟩, HG1.out.size, (by intro q hq; simp only [List.mem_cons, List.not_mem_nil, or_false] at hq; rcases hq with rfl | rfl | rfl; exact HB3.out; exact HB4.out; exact HB5.out), ?_, (by intro t u h1 h2 hd; simp only [List.mem_singleton] at h1 h2; subst h1; subst h2; exact absurd rfl hd)⟩
      intro t ht h
      simp only [List.mem_singleton] at ht
      subst ht
      exact absurd (h 8 rfl) (by simp)
    · intro i o f A W hi hJ hf hdep hdn hcl hfr hsz
      rcases i with _ | _ | _ | _ | _ | _ | _ | _ | _ | _ | _ | i
      all_goals (simp at hi)
      all_goals (try subst hi)
      · have t1 := hfr 1 (by simp)
        refine par_value (v := .pointer (some ⟨w.heap.size, 1, none⟩)) (w' := W) ?_ ⟨KK.refl _, hJ.same _ _ _ (by simp), rfl⟩
        simp [go_sem, Act.eval, t1]
      · have t16 : A.tmps.getD 16 undef = .pointer (some ⟨w.heap.size, 1, none⟩) := hdep 0 _ 16 rfl (by kernel_rfl) rfl
        have hb0 : BlkC 84 W w.heap.size [.int .i64 x, .int .i64 y, .int .i64 d] := hJ.kept (84, w.heap.size, [.int .i64 x, .int .i64 y, .int .i64 d]) (by simp)
        have x00 : W.cell? ⟨w.heap.size, 0, none⟩ = some (.int .i64 x) := by rw [hb0.cell 0]; rfl
        have x01 : W.cell? ⟨w.heap.size, 1, none⟩ = some (.int .i64 y) := by rw [hb0.cell 1]; rfl
        have x02 : W.cell? ⟨w.heap.size, 2, none⟩ = some (.int .i64 d) := by rw [hb0.cell 2]; rfl
        refine par_value (v := (.int .i64 y)) (w' := W) ?_ ⟨KK.refl _, hJ.same _ _ _ (by simp), rfl⟩
        simp [go_sem, Act.eval, t16, x01]
      · have t1 := hfr 1 (by simp)
        have hb0 : BlkC 84 W w.heap.size [.int .i64 x, .int .i64 y, .int .i64 d] := hJ.kept (84, w.heap.size, [.int .i64 x, .int .i64 y, .int .i64 d]) (by simp)
        have x00 : W.cell? ⟨w.heap.size, 0, none⟩ = some (.int .i64 x) := by rw [hb0.cell 0]; rfl
        have x01 : W.cell? ⟨w.heap.size, 1, none⟩ = some (.int .i64 y) := by rw [hb0.cell 1]; rfl
        have x02 : W.cell? ⟨w.heap.size, 2, none⟩ = some (.int .i64 d) := by rw [hb0.cell 2]; rfl
        refine par_value (v := .agg #[.int .i64 x, .int .i64 y, .int .i64 d]) (w' := W) ?_ ⟨KK.refl _, hJ.same _ _ _ (by simp), rfl⟩
        simp [go_sem, Act.eval, t1, x00, x01, x02]
      · have t18 : A.tmps.getD 18 undef = .agg #[.int .i64 x, .int .i64 y, .int .i64 d] := hdep 2 _ 18 rfl (by kernel_rfl) rfl
        refine par_call (w' := W) (f := 46) (xs := #[Value.agg #[.int .i64 x, .int .i64 y, .int .i64 d]]) (by simp [go_sem, Act.eval, t18]) ?_
        refine (under_any x y d _).mono ?_
        rintro e w1 ⟨rfl, hg1⟩
        exact ⟨_, rfl, kk_below hg1, hJ.gr hg1 _ _ _ (by simp), rfl⟩
      · have t17 : A.tmps.getD 17 undef = (.int .i64 y) := hdep 1 _ 17 rfl (by kernel_rfl) rfl
        have t19 : A.tmps.getD 19 undef = .int .i64 ((und d : Nat) : Int) := hdep 3 _ 19 rfl (by kernel_rfl) rfl
        refine par_call (w' := W) (f := 45) (xs := #[Value.int IntKind.i64 y, Value.int IntKind.i64 ((und d : Nat) : Int)]) (by simp [go_sem, Act.eval, t17, t19]) ?_
        refine (of_any y ((und d : Nat) : Int) _ HY.out.1 HY.out.2 HU.out.1 HU.out.2 HUN.out).mono ?_
        rintro e w1 ⟨r, rfl, hr, hg1⟩
        exact ⟨_, rfl, kk_below hg1, hJ.gr hg1 _ _ _ (by simp), ⟨r, rfl, hr⟩⟩
      · have t20 : (fun W v => ∃ r, v = .tuple #[r, .int .i64 0] ∧ RIs W r (Rat.divInt y ((und d : Nat) : Int))) W (A.tmps.getD 20 undef) := hdep 4 _ 20 rfl (by kernel_rfl) rfl
        refine par_value (v := A.tmps.getD 20 undef) (w' := W) ?_ ⟨KK.refl _, hJ.same _ _ _ (by simp), t20⟩
        simp [go_sem, Act.eval]
      · have t15 : (fun W v => ∃ r, v = .tuple #[r, .int .i64 0] ∧ RIs W r (Rat.divInt y ((und d : Nat) : Int))) W (A.tmps.getD 15 undef) := hdep 5 _ 15 rfl (by kernel_rfl) rfl
        obtain ⟨r0, e0, h0⟩ := t15
        refine par_value (v := r0) (w' := W) ?_ ⟨KK.refl _, hJ.same _ _ _ (by simp), h0⟩
        simp [go_sem, Act.eval, e0]
      · have t15 : (fun W v => ∃ r, v = .tuple #[r, .int .i64 0] ∧ RIs W r (Rat.divInt y ((und d : Nat) : Int))) W (A.tmps.getD 15 undef) := hdep 5 _ 15 rfl (by kernel_rfl) rfl
        obtain ⟨r0, e0, h0⟩ := t15
        refine par_value (v := .int .i64 0) (w' := W) ?_ ⟨KK.refl _, hJ.same _ _ _ (by simp), rfl⟩
        simp [go_sem, Act.eval, e0]
      · have hst : f 9 = false := by
          cases h : f 9 with
          | false => rfl
          | true => rw [hcl 9 _ 8 rfl h (by kernel_rfl)] at hf; cases hf
        refine par_value (v := .pointer (some ⟨W.heap.size, 0, none⟩)) (w' := W.alloc (.cells #[.slice none 0 0, .bool false, .slice none 0 0, .bool false] 30)) ?_ ⟨kk_alloc _ _, hJ.new (t0 := tgK 5 (some 8) 9 30 4 (fun W v => RIs W v (Rat.divInt y ((und d : Nat) : Int))) kkr) (cs := [.slice none 0 0, .bool false, .slice none 0 0, .bool false]) 8 (by simp) rfl (by rw [hsz]; simp) hst (by simp) (by simp) rfl, trivial⟩
        simp [go_sem]
      · have t21 : (fun W v => RIs W v (Rat.divInt y ((und d : Nat) : Int))) W (A.tmps.getD 21 undef) := hdep 6 _ 21 rfl (by kernel_rfl) rfl
        obtain ⟨g9, cs9, hp9, hb9, hk9⟩ := hJ.ahead (t0 := tgK 5 (some 8) 9 30 4 (fun W v => RIs W v (Rat.divInt y ((und d : Nat) : Int))) kkr) (by simp) (fun j hj => by cases hj; exact hdn 8 (by kernel_rfl)) hf
        obtain ⟨y0, y1, y2, y3, rfl⟩ := len4 hk9
        obtain ⟨a8, n8, b8, a7, n7, b7, e8⟩ := t21.parts
        have hv8 := t21
        rw [e8] at hv8
        have hst : StK 30 W g9 _ [.slice a8 n8 n8, .bool b8, .slice a7 n7 n7, .bool b7] := (((StK.one (T := 30) hb9 ⟨by decide, by decide⟩ 0 (.slice a8 n8 n8)).more ⟨by decide, by decide⟩ 1 (.bool b8)).more ⟨by decide, by decide⟩ 2 (.slice a7 n7 n7)).more ⟨by decide, by decide⟩ 3 (.bool b7)
        have hcell := hb9.cell
        have hfree := hb9.free
        refine par_skip ?_ ⟨hst.kk, hJ.put 9 undef (by simp) (fun j hj => by cases hj; exact hdn 8 (by kernel_rfl)) rfl hp9 hst.gr hst.kk hst.bb (kkr _ _ _ hst.kk hv8) (by simp) (by simp), trivial⟩
        simp [go_sem, Act.eval, hp9, e8, hcell, hfree]
      · have t22 : A.tmps.getD 22 undef = .int .i64 0 := hdep 7 _ 22 rfl (by kernel_rfl) rfl
        refine par_value (v := .int .i64 0) (w' := W) ?_ ⟨KK.refl _, hJ.same _ _ _ (by simp), rfl⟩
        simp [go_sem, Act.eval, t22]
    · intro vs W hJ hs
      obtain ⟨gA, csA, pA, lA, bA, kA, _⟩ := hJ.at' (tgK 5 (some 8) 9 30 4 (fun W v => RIs W v (Rat.divInt y ((und d : Nat) : Int))) kkr) (by simp) (fun j hj => by cases hj; rfl)
      have kA' : RIs W (.agg csA.toArray) (Rat.divInt y ((und d : Nat) : Int)) := kA
      have hb0 : BlkC 84 W w.heap.size [.int .i64 x, .int .i64 y, .int .i64 d] := hJ.kept (84, w.heap.size, [.int .i64 x, .int .i64 y, .int .i64 d]) (by simp)
      have HB7 : Hid (BlkC 32 W (w.heap.size + 1) [.slice none 0 0, .bool false, .slice none 0 0, .bool false, .slice none 0 0, .bool false, .slice none 0 0, .bool false]) := hJ.kept (32, w.heap.size + 1, [.slice none 0 0, .bool false, .slice none 0 0, .bool false, .slice none 0 0, .bool false, .slice none 0 0, .bool false]) (by simp)
      have HB8 : Hid (BlkC 30 W gX [.slice aX nX nX, .bool bX, .slice cX mX mX, .bool dX]) := hJ.kept (30, gX, [.slice aX nX nX, .bool bX, .slice cX mX mX, .bool dX]) (by simp)
      obtain ⟨a8, n8, b8, a7, n7, b7, rfl⟩ := r_cs kA'
      have HB9 : Hid (BlkC 30 W gA [.slice a8 n8 n8, .bool b8, .slice a7 n7 n7, .bool b7]) := bA
      have HR9 : Hid (RIs W (.agg #[.slice a8 n8 n8, .bool b8, .slice a7 n7 n7, .bool b7]) (Rat.divInt y ((und d : Nat) : Int))) := kA'
      have HR8 : Hid (RIs W (.agg #[.slice aX nX nX, .bool bX, .slice cX mX mX, .bool dX]) (Rat.divInt x ((und d : Nat) : Int))) := kkr _ _ _ hJ.k HRX.out
      have HL9 : Hid (Below w.heap.size w W) := hJ.b
      obtain ⟨PV, hPV⟩ : ∃ p, p = vs 5 := ⟨_, rfl⟩
      have hp5 : vs 5 = .pointer (some ⟨gA, 0, none⟩) := by simpa [putAll, Act.put] using pA
      clear pA bA kA kA' hJ hs hb0
      simp only [putAll, List.foldl_cons, List.foldl_nil, Act.put, List.setIfInBounds_toArray, List.set_cons_succ, List.set_cons_zero]
      rw [hp5]
      obtain ⟨c0, c1, c2, c3⟩ := blk4 HB8.out
      obtain ⟨d0, d1, d2, d3⟩ := blk4 HB9.out
      obtain ⟨e0, e1, e2, e3, e4, e5, e6, e7⟩ := blk8 HB7.out
      obtain ⟨f0, f1, f2, f3, f4, f5, f6, f7⟩ := blk8f HB7.out
      have lt7 := HB7.out.lt
      have HS := Lib.hid (set8_all (T := 32) HB7.out (by decide) (.slice aX nX nX) (.bool bX) (.slice cX mX mX) (.bool dX) (.slice a8 n8 n8) (.bool b8) (.slice a7 n7 n7) (.bool b7))
      have HPT : Hid (PIs W (.agg #[.slice aX nX nX, .bool bX, .slice cX mX mX, .bool dX, .slice a8 n8 n8, .bool b8, .slice a7 n7 n7, .bool b7]) (Rat.divInt x ((und d : Nat) : Int)) (Rat.divInt y ((und d : Nat) : Int))) := ⟨aX, nX, bX, cX, mX, dX, a8, n8, b8, a7, n7, b7, rfl, HR8.out, HR9.out⟩
      go_wp2_with fail
      exact p_ret rfl rfl rfl HS.out.2.2 ⟨_, rfl, PIs.keep _ _ _ HS.out.2.1 HPT.out, HL9.out.grown HS.out.1 HL9.out.size (fun k hk => by cases hk; omega)⟩
end Go.Proofs.Ytnojfiokdhcbjaa
