/-
  frac: quotients in memory; Den, Whole, Sign: the walks.
  frac: Whole, Sign, Neg: the walks.
  A region that draws its order, all of whose operations only read or make memory: each operation's value has its spec.
  frac.Cmp: the walk.
  Regions that draw their order, operation by operation, where what is kept speaks of the slots too.
  A region that draws its order and puts one row of cells into memory: what each operation leaves.
  Memory while a region runs that makes cells and stores into cells: which of them are there, and what they hold.
-/
import Derived.Test.YtnojfiokdhcbjaaGS
import Derived.Test.YtnojfiokdhcbjaaGPar
namespace Go.Proofs.Ytnojfiokdhcbjaa
open Go Go.RowKit
def RC (w : World) (cs : List Value) (q : Rat) : Prop := ∃ c1 c2 D, cs = c1 ++ c2 ∧ ZC w c1 q.num ∧ ZC w c2 D ∧ (D = q.den ∨ (D = 0 ∧ q.den = 1))
def RIs (w : World) (v : Value) (q : Rat) : Prop := ∃ cs, v = .agg cs.toArray ∧ RC w cs q
theorem RC.keep {w w' : World} {cs : List Value} {q : Rat} (h : RC w cs q) (k : Keep w w') : RC w' cs q := by
  obtain ⟨c1, c2, D, h1, h2, h3, h4⟩ := h
  exact ⟨c1, c2, D, h1, h2.keep k, h3.keep k, h4⟩
theorem RIs.keep {w w' : World} {v : Value} {q : Rat} (h : RIs w v q) (k : Keep w w') : RIs w' v q := by
  obtain ⟨cs, h1, h2⟩ := h
  exact ⟨cs, h1, h2.keep k⟩
theorem RIs.parts {w : World} {v : Value} {q : Rat} (h : RIs w v q) : ∃ (a : Option Addr) (n : Nat) (b : Bool) (c : Option Addr) (m : Nat) (d : Bool), v = .agg #[.slice a n n, .bool b, .slice c m m, .bool d] := by
  obtain ⟨cs, rfl, c1, c2, D, rfl, ⟨a, rfl, _⟩, ⟨c, rfl, _⟩, _⟩ := h
  exact ⟨a, _, _, c, _, _, rfl⟩
theorem r_parts {w : World} {a c : Option Addr} {n m : Nat} {b d : Bool} {q : Rat} (h : RIs w (.agg #[.slice a n n, .bool b, .slice c m m, .bool d]) q) :
    ZIs w (.agg #[.slice a n n, .bool b]) q.num ∧ ∃ D, ZIs w (.agg #[.slice c m m, .bool d]) D ∧ (D = q.den ∨ (D = 0 ∧ q.den = 1)) := by
  obtain ⟨cs, e, c1, c2, D, rfl, ⟨a', rfl, h1⟩, ⟨c', rfl, h2⟩, h3⟩ := h
  simp only [Value.agg.injEq, List.cons_append, List.nil_append, Array.mk.injEq, List.cons.injEq, Value.slice.injEq, Value.bool.injEq, and_true] at e
  obtain ⟨⟨rfl, rfl, _⟩, rfl, ⟨rfl, rfl, _⟩, rfl⟩ := e
  exact ⟨⟨_, rfl, a, rfl, h1⟩, D, ⟨_, rfl, c, rfl, h2⟩, h3⟩
theorem r_mk {w : World} {a c : Option Addr} {n m : Nat} {b d : Bool} {q : Rat} (h1 : ZIs w (.agg #[.slice a n n, .bool b]) q.num) (h2 : ZIs w (.agg #[.slice c m m, .bool d]) q.den) : RIs w (.agg #[.slice a n n, .bool b, .slice c m m, .bool d]) q := by
  obtain ⟨c1, e1, h1⟩ := h1
  obtain ⟨c2, e2, h2⟩ := h2
  refine ⟨c1 ++ c2, ?_, c1, c2, _, rfl, h1, h2, .inl rfl⟩
  simp only [Value.agg.injEq] at e1 e2
  have f1 := congrArg Array.toList e1
  have f2 := congrArg Array.toList e2
  simp only at f1 f2
  rw [← f1, ← f2]
  rfl
theorem signZ_ne {z : Int} (h : z ≠ 0) : ((signZ z) == 0) = false := by
  unfold signZ
  by_cases h1 : z < 0
  · simp [h1]
  · simp [h1, h]
section
variable (w : World) (a : Option Addr) (n : Nat) (b : Bool) (c : Option Addr) (m : Nat) (d : Bool)
abbrev rzW : World := (w.alloc (.cells #[.slice a n n, .bool b, .slice c m m, .bool d] 30)).alloc (.cells #[.slice none 0 0, .bool false] 28)
theorem rzW_1 : BlkC 30 (rzW w a n b c m d) w.heap.size [.slice a n n, .bool b, .slice c m m, .bool d] := (BlkC.new _ w [.slice a n n, .bool b, .slice c m m, .bool d]).still (grown_alloc _ _ none)
theorem rzW_2 : BlkC 28 (rzW w a n b c m d) (w.heap.size + 1) [.slice none 0 0, .bool false] := blk_at (cs := [.slice none 0 0, .bool false]) (by simp)
theorem rzW_g : Own w.heap.size w (rzW w a n b c m d) := (own_alloc _ _).alloc (by simp) _
end
theorem blk4 {T : TypeId} {w : World} {g : Nat} {x y z t : Value} (h : BlkC T w g [x, y, z, t]) : w.cell? ⟨g, 0, none⟩ = some x ∧ w.cell? ⟨g, 1, none⟩ = some y ∧ w.cell? ⟨g, 2, none⟩ = some z ∧ w.cell? ⟨g, 3, none⟩ = some t :=
  ⟨by rw [h.cell 0]; rfl, by rw [h.cell 1]; rfl, by rw [h.cell 2]; rfl, by rw [h.cell 3]; rfl⟩
set_option maxHeartbeats 4000000 in
set_option maxRecDepth 100000 in
theorem den_any (q : Rat) (v : Value) (w : World) (hv : RIs w v q) (hx : (limbs q.den).length ≤ 1000000) :
    Calls Try.prog 33 #[v] w fun e w' => ∃ r, e = .returned r ∧ ZIs w' r (q.den : Int) ∧ Own w.heap.size w w' := by
  obtain ⟨a, n, b, c, m, d, rfl⟩ := hv.parts
  obtain ⟨_, D, hD, hd⟩ := r_parts hv
  have HB1 := Lib.hid (rzW_1 w a n b c m d)
  have HB2 := Lib.hid (rzW_2 w a n b c m d)
  have HG := Lib.hid (rzW_g w a n b c m d)
  have HD := Lib.hid (Gr.zIs HG.out hD)
  have hDl : (limbs D.natAbs).length ≤ 1000000 := by
    rcases hd with rfl | ⟨rfl, _⟩
    · exact hx
    · rw [Int.natAbs_zero, limbs_zero]; simp
  have HDL := Lib.hid hDl
  have HQ := Lib.hid (den_ne q)
  have HDD := Lib.hid hd
  clear hv hD hx hDl hd
  go_enter Try.func33, Try.ntmps33
  go_wp2_with fail
  refine (sign_any D _ _ HD.out HDL.out).mono ?_
  rintro e w1 ⟨rfl, hg1⟩
  have HG1 := Lib.hid (HG.out.call HG.out.size hg1)
  have HC1 := Lib.hid (HB1.out.still (Gr.grown hg1))
  have HC2 := Lib.hid (HB2.out.still (Gr.grown hg1))
  have HD1 := Lib.hid (Gr.zIs hg1 HD.out)
  clear hg1 HB1 HB2 HG HD
  by_cases h0 : D = 0
  · subst h0
    have hs : (signZ 0 == 0) = true := rfl
    have hq1 : (q.den : Int) = 1 := by
      rcases HDD.out with h | ⟨_, h⟩
      · exact absurd h.symm HQ.out
      · rw [h]; rfl
    go_wp2_with fail
    refine (zedOf_any 1 _ (by omega) (by omega)).mono ?_
    rintro e w2 ⟨v2, rfl, hv2, hg2⟩
    rw [← hq1] at hv2
    have HG2 := Lib.hid (HG1.out.call HG1.out.size hg2)
    have HE2 := Lib.hid (HC2.out.still (Gr.grown hg2))
    have HV2 := Lib.hid hv2
    obtain ⟨y0, y1, y2, y3, y4⟩ := blk2 HE2.out
    obtain ⟨a8, n8, b8, rfl⟩ := hv2.parts
    clear hv2 hg2 hq1
    go_wp2_with fail
    obtain ⟨s1, s2, s3⟩ := z_shut HV2.out HE2.out (by decide)
    exact z_ret rfl rfl rfl s1 ⟨_, rfl, s2, own_set2 HG2.out (by omega) _ _⟩
  · have hs := signZ_ne h0
    have HDQ : Hid (D = q.den) := by rcases HDD.out with h | ⟨h, _⟩; · exact h
                                     · exact absurd h h0
    obtain ⟨x0, x1, x2, x3⟩ := blk4 HC1.out
    obtain ⟨y0, y1, y2, y3, y4⟩ := blk2 HC2.out
    clear h0
    go_wp2_with fail
    obtain ⟨s1, s2, s3⟩ := z_shut HD1.out HC2.out (by decide)
    rw [HDQ.out] at s2
    exact z_ret rfl rfl rfl s1 ⟨_, rfl, s2, own_set2 HG1.out (by omega) _ _⟩
end Go.Proofs.Ytnojfiokdhcbjaa
namespace Go.Proofs.Ytnojfiokdhcbjaa
open Go Go.RowKit
theorem r_shut {T : TypeId} {w0 : World} {g : Nat} {c0 c1 c2 c3 x y z t : Value} {q : Rat} (hv : RIs w0 (.agg #[c0, c1, c2, c3]) q) (hB : BlkC T w0 g [x, y, z, t]) (hT : T ≠ 126) :
    BlkC T ((((w0.setCell ⟨g, 0, none⟩ c0).setCell ⟨g, 1, none⟩ c1).setCell ⟨g, 2, none⟩ c2).setCell ⟨g, 3, none⟩ c3) g [c0, c1, c2, c3] ∧ RIs ((((w0.setCell ⟨g, 0, none⟩ c0).setCell ⟨g, 1, none⟩ c1).setCell ⟨g, 2, none⟩ c2).setCell ⟨g, 3, none⟩ c3) (.agg #[c0, c1, c2, c3]) q := by
  have h1 := hB.set 0 c0
  have h2 := h1.set 1 c1
  have h3 := h2.set 2 c2
  have hk : Keep w0 ((((w0.setCell ⟨g, 0, none⟩ c0).setCell ⟨g, 1, none⟩ c1).setCell ⟨g, 2, none⟩ c2).setCell ⟨g, 3, none⟩ c3) := (((keep_set hB hT _).trans (keep_set h1 hT _)).trans (keep_set h2 hT _)).trans (keep_set h3 hT _)
  exact ⟨h3.set 3 c3, hv.keep hk⟩
theorem own_set4 {w w0 : World} {B g : Nat} (h : Own B w w0) (hg : B ≤ g) (c0 c1 c2 c3 : Value) : Own B w ((((w0.setCell ⟨g, 0, none⟩ c0).setCell ⟨g, 1, none⟩ c1).setCell ⟨g, 2, none⟩ c2).setCell ⟨g, 3, none⟩ c3) := (((h.set hg 0 c0).set hg 1 c1).set hg 2 c2).set hg 3 c3
theorem r_ret {T : TypeId} {R : Ending → World → Prop} {a : Act} {w : World} {g : Nat} {x y z u : Value} {f : Func} {t : Tmp} (h : f.results = #[.cell t 30])
    (hp : a.tmps.getD t undef = .pointer (some ⟨g, 0, none⟩)) (ha : a.defers = []) (hB : BlkC T w g [x, y, z, u]) (hR : R (.returned (.agg #[x, y, z, u])) w) : bodyPost Try.prog f R .ret a w :=
  blk_ret h (by kernel_rfl) (by kernel_rfl) hp ha hB hR
theorem blk4f {T : TypeId} {w : World} {g : Nat} {x y z t : Value} (h : BlkC T w g [x, y, z, t]) : w.frozen? ⟨g, 0, none⟩ = false ∧ w.frozen? ⟨g, 1, none⟩ = false ∧ w.frozen? ⟨g, 2, none⟩ = false ∧ w.frozen? ⟨g, 3, none⟩ = false ∧ g < w.heap.size :=
  ⟨h.free 0, h.free 1, h.free 2, h.free 3, h.lt⟩
section
variable (w : World) (a : Option Addr) (n : Nat) (b : Bool) (c : Option Addr) (m : Nat) (d : Bool)
abbrev zrW : World := (w.alloc (.cells #[.slice a n n, .bool b] 28)).alloc (.cells #[.slice none 0 0, .bool false, .slice none 0 0, .bool false] 30)
theorem zrW_1 : BlkC 28 (zrW w a n b) w.heap.size [.slice a n n, .bool b] := (BlkC.new _ w [.slice a n n, .bool b]).still (grown_alloc _ _ none)
theorem zrW_2 : BlkC 30 (zrW w a n b) (w.heap.size + 1) [.slice none 0 0, .bool false, .slice none 0 0, .bool false] := blk_at (cs := [.slice none 0 0, .bool false, .slice none 0 0, .bool false]) (by simp)
theorem zrW_g : Own w.heap.size w (zrW w a n b) := (own_alloc _ _).alloc (by simp) _
end
set_option maxHeartbeats 4000000 in
set_option maxRecDepth 100000 in
theorem whole_any (z : Int) (v : Value) (w : World) (hv : ZIs w v z) :
    Calls Try.prog 18 #[v] w fun e w' => ∃ r, e = .returned r ∧ RIs w' r (z : Rat) ∧ Own w.heap.size w w' := by
  obtain ⟨a, n, b, rfl⟩ := hv.parts
  have HB1 := Lib.hid (zrW_1 w a n b)
  have HB2 : Hid (BlkC 30 (zrW w a n b).drew (w.heap.size + 1) [.slice none 0 0, .bool false, .slice none 0 0, .bool false]) := zrW_2 w a n b
  have HG : Hid (Own w.heap.size w (zrW w a n b).drew) := (zrW_g w a n b).drew
  have HN1 := Lib.hid (Gr.zIs HG.out hv)
  obtain ⟨x0, x1, x2, x3, x4⟩ := blk2 HB1.out
  clear hv
  go_enter Try.func18, Try.ntmps18
  go_wp2_with fail
  go_region_held3 (fun w' => w'.cell? ⟨w.heap.size, 0, none⟩ = some (.slice a n n) ∧ w'.cell? ⟨w.heap.size, 1, none⟩ = some (.bool b)) (first | go_keep | exact ⟨own_cell hg9 x0, own_cell hg9 x1⟩ | (try dsimp only; repeat' apply And.intro; all_goals go_keep))
    (first | (go_at_call 19; refine (zedOf_any 1 _ (by omega) (by omega)).mono ?_; rintro e w9 ⟨v9, rfl, hv9, hg9⟩; have HV9 := Lib.hid hv9; have HG9 := Lib.hid (HG.out.call HG.out.size hg9); have HC9 := Lib.hid (HB2.out.still (Gr.grown hg9)); have HN9 := Lib.hid (Gr.zIs hg9 HN1.out); obtain ⟨y0, y1, y2, y3, y4⟩ := blk4f HC9.out; obtain ⟨z0, z1, z2, z3⟩ := blk4 HC9.out; obtain ⟨a8, n8, b8, rfl⟩ := hv9.parts; clear hv9))
  go_wp2_with fail
  obtain ⟨s1, s2⟩ := r_shut (r_mk (q := (z : Rat)) HN9.out HV9.out) HC9.out (by decide)
  exact r_ret rfl rfl rfl s1 ⟨_, rfl, s2, own_set4 HG9.out (by omega) _ _ _ _⟩
section
variable (w : World) (a : Option Addr) (n : Nat) (b : Bool) (c : Option Addr) (m : Nat) (d : Bool)
abbrev rrW : World := (w.alloc (.cells #[.slice a n n, .bool b, .slice c m m, .bool d] 30)).alloc (.cells #[.slice none 0 0, .bool false, .slice none 0 0, .bool false] 30)
theorem rrW_1 : BlkC 30 (rrW w a n b c m d) w.heap.size [.slice a n n, .bool b, .slice c m m, .bool d] := (BlkC.new _ w [.slice a n n, .bool b, .slice c m m, .bool d]).still (grown_alloc _ _ none)
theorem rrW_2 : BlkC 30 (rrW w a n b c m d) (w.heap.size + 1) [.slice none 0 0, .bool false, .slice none 0 0, .bool false] := blk_at (cs := [.slice none 0 0, .bool false, .slice none 0 0, .bool false]) (by simp)
theorem rrW_g : Own w.heap.size w (rrW w a n b c m d) := (own_alloc _ _).alloc (by simp) _
abbrev r1W : World := w.alloc (.cells #[.slice a n n, .bool b, .slice c m m, .bool d] 30)
theorem r1W_1 : BlkC 30 (r1W w a n b c m d) w.heap.size [.slice a n n, .bool b, .slice c m m, .bool d] := BlkC.new _ w [.slice a n n, .bool b, .slice c m m, .bool d]
theorem r1W_g : Own w.heap.size w (r1W w a n b c m d) := own_alloc _ _
end
theorem r_mk' {w : World} {a c : Option Addr} {n m : Nat} {b d : Bool} {q : Rat} {D : Int} (h1 : ZIs w (.agg #[.slice a n n, .bool b]) q.num) (h2 : ZIs w (.agg #[.slice c m m, .bool d]) D) (h3 : D = q.den ∨ (D = 0 ∧ q.den = 1)) : RIs w (.agg #[.slice a n n, .bool b, .slice c m m, .bool d]) q := by
  obtain ⟨c1, e1, h1⟩ := h1
  obtain ⟨c2, e2, h2⟩ := h2
  refine ⟨c1 ++ c2, ?_, c1, c2, _, rfl, h1, h2, h3⟩
  simp only [Value.agg.injEq] at e1 e2
  have f1 := congrArg Array.toList e1
  have f2 := congrArg Array.toList e2
  simp only at f1 f2
  rw [← f1, ← f2]
  rfl
set_option maxHeartbeats 4000000 in
set_option maxRecDepth 100000 in
theorem fsign_any (q : Rat) (v : Value) (w : World) (hv : RIs w v q) (hx : (limbs q.num.natAbs).length ≤ 1000000) :
    Calls Try.prog 50 #[v] w fun e w' => e = .returned (Value.int .i64 (signZ q.num)) ∧ Own w.heap.size w w' := by
  obtain ⟨a, n, b, c, m, d, rfl⟩ := hv.parts
  obtain ⟨hN, _⟩ := r_parts hv
  have HB1 := Lib.hid (r1W_1 w a n b c m d)
  have HG := Lib.hid (r1W_g w a n b c m d)
  have HN := Lib.hid (Gr.zIs HG.out hN)
  have HX := Lib.hid hx
  obtain ⟨x0, x1, x2, x3⟩ := blk4 HB1.out
  clear hv hN hx
  go_enter Try.func50, Try.ntmps50
  go_wp2_with fail
  refine (sign_any q.num _ _ HN.out HX.out).mono ?_
  rintro e w1 ⟨rfl, hg1⟩
  have HG1 := Lib.hid (HG.out.call HG.out.size hg1)
  clear hg1
  go_wp2_with fail
  go_ret
  exact ⟨rfl, HG1.out⟩
set_option maxHeartbeats 4000000 in
set_option maxRecDepth 100000 in
theorem fneg_any (q : Rat) (v : Value) (w : World) (hv : RIs w v q) (hx : (limbs q.num.natAbs).length ≤ 1000000) :
    Calls Try.prog 66 #[v] w fun e w' => ∃ r, e = .returned r ∧ RIs w' r (-q) ∧ Own w.heap.size w w' := by
  obtain ⟨a, n, b, c, m, d, rfl⟩ := hv.parts
  obtain ⟨hN, D, hD, hd⟩ := r_parts hv
  have HB1 : Hid (BlkC 30 (rrW w a n b c m d).drew w.heap.size [.slice a n n, .bool b, .slice c m m, .bool d]) := rrW_1 w a n b c m d
  have HB2 : Hid (BlkC 30 (rrW w a n b c m d).drew (w.heap.size + 1) [.slice none 0 0, .bool false, .slice none 0 0, .bool false]) := rrW_2 w a n b c m d
  have HG : Hid (Own w.heap.size w (rrW w a n b c m d).drew) := (rrW_g w a n b c m d).drew
  have HN := Lib.hid (Gr.zIs HG.out hN)
  have HD := Lib.hid (Gr.zIs HG.out hD)
  have HX := Lib.hid hx
  have HDD := Lib.hid hd
  obtain ⟨x0, x1, x2, x3⟩ := blk4 HB1.out
  have ne1 : ¬ w.heap.size = w.heap.size + 1 := by omega
  have ne2 : ¬ w.heap.size + 1 = w.heap.size := by omega
  clear hv hN hD hd hx
  go_enter Try.func66, Try.ntmps66
  go_wp2_with fail
  go_region_held3 (fun w' => w'.cell? ⟨w.heap.size, 0, none⟩ = some (.slice a n n) ∧ w'.cell? ⟨w.heap.size, 1, none⟩ = some (.bool b) ∧ w'.cell? ⟨w.heap.size, 2, none⟩ = some (.slice c m m) ∧ w'.cell? ⟨w.heap.size, 3, none⟩ = some (.bool d)) (first | go_keep | exact ⟨own_cell hg9 x0, own_cell hg9 x1, own_cell hg9 x2, own_cell hg9 x3⟩ | (try dsimp only; repeat' apply And.intro; all_goals go_keep))
    (first | (go_at_call 65; refine (neg_any q.num _ _ HN.out HX.out).mono ?_; rintro e w9 ⟨v9, rfl, hv9, hg9⟩; have HV9 := Lib.hid hv9; have HG9 := Lib.hid (HG.out.call HG.out.size hg9); have HC9 := Lib.hid (HB2.out.still (Gr.grown hg9)); have HN9 := Lib.hid (Gr.zIs hg9 HD.out); obtain ⟨y0, y1, y2, y3, y4⟩ := blk4f HC9.out; obtain ⟨z0, z1, z2, z3⟩ := blk4 HC9.out; obtain ⟨a8, n8, b8, rfl⟩ := hv9.parts; clear hv9))
  go_wp2_with fail
  obtain ⟨s1, s2⟩ := r_shut (r_mk' (q := -q) HV9.out HN9.out HDD.out) HC9.out (by decide)
  exact r_ret rfl rfl rfl s1 ⟨_, rfl, s2, own_set4 HG9.out (by omega) _ _ _ _⟩
end Go.Proofs.Ytnojfiokdhcbjaa
namespace Go.Proofs.Ytnojfiokdhcbjaa
open Go Go.RowKit
inductive Pt where
  | any
  | is (v : Value)
  | n (k : Nat)
  | z (k : Int)
  | q (k : Rat)
  | p (K : World → Value → Prop) (h : ∀ (w w' : World) (v : Value), Keep w w' → K w v → K w' v)
def Pt.ok (w : World) : Pt → Value → Prop
  | .any, _ => True
  | .is u, v => v = u
  | .n k, v => NatIs w v k
  | .z k, v => ZIs w v k
  | .q k, v => RIs w v k
  | .p K _, v => K w v
theorem Pt.ok.gr {w w' : World} (g : Gr w w') : ∀ {p : Pt} {v : Value}, p.ok w v → p.ok w' v
  | .any, _, _ => trivial
  | .is _, _, h => h
  | .n _, _, h => Gr.natIs g h
  | .z _, _, h => Gr.zIs g h
  | .q _, _, h => RIs.keep h g.keep
  | .p _ hk, _, h => hk _ _ _ g.keep h
theorem par_value {P : Program} {o : Oper} {a : Act} {w w' : World} {v : Value} {K : Value → World → Prop} (h : (execOp a.eval o).run P w = .ok (.value v) w') (k : K v w') : ParOK P o a w K := by
  intro Q
  unfold Oper.wp
  rw [h, Oper.upon_value]
  exact ⟨v, rfl, k⟩
theorem par_call {P : Program} {o : Oper} {a : Act} {w w' : World} {f : FuncId} {xs : Array Value} {K : Value → World → Prop} (h : (execOp a.eval o).run P w = .ok (.enter f xs) w') (k : Calls P f xs w' fun e w'' => ∃ v, e = .returned v ∧ K v w'') : ParOK P o a w K := by
  intro Q
  unfold Oper.wp
  rw [h, Oper.upon_enter]
  refine k.mono ?_
  rintro e w'' ⟨v, rfl, hk⟩
  exact ⟨v, rfl, hk⟩
theorem region_own {P : Program} {id : Nat} {ops : List Oper} {m : Nat} {a0 : Act} {w0 : World} {Q : Exit → Act → World → Prop} (hx : P.follows .mixedOrders = true) (hp : parB m ops = true) (hm : a0.tmps.size = m)
    (s : Nat → Pt)
    (hstep : ∀ i o a w, ops[i]? = some o → Gr w0.drew w →
      (∀ j p d, ops[j]? = some p → (o.after.any fun e => Region.binds .any e && e.on == j) = true → p.dst = some d → (s j).ok w (a.tmps.getD d undef)) →
      (∀ t, (∀ p ∈ ops, p.dst ≠ some t) → a.tmps.getD t undef = a0.tmps.getD t undef) →
      ParOK P o a w (fun v w' => Gr w w' ∧ (s i).ok w' v))
    (hend : ∀ (vs : Nat → Value) w, Gr w0.drew w → (∀ j p d, ops[j]? = some p → p.dst = some d → (s j).ok w (vs d)) → Q .normal (putAll ops vs a0) w) :
    (Code.region id ops.toArray true).wp P Q a0 w0 := by
  refine region_par hx hp hm (fun _ w => Gr w0.drew w) (fun i v w => (s i).ok w v) (fun _ _ _ _ h => h) (Own.refl _ _) ?_ ?_
  · intro i o f a w hi hW hf hdep hS hfr
    intro Q'
    refine Oper.wp_mono ?_ (hstep i o a w hi hW (fun j p d hp hj hd => hS j p d hp (by
      rw [Array.any_eq_true'] at hj
      obtain ⟨e, he, hb⟩ := hj
      simp only [Bool.and_eq_true, beq_iff_eq] at hb
      rw [← hb.2]
      exact hdep e he hb.1) hd) hfr Q')
    rintro a' w' ⟨v, rfl, hg, hv⟩
    exact ⟨v, rfl, fun _ _ h => Pt.ok.gr hg h, hW.call hW.size hg, hv⟩
  · intro vs w hW hS
    exact hend vs w hW hS
theorem limbs_mul_len (x y : Nat) : (limbs (x * y)).length ≤ (limbs x).length + (limbs y).length := by
  have h1 := val_lt (limbs_limb x)
  have h2 := val_lt (limbs_limb y)
  rw [val_limbs] at h1 h2
  rw [limbs_len, Nat.pow_add]
  exact Nat.mul_lt_mul'' h1 h2
theorem limbs_mulZ (x y : Int) : (limbs (x * y).natAbs).length ≤ (limbs x.natAbs).length + (limbs y.natAbs).length := by
  rw [Int.natAbs_mul]
  exact limbs_mul_len _ _
end Go.Proofs.Ytnojfiokdhcbjaa
namespace Go.Proofs.Ytnojfiokdhcbjaa
open Go Go.RowKit
section
variable (w : World) (a : Option Addr) (n : Nat) (b : Bool) (c : Option Addr) (m : Nat) (d : Bool) (a' : Option Addr) (n' : Nat) (b' : Bool) (c' : Option Addr) (m' : Nat) (d' : Bool)
abbrev r2W : World := (w.alloc (.cells #[.slice a n n, .bool b, .slice c m m, .bool d] 30)).alloc (.cells #[.slice a' n' n', .bool b', .slice c' m' m', .bool d'] 30)
theorem r2W_1 : BlkC 30 (r2W w a n b c m d a' n' b' c' m' d') w.heap.size [.slice a n n, .bool b, .slice c m m, .bool d] := (BlkC.new _ w [.slice a n n, .bool b, .slice c m m, .bool d]).still (grown_alloc _ _ none)
theorem r2W_2 : BlkC 30 (r2W w a n b c m d a' n' b' c' m' d') (w.heap.size + 1) [.slice a' n' n', .bool b', .slice c' m' m', .bool d'] := blk_at (cs := [.slice a' n' n', .bool b', .slice c' m' m', .bool d']) (by simp)
theorem r2W_g : Own w.heap.size w (r2W w a n b c m d a' n' b' c' m' d') := (own_alloc _ _).alloc (by simp) _
end
set_option maxHeartbeats 4000000 in
set_option maxRecDepth 100000 in
theorem fcmp_any (q p : Rat) (v u : Value) (w : World) (hv : RIs w v q) (hu : RIs w u p) (hq : (limbs q.num.natAbs).length + (limbs q.den).length ≤ 400000) (hp : (limbs p.num.natAbs).length + (limbs p.den).length ≤ 400000) :
    Calls Try.prog 15 #[v, u] w fun e w' => e = .returned (Value.int .i64 (cmpR q p)) ∧ Own w.heap.size w w' := by
  obtain ⟨a, n, b, c, m, d, rfl⟩ := hv.parts
  obtain ⟨a', n', b', c', m', d', rfl⟩ := hu.parts
  have HB1 : Hid (BlkC 30 (r2W w a n b c m d a' n' b' c' m' d').drew w.heap.size [.slice a n n, .bool b, .slice c m m, .bool d]) := r2W_1 w a n b c m d a' n' b' c' m' d'
  have HB2 : Hid (BlkC 30 (r2W w a n b c m d a' n' b' c' m' d').drew (w.heap.size + 1) [.slice a' n' n', .bool b', .slice c' m' m', .bool d']) := r2W_2 w a n b c m d a' n' b' c' m' d'
  have HG : Hid (Own w.heap.size w (r2W w a n b c m d a' n' b' c' m' d').drew) := (r2W_g w a n b c m d a' n' b' c' m' d').drew
  have HV := Lib.hid (RIs.keep hv (Gr.keep HG.out))
  have HU := Lib.hid (RIs.keep hu (Gr.keep HG.out))
  have HQ := Lib.hid hq
  have HP := Lib.hid hp
  clear hv hu hq hp
  go_enter Try.func15, Try.ntmps15
  go_wp2_with fail
  refine region_own (s := fun
    | 0 => .is (.pointer (some ⟨w.heap.size, 0, none⟩)) | 1 => .z q.num | 2 => .q p | 3 => .z p.den | 4 => .z (q.num * p.den)
    | 5 => .is (.pointer (some ⟨w.heap.size + 1, 0, none⟩)) | 6 => .z p.num | 7 => .q q | 8 => .z q.den | 9 => .z (p.num * q.den)
    | 10 => .is (.int .i64 (cmpR q p)) | _ => .is (.int .i64 (cmpR q p))) (by kernel_rfl) (by kernel_rfl) rfl ?_ ?_
  · intro i o A W hi hg hdep hfr
    rcases i with _ | _ | _ | _ | _ | _ | _ | _ | _ | _ | _ | _ | i
    all_goals (simp at hi)
    all_goals (try subst hi)
    · have t2 := hfr 2 (by simp)
      refine par_value (v := .pointer (some ⟨w.heap.size, 0, none⟩)) (w' := W) ?_ ⟨Own.refl _ _, rfl⟩
      simp [go_sem, Act.eval, t2]
    · have t5 : A.tmps.getD 5 undef = .pointer (some ⟨w.heap.size, 0, none⟩) := hdep 0 _ 5 rfl (by kernel_rfl) rfl
      obtain ⟨x0, x1, x2, x3⟩ := blk4 (HB1.out.still (Gr.grown hg))
      refine par_value (v := .agg #[.slice a n n, .bool b]) (w' := W) ?_ ⟨Own.refl _ _, Gr.zIs hg (r_parts HV.out).1⟩
      simp [go_sem, Act.eval, t5, x0, x1]
    · have t3 := hfr 3 (by simp)
      obtain ⟨x0, x1, x2, x3⟩ := blk4 (HB2.out.still (Gr.grown hg))
      refine par_value (v := .agg #[.slice a' n' n', .bool b', .slice c' m' m', .bool d']) (w' := W) ?_ ⟨Own.refl _ _, HU.out.keep (Gr.keep hg)⟩
      simp [go_sem, Act.eval, t3, x0, x1, x2, x3]
    · have t7 : RIs W (A.tmps.getD 7 undef) p := hdep 2 _ 7 rfl (by kernel_rfl) rfl
      refine par_call (w' := W) (f := 33) (xs := #[A.tmps.getD 7 undef]) (by simp [go_sem, Act.eval]) ?_
      refine (den_any p _ _ t7 (by have := HP.out; omega)).mono ?_
      rintro e w1 ⟨r, rfl, hr, hg1⟩
      exact ⟨r, rfl, hg1, hr⟩
    · have t6 : ZIs W (A.tmps.getD 6 undef) q.num := hdep 1 _ 6 rfl (by kernel_rfl) rfl
      have t8 : ZIs W (A.tmps.getD 8 undef) p.den := hdep 3 _ 8 rfl (by kernel_rfl) rfl
      refine par_call (w' := W) (f := 32) (xs := #[A.tmps.getD 6 undef, A.tmps.getD 8 undef]) (by simp [go_sem, Act.eval]) ?_
      refine (mulZ_any _ _ _ _ _ t6 t8 (by have := HQ.out; omega) (by have := HP.out; rw [Int.natAbs_natCast]; omega)).mono ?_
      rintro e w1 ⟨r, rfl, hr, hg1⟩
      exact ⟨r, rfl, hg1, hr⟩
    · have t3 := hfr 3 (by simp)
      refine par_value (v := .pointer (some ⟨w.heap.size + 1, 0, none⟩)) (w' := W) ?_ ⟨Own.refl _ _, rfl⟩
      simp [go_sem, Act.eval, t3]
    · have t10 : A.tmps.getD 10 undef = .pointer (some ⟨w.heap.size + 1, 0, none⟩) := hdep 5 _ 10 rfl (by kernel_rfl) rfl
      obtain ⟨x0, x1, x2, x3⟩ := blk4 (HB2.out.still (Gr.grown hg))
      refine par_value (v := .agg #[.slice a' n' n', .bool b']) (w' := W) ?_ ⟨Own.refl _ _, Gr.zIs hg (r_parts HU.out).1⟩
      simp [go_sem, Act.eval, t10, x0, x1]
    · have t2 := hfr 2 (by simp)
      obtain ⟨x0, x1, x2, x3⟩ := blk4 (HB1.out.still (Gr.grown hg))
      refine par_value (v := .agg #[.slice a n n, .bool b, .slice c m m, .bool d]) (w' := W) ?_ ⟨Own.refl _ _, HV.out.keep (Gr.keep hg)⟩
      simp [go_sem, Act.eval, t2, x0, x1, x2, x3]
    · have t12 : RIs W (A.tmps.getD 12 undef) q := hdep 7 _ 12 rfl (by kernel_rfl) rfl
      refine par_call (w' := W) (f := 33) (xs := #[A.tmps.getD 12 undef]) (by simp [go_sem, Act.eval]) ?_
      refine (den_any q _ _ t12 (by have := HQ.out; omega)).mono ?_
      rintro e w1 ⟨r, rfl, hr, hg1⟩
      exact ⟨r, rfl, hg1, hr⟩
    · have t11 : ZIs W (A.tmps.getD 11 undef) p.num := hdep 6 _ 11 rfl (by kernel_rfl) rfl
      have t13 : ZIs W (A.tmps.getD 13 undef) q.den := hdep 8 _ 13 rfl (by kernel_rfl) rfl
      refine par_call (w' := W) (f := 32) (xs := #[A.tmps.getD 11 undef, A.tmps.getD 13 undef]) (by simp [go_sem, Act.eval]) ?_
      refine (mulZ_any _ _ _ _ _ t11 t13 (by have := HP.out; omega) (by have := HQ.out; rw [Int.natAbs_natCast]; omega)).mono ?_
      rintro e w1 ⟨r, rfl, hr, hg1⟩
      exact ⟨r, rfl, hg1, hr⟩
    · have t9 : ZIs W (A.tmps.getD 9 undef) (q.num * p.den) := hdep 4 _ 9 rfl (by kernel_rfl) rfl
      have t14 : ZIs W (A.tmps.getD 14 undef) (p.num * q.den) := hdep 9 _ 14 rfl (by kernel_rfl) rfl
      refine par_call (w' := W) (f := 34) (xs := #[A.tmps.getD 9 undef, A.tmps.getD 14 undef]) (by simp [go_sem, Act.eval]) ?_
      have l1 := limbs_mulZ q.num p.den
      have l2 := limbs_mulZ p.num q.den
      rw [Int.natAbs_natCast] at l1 l2
      have := HP.out
      have := HQ.out
      refine (zCmp_any _ _ _ _ _ t9 t14 (by omega) (by omega)).mono ?_
      rintro e w1 ⟨rfl, hg1⟩
      exact ⟨_, rfl, hg1, by rw [cmpR_num]; rfl⟩
    · have t15 : A.tmps.getD 15 undef = .int .i64 (cmpR q p) := hdep 10 _ 15 rfl (by kernel_rfl) rfl
      refine par_value (v := .int .i64 (cmpR q p)) (w' := W) ?_ ⟨Own.refl _ _, rfl⟩
      simp [go_sem, Act.eval, t15]
  · intro vs W hg hs
    have t4 : vs 4 = .int .i64 (cmpR q p) := hs 11 _ 4 rfl rfl
    have hgo := HG.out.call HG.out.size hg
    simp only [putAll, List.foldl_cons, List.foldl_nil, Act.put, List.setIfInBounds_toArray, List.set_cons_succ, List.set_cons_zero, t4]
    go_wp2_with fail
    go_ret
    exact ⟨rfl, hgo⟩
end Go.Proofs.Ytnojfiokdhcbjaa
namespace Go.Proofs.Ytnojfiokdhcbjaa
open Go Go.RowKit
def PJ2 (ops : List Oper) (W : (Nat → Bool) → Act → World → Prop) (S : Nat → Value → World → Prop) (a0 : Act) (listed : Array Bool) (a : Act) (w : World) : Prop :=
  listed.size = ops.length ∧ W (fun j => listed.getD j false) a w ∧ a.defers = a0.defers ∧ a.tmps.size = a0.tmps.size ∧
    (∀ t, (∀ j o, ops[j]? = some o → listed.getD j false = true → o.dst ≠ some t) → a.tmps[t]? = a0.tmps[t]?) ∧
    (∀ j o d, ops[j]? = some o → listed.getD j false = true → o.dst = some d → S j (a.tmps.getD d undef) w) ∧
    (∀ j o, ops[j]? = some o → listed.getD j false = true → ∀ e ∈ o.after, Region.binds .any e = true → listed.getD e.on false = true)
theorem par_any2 {P : Program} {ops : List Oper} {m : Nat} {a0 : Act} {Q : Exit → Act → World → Prop} (hp : parB m ops = true) (hm : a0.tmps.size = m)
    (W : (Nat → Bool) → Act → World → Prop) (S : Nat → Value → World → Prop)
    (hW : ∀ f g a w, (∀ j, j < ops.length → f j = g j) → W f a w → W g a w)
    (hstep : ∀ i o f a w, ops[i]? = some o → W f a w → f i = false → (∀ e ∈ o.after, Region.binds .any e = true → f e.on = true) →
      (∀ j p d, ops[j]? = some p → f j = true → p.dst = some d → S j (a.tmps.getD d undef) w) →
      (∀ j p, ops[j]? = some p → f j = true → ∀ e ∈ p.after, Region.binds .any e = true → f e.on = true) →
      (∀ t, (∀ p ∈ ops, p.dst ≠ some t) → a.tmps.getD t undef = a0.tmps.getD t undef) →
      a.tmps.size = a0.tmps.size →
      ParOK P o a w (fun v w' => (∀ j u, S j u w → S j u w') ∧ W (upd f i) (a.put o.dst v) w' ∧ S i v w'))
    (hend : ∀ (vs : Nat → Value) w, W (fun _ => true) (putAll ops vs a0) w → (∀ j p d, ops[j]? = some p → p.dst = some d → S j (vs d) w) → Q .normal (putAll ops vs a0) w) :
    ∀ (fuel : Nat) (listed : Array Bool) (a : Act) (w : World), listed.toList.count false ≤ fuel → PJ2 ops W S a0 listed a w → wpAny P .any ops.toArray Q fuel listed a w := by
  have fin : ∀ listed a w, PJ2 ops W S a0 listed a w → Region.ready .any ops.toArray listed = [] → Q .normal a w := by
    intro listed a w ⟨j1, j2, j3, j4, j5, j6, j7⟩ hr
    have hall := ready_nil hp j1 hr
    have e : a = putAll ops (fun t => a.tmps.getD t undef) a0 := by
      obtain ⟨p1, p2, p3⟩ := foldl_put (fun t => a.tmps.getD t undef) ops a0
      have et : a.tmps = (putAll ops (fun t => a.tmps.getD t undef) a0).tmps := by
        apply Array.ext_getElem?
        intro t
        rw [p3 t]
        by_cases hc : (∃ o ∈ ops, o.dst = some t) ∧ t < a0.tmps.size
        · rw [if_pos hc]
          have : t < a.tmps.size := by rw [j4]; exact hc.2
          simp [Array.getD_eq_getD_getElem?, Array.getElem?_eq_getElem this]
        · rw [if_neg hc]
          by_cases ht : t < a0.tmps.size
          · exact j5 t (fun j o ho _ hd => hc ⟨⟨o, List.mem_of_getElem? ho, hd⟩, ht⟩)
          · rw [Array.getElem?_eq_none (by omega), Array.getElem?_eq_none (by omega)]
      calc a = ⟨a.tmps, a.defers⟩ := rfl
        _ = ⟨(putAll ops (fun t => a.tmps.getD t undef) a0).tmps, (putAll ops (fun t => a.tmps.getD t undef) a0).defers⟩ := by rw [← et, p1, j3]
        _ = _ := rfl
    have j2' := hW _ (fun _ => true) a w (fun j hj => hall j hj) j2
    rw [e] at j2' ⊢
    refine hend _ w j2' (fun j p d hj hd => ?_)
    have hjl : j < ops.length := (List.getElem?_eq_some_iff.1 hj).1
    exact j6 j p d hj (hall j hjl) hd
  intro fuel
  induction fuel with
  | zero =>
    intro listed a w hc hJ
    have hr : Region.ready .any ops.toArray listed = [] := by
      apply List.eq_nil_iff_forall_not_mem.2
      intro i hi
      have h1 := (ready_mem hi).1
      have := count_set h1
      omega
    exact ⟨hr, fin _ _ _ hJ hr⟩
  | succ fuel ih =>
    intro listed a w hc hJ
    refine ⟨fin _ _ _ hJ, fun i hi => ?_⟩
    obtain ⟨h1, o, ho, hdep⟩ := ready_mem hi
    obtain ⟨j1, j2, j3, j4, j5, j6, j7⟩ := hJ
    obtain ⟨hg, _, hdst⟩ := par_spec hp ho
    have hil : i < listed.size := by rw [j1]; exact (List.getElem?_eq_some_iff.1 ho).1
    have hf : listed.getD i false = false := by
      simp only [Array.getD_eq_getD_getElem?, Array.getElem?_eq_getElem hil, Option.getD_some] at h1 ⊢
      exact h1
    have hfr : ∀ t, (∀ p ∈ ops, p.dst ≠ some t) → a.tmps.getD t undef = a0.tmps.getD t undef := fun t ht => by
      simp only [Array.getD_eq_getD_getElem?, j5 t (fun j o ho _ => ht o (List.mem_of_getElem? ho))]
    have hok := hstep i o _ a w ho j2 hf hdep j6 j7 hfr j4
    unfold wpOp
    have ho2 : ops.toArray[i]? = some o := by simpa using ho
    simp only [ho2]
    have hw : Region.wanted o (yielded ops.toArray a.tmps) = true := by simp [Region.wanted, hg]
    rw [if_pos hw]
    refine .inl (oper_wp_of hok ?_)
    intro v w' ⟨hmono, hW', hS'⟩
    have hget : ∀ j, (listed.setIfInBounds i true).getD j false = upd (fun j => listed.getD j false) i j := fun j => by
      unfold upd
      simp only [Array.getD_eq_getD_getElem?, Array.getElem?_setIfInBounds]
      by_cases hij : i = j
      · subst hij; simp [hil]
      · rw [if_neg hij, if_neg (Ne.symm hij)]
    refine ih _ _ _ (by have := count_set h1; omega) ⟨by simp [j1], ?_, ?_, ?_, ?_, ?_, ?_⟩
    · exact hW _ _ _ w' (fun j _ => (hget j).symm) hW'
    · cases hd : o.dst <;> simp [Act.put, j3]
    · cases hd : o.dst <;> simp [Act.put, j4]
    · intro t ht
      cases hd : o.dst with
      | none => exact j5 t (fun j p hj hl => ht j p hj (by rw [hget]; unfold upd; split <;> first | rfl | exact hl))
      | some d =>
        have hne : d ≠ t := by
          rintro rfl
          exact ht i o ho (by rw [hget]; simp [upd]) hd
        simp only [Act.put, Array.getElem?_setIfInBounds, if_neg hne]
        exact j5 t (fun j p hj hl => ht j p hj (by rw [hget]; unfold upd; split <;> first | rfl | exact hl))
    · intro j p d hj hl hd
      by_cases hij : j = i
      · subst hij
        rw [ho] at hj
        cases hj
        have hdm := (hdst d hd).1
        simp only [hd, Act.put, Array.getD_eq_getD_getElem?, Array.getElem?_setIfInBounds, if_pos, j4, hm, hdm, Option.getD_some]
        exact hS'
      · have hl2 : listed.getD j false = true := by rw [hget] at hl; unfold upd at hl; rwa [if_neg hij] at hl
        have h3 := hmono _ _ (j6 j p d hj hl2 hd)
        cases hd2 : o.dst with
        | none => exact h3
        | some d2 =>
          have hne : d2 ≠ d := by
            rintro rfl
            exact hij ((hdst d2 hd2).2 j p hj hd)
          simp only [Act.put, Array.getD_eq_getD_getElem?, Array.getElem?_setIfInBounds, if_neg hne]
          simpa [Array.getD_eq_getD_getElem?] using h3
    · intro j p hj hl e he hb
      rw [hget]
      unfold upd
      split
      · rfl
      · by_cases hij : j = i
        · subst hij
          rw [ho] at hj
          cases hj
          exact hdep e he hb
        · have hl2 : listed.getD j false = true := by rw [hget] at hl; unfold upd at hl; rwa [if_neg hij] at hl
          exact j7 j p hj hl2 e he hb
theorem region_act {P : Program} {id : Nat} {ops : List Oper} {m : Nat} {a0 : Act} {w0 : World} {Q : Exit → Act → World → Prop} (hx : P.follows .mixedOrders = true) (hp : parB m ops = true) (hm : a0.tmps.size = m)
    (W : (Nat → Bool) → Act → World → Prop) (S : Nat → Value → World → Prop)
    (hW : ∀ f g a w, (∀ j, j < ops.length → f j = g j) → W f a w → W g a w) (h0 : W (fun _ => false) a0 w0.drew)
    (hstep : ∀ i o f a w, ops[i]? = some o → W f a w → f i = false → (∀ e ∈ o.after, Region.binds .any e = true → f e.on = true) →
      (∀ j p d, ops[j]? = some p → f j = true → p.dst = some d → S j (a.tmps.getD d undef) w) →
      (∀ j p, ops[j]? = some p → f j = true → ∀ e ∈ p.after, Region.binds .any e = true → f e.on = true) →
      (∀ t, (∀ p ∈ ops, p.dst ≠ some t) → a.tmps.getD t undef = a0.tmps.getD t undef) →
      a.tmps.size = a0.tmps.size →
      ParOK P o a w (fun v w' => (∀ j u, S j u w → S j u w') ∧ W (upd f i) (a.put o.dst v) w' ∧ S i v w'))
    (hend : ∀ (vs : Nat → Value) w, W (fun _ => true) (putAll ops vs a0) w → (∀ j p d, ops[j]? = some p → p.dst = some d → S j (vs d) w) → Q .normal (putAll ops vs a0) w) :
    (Code.region id ops.toArray true).wp P Q a0 w0 := by
  refine wp_region_any hx ?_
  refine par_any2 hp hm W S hW hstep hend _ _ _ _ (by simp) ⟨by simp, ?_, rfl, rfl, fun _ _ => rfl, ?_, ?_⟩
  · refine hW _ _ _ _ (fun j hj => ?_) h0
    simp [Array.getD_eq_getD_getElem?, hj]
  · intro j o d hj hl
    have hjl : j < ops.length := (List.getElem?_eq_some_iff.1 hj).1
    simp [Array.getD_eq_getD_getElem?, hjl] at hl
  · intro j o hj hl
    have hjl : j < ops.length := (List.getElem?_eq_some_iff.1 hj).1
    simp [Array.getD_eq_getD_getElem?, hjl] at hl
end Go.Proofs.Ytnojfiokdhcbjaa
namespace Go.Proofs.Ytnojfiokdhcbjaa
open Go Go.RowKit
theorem Pt.ok.keep {w w' : World} (k : Keep w w') : ∀ {p : Pt} {v : Value}, p.ok w v → p.ok w' v
  | .any, _, _ => trivial
  | .is _, _, h => h
  | .n _, _, h => NatIs.keep h k
  | .z _, _, h => ZIs.keep h k
  | .q _, _, h => RIs.keep h k
  | .p _ hk, _, h => hk _ _ _ k h
theorem region_mem {P : Program} {id : Nat} {ops : List Oper} {m : Nat} {a0 : Act} {w0 : World} {Q : Exit → Act → World → Prop} (hx : P.follows .mixedOrders = true) (hp : parB m ops = true) (hm : a0.tmps.size = m)
    (s : Nat → Pt) (J : (Nat → Bool) → Act → World → Prop) (hJ : ∀ f g a w, (∀ j, j < ops.length → f j = g j) → J f a w → J g a w) (h0 : J (fun _ => false) a0 w0.drew)
    (hstep : ∀ i o f a w, ops[i]? = some o → J f a w → f i = false →
      (∀ j p d, ops[j]? = some p → (o.after.any fun e => Region.binds .any e && e.on == j) = true → p.dst = some d → (s j).ok w (a.tmps.getD d undef)) →
      (∀ j, (o.after.any fun e => Region.binds .any e && e.on == j) = true → f j = true) →
      (∀ k p j, ops[k]? = some p → f k = true → (p.after.any fun e => Region.binds .any e && e.on == j) = true → f j = true) →
      (∀ t, (∀ p ∈ ops, p.dst ≠ some t) → a.tmps.getD t undef = a0.tmps.getD t undef) →
      a.tmps.size = a0.tmps.size →
      ParOK P o a w (fun v w' => Keep w w' ∧ J (upd f i) (a.put o.dst v) w' ∧ (s i).ok w' v))
    (hend : ∀ (vs : Nat → Value) w, J (fun _ => true) (putAll ops vs a0) w → (∀ j p d, ops[j]? = some p → p.dst = some d → (s j).ok w (vs d)) → Q .normal (putAll ops vs a0) w) :
    (Code.region id ops.toArray true).wp P Q a0 w0 := by
  refine region_act hx hp hm J (fun i v w => (s i).ok w v) hJ h0 ?_ hend
  intro i o f a w hi hW hf hdep hS hcl hfr hsz
  have hany : ∀ (p : Oper) j, (∀ e ∈ p.after, Region.binds .any e = true → f e.on = true) → (p.after.any fun e => Region.binds .any e && e.on == j) = true → f j = true := by
    intro p j h hj
    rw [Array.any_eq_true'] at hj
    obtain ⟨e, he, hb⟩ := hj
    simp only [Bool.and_eq_true, beq_iff_eq] at hb
    rw [← hb.2]
    exact h e he hb.1
  intro Q'
  refine Oper.wp_mono ?_ (hstep i o f a w hi hW hf (fun j p d hp hj hd => hS j p d hp (hany o j hdep hj) hd) (fun j hj => hany o j hdep hj) (fun k p j hk hfk hj => hany p j (hcl k p hk hfk) hj) hfr hsz Q')
  rintro a' w' ⟨v, rfl, hk, hj, hv⟩
  exact ⟨v, rfl, fun _ _ h => Pt.ok.keep hk h, hj, hv⟩
structure MJ (B : Nat) (w0 : World) (bx : List (TypeId × Nat × List Value)) (T : TypeId) (g i : Nat) (q : Rat) (f : Nat → Bool) (w : World) : Prop where
  b : Below B w0 w
  kept : ∀ x : TypeId × Nat × List Value, x ∈ bx → BlkC x.1 w x.2.1 x.2.2
  ne : ∀ x : TypeId × Nat × List Value, x ∈ bx → x.2.1 ≠ g
  hB : B ≤ g
  hs : B ≤ w.heap.size
  out : ∃ x y z t, BlkC T w g [x, y, z, t] ∧ (f i = true → RIs w (.agg #[x, y, z, t]) q)
section
variable {B : Nat} {w0 : World} {bx : List (TypeId × Nat × List Value)} {T : TypeId} {g i : Nat} {q : Rat} {f : Nat → Bool} {w : World}
end
end Go.Proofs.Ytnojfiokdhcbjaa
namespace Go.Proofs.Ytnojfiokdhcbjaa
open Go Go.RowKit
structure Tg where
  d : Nat
  ia : Option Nat
  st : Nat
  T : TypeId
  K : Bool → World → List Value → Prop
  kk : ∀ (c : Bool) (w w' : World) (cs : List Value), Keep w w' → K c w cs → K c w' cs
def Tg.there (t : Tg) (f : Nat → Bool) : Prop := ∀ i, t.ia = some i → f i = true
structure MM (B : Nat) (w0 wk : World) (bx : List (TypeId × Nat × List Value)) (tg : List Tg) (f : Nat → Bool) (a : Act) (w : World) : Prop where
  b : Below B w0 w
  k : Keep wk w
  hs : B ≤ w.heap.size
  kept : ∀ x : TypeId × Nat × List Value, x ∈ bx → BlkC x.1 w x.2.1 x.2.2
  at' : ∀ t : Tg, t ∈ tg → t.there f → ∃ g cs, a.tmps.getD t.d undef = .pointer (some ⟨g, 0, none⟩) ∧ B ≤ g ∧ BlkC t.T w g cs ∧ t.K (f t.st) w cs ∧ ∀ x : TypeId × Nat × List Value, x ∈ bx → x.2.1 ≠ g
  ne : ∀ t u : Tg, t ∈ tg → u ∈ tg → t.d ≠ u.d → t.there f → u.there f → a.tmps.getD t.d undef ≠ a.tmps.getD u.d undef
section
variable {B : Nat} {w0 wk : World} {bx : List (TypeId × Nat × List Value)} {tg : List Tg} {f : Nat → Bool} {a : Act} {w : World}
theorem put_other {o : Option Nat} {d : Nat} (v : Value) (h : o ≠ some d) : (a.put o v).tmps.getD d undef = a.tmps.getD d undef := by
  cases o with
  | none => rfl
  | some x =>
    have hx : x ≠ d := fun e => h (by rw [e])
    simp only [Act.put, Array.getD_eq_getD_getElem?, Array.getElem?_setIfInBounds, if_neg hx]
theorem put_same {d : Nat} (v : Value) (h : d < a.tmps.size) : (a.put (some d) v).tmps.getD d undef = v := by
  simp [Act.put, Array.getD_eq_getD_getElem?, h]
theorem there_upd {t : Tg} {i : Nat} (h : t.ia ≠ some i) : t.there (upd f i) ↔ t.there f := by
  unfold Tg.there upd
  constructor
  · intro g j hj
    have := g j hj
    rwa [if_neg (by rintro rfl; exact h hj)] at this
  · intro g j hj
    rw [if_neg (by rintro rfl; exact h hj)]
    exact g j hj
theorem MM.ext {g : Nat → Bool} {n : Nat} (hn : ∀ t, t ∈ tg → t.st < n ∧ ∀ i, t.ia = some i → i < n) (e : ∀ j, j < n → f j = g j) (h : MM B w0 wk bx tg f a w) : MM B w0 wk bx tg g a w := by
  have ht : ∀ t, t ∈ tg → (t.there g ↔ t.there f) := fun t ht => by
    unfold Tg.there
    constructor
    · intro k i hi; rw [e i ((hn t ht).2 i hi)]; exact k i hi
    · intro k i hi; rw [← e i ((hn t ht).2 i hi)]; exact k i hi
  refine ⟨h.b, h.k, h.hs, h.kept, fun t hm hth => ?_, fun t u h1 h2 hd c1 c2 => h.ne t u h1 h2 hd ((ht t h1).1 c1) ((ht u h2).1 c2)⟩
  rw [← e t.st (hn t hm).1]
  exact h.at' t hm ((ht t hm).1 hth)
theorem MM.gr (h : MM B w0 wk bx tg f a w) {w' : World} (hb : Below w.heap.size w w') (i : Nat) (o : Option Nat) (v : Value)
    (hc : ∀ t, t ∈ tg → o ≠ some t.d ∧ t.ia ≠ some i ∧ t.st ≠ i) : MM B w0 wk bx tg (upd f i) (a.put o v) w' := by
  have hg := grown_of_below hb none
  refine ⟨h.b.trans (hb.mono h.hs), h.k.trans (keep_grown hg), Nat.le_trans h.hs hb.size, fun x hx => (h.kept x hx).still hg, fun t hm hth => ?_, fun t u h1 h2 hd c1 c2 => ?_⟩
  · obtain ⟨c1, c2, c3⟩ := hc t hm
    obtain ⟨g, cs, k1, k2, k3, k4, k5⟩ := h.at' t hm ((there_upd c2).1 hth)
    refine ⟨g, cs, by rw [put_other v c1]; exact k1, k2, k3.still hg, ?_, k5⟩
    have e : upd f i t.st = f t.st := by unfold upd; rw [if_neg c3]
    rw [e]
    exact t.kk _ _ _ _ (keep_grown hg) k4
  · obtain ⟨d1, d2, d3⟩ := hc t h1
    obtain ⟨e1, e2, e3⟩ := hc u h2
    rw [put_other v d1, put_other v e1]
    exact h.ne t u h1 h2 hd ((there_upd d2).1 c1) ((there_upd e2).1 c2)
theorem MM.same (h : MM B w0 wk bx tg f a w) (i : Nat) (o : Option Nat) (v : Value)
    (hc : ∀ t, t ∈ tg → o ≠ some t.d ∧ t.ia ≠ some i ∧ t.st ≠ i) : MM B w0 wk bx tg (upd f i) (a.put o v) w :=
  h.gr (Below.refl _ _) i o v hc
theorem MM.new (h : MM B w0 wk bx tg f a w) {t0 : Tg} {cs : List Value} (i : Nat) (hm0 : t0 ∈ tg) (hi : t0.ia = some i) (hsz : t0.d < a.tmps.size) (hst : f t0.st = false) (hne : t0.st ≠ i)
    (hc : ∀ t, t ∈ tg → t = t0 ∨ (t0.d ≠ t.d ∧ t.ia ≠ some i ∧ t.st ≠ i)) (hk0 : t0.K false (w.alloc (.cells cs.toArray t0.T)) cs) :
    MM B w0 wk bx tg (upd f i) (a.put (some t0.d) (.pointer (some ⟨w.heap.size, 0, none⟩))) (w.alloc (.cells cs.toArray t0.T)) := by
  have hb : Below w.heap.size w (w.alloc (.cells cs.toArray t0.T)) := (Below.refl _ _).alloc (Nat.le_refl _) _
  have hg := grown_of_below hb none
  have old : ∀ t, t ∈ tg → t ≠ t0 → t.there (upd f i) → ∃ g cs', (a.put (some t0.d) (.pointer (some ⟨w.heap.size, 0, none⟩))).tmps.getD t.d undef = .pointer (some ⟨g, 0, none⟩) ∧ g < w.heap.size ∧ B ≤ g ∧ BlkC t.T (w.alloc (.cells cs.toArray t0.T)) g cs' ∧ t.K (upd f i t.st) (w.alloc (.cells cs.toArray t0.T)) cs' ∧ ∀ x : TypeId × Nat × List Value, x ∈ bx → x.2.1 ≠ g := fun t hm hne' hth => by
    obtain ⟨c1, c2, c3⟩ := (hc t hm).resolve_left hne'
    obtain ⟨g, cs', k1, k2, k3, k4, k5⟩ := h.at' t hm ((there_upd c2).1 hth)
    refine ⟨g, cs', by rw [put_other _ (by simpa using c1)]; exact k1, k3.lt, k2, k3.still hg, ?_, k5⟩
    have e : upd f i t.st = f t.st := by unfold upd; rw [if_neg c3]
    rw [e]
    exact t.kk _ _ _ _ (keep_grown hg) k4
  refine ⟨h.b.trans (hb.mono h.hs), h.k.trans (keep_grown hg), Nat.le_trans h.hs hb.size, fun x hx => (h.kept x hx).still hg, fun t hm hth => ?_, fun t u h1 h2 hd c1 c2 => ?_⟩
  · rcases Classical.em (t = t0) with rfl | hn
    · refine ⟨w.heap.size, cs, put_same _ hsz, h.hs, BlkC.new _ _ _, ?_, fun x hx => Nat.ne_of_lt (h.kept x hx).lt⟩
      have e : upd f i t.st = false := by unfold upd; rw [if_neg hne]; exact hst
      rw [e]
      exact hk0
    · obtain ⟨g, cs', k1, _, k2, k3, k4, k5⟩ := old t hm hn hth
      exact ⟨g, cs', k1, k2, k3, k4, k5⟩
  · rcases Classical.em (t = t0) with e1 | n1 <;> rcases Classical.em (u = t0) with e2 | n2
    · exact absurd (e1.trans e2.symm ▸ rfl) hd
    · subst e1
      obtain ⟨g, cs', k1, k2, _⟩ := old u h2 n2 c2
      rw [put_same _ hsz, k1]
      intro e
      injection e with e
      injection e with e
      injection e with e
      omega
    · subst e2
      obtain ⟨g, cs', k1, k2, _⟩ := old t h1 n1 c1
      rw [put_same _ hsz, k1]
      intro e
      injection e with e
      injection e with e
      injection e with e
      omega
    · obtain ⟨d1, d2, d3⟩ := (hc t h1).resolve_left n1
      obtain ⟨e1, e2, e3⟩ := (hc u h2).resolve_left n2
      rw [put_other _ (by simpa using d1), put_other _ (by simpa using e1)]
      exact h.ne t u h1 h2 hd ((there_upd d2).1 c1) ((there_upd e2).1 c2)
theorem MM.ahead (h : MM B w0 wk bx tg f a w) {t0 : Tg} (hm0 : t0 ∈ tg) (hth : t0.there f) (hf : f t0.st = false) : ∃ g cs, a.tmps.getD t0.d undef = .pointer (some ⟨g, 0, none⟩) ∧ BlkC t0.T w g cs ∧ t0.K false w cs := by
  obtain ⟨g, cs, k1, k2, k3, k4, k5⟩ := h.at' t0 hm0 hth
  rw [hf] at k4
  exact ⟨g, cs, k1, k3, k4⟩
theorem MM.put (h : MM B w0 wk bx tg f a w) {t0 : Tg} {w' : World} {g : Nat} {cs : List Value} (i : Nat) (v : Value) (hm0 : t0 ∈ tg) (hth : t0.there f) (hi : t0.st = i) (hp : a.tmps.getD t0.d undef = .pointer (some ⟨g, 0, none⟩))
    (hgr : w.grownBy w' (some g)) (hk : Keep w w') (hB : BlkC t0.T w' g cs) (hK1 : t0.K true w' cs)
    (hc : ∀ t, t ∈ tg → t = t0 ∨ (t.d ≠ t0.d ∧ t.st ≠ i)) (hia : ∀ t, t ∈ tg → t.ia ≠ some i) : MM B w0 wk bx tg (upd f i) (a.put none v) w' := by
  obtain ⟨g0, cs0, k1, k2, k3, k4, k5⟩ := h.at' t0 hm0 hth
  have eg : g0 = g := by
    rw [hp] at k1
    injection k1 with e
    injection e with e
    injection e with e
    exact e.symm
  subst eg
  refine ⟨h.b.grown hgr h.hs (fun q hq => by cases hq; exact k2), h.k.trans hk, Nat.le_trans h.hs hgr.size, fun x hx => (h.kept x hx).grown hgr (fun e => k5 x hx (Option.some.inj e)), fun t hm ht => ?_, fun t u h1 h2 hd c1 c2 => h.ne t u h1 h2 hd ((there_upd (hia t h1)).1 c1) ((there_upd (hia u h2)).1 c2)⟩
  rcases Classical.em (t = t0) with rfl | hn
  · refine ⟨g0, cs, hp, k2, hB, ?_, k5⟩
    have e : upd f i t.st = true := by unfold upd; rw [if_pos hi]
    rw [e]
    exact hK1
  · obtain ⟨c1, c2⟩ := (hc t hm).resolve_left hn
    have ht' := (there_upd (hia t hm)).1 ht
    obtain ⟨g1, cs1, j1, j2, j3, j4, j5⟩ := h.at' t hm ht'
    have hne := h.ne t t0 hm hm0 c1 ht' hth
    rw [j1, hp] at hne
    refine ⟨g1, cs1, j1, j2, j3.grown hgr (fun e => hne (by cases e; rfl)), ?_, j5⟩
    have e : upd f i t.st = f t.st := by unfold upd; rw [if_neg c2]
    rw [e]
    exact t.kk _ _ _ _ hk j4
end
theorem par_skip {P : Program} {o : Oper} {a : Act} {w w' : World} {K : Value → World → Prop} (h : (execOp a.eval o).run P w = .ok .skip w') (k : K undef w') : ParOK P o a w K := by
  intro Q
  unfold Oper.wp
  rw [h, Oper.upon_skip]
  exact ⟨undef, rfl, k⟩
section
variable {T : TypeId} {w : World} {g : Nat} {x y z t c0 c1 c2 c3 : Value}
theorem set1_all (h : BlkC T w g [x]) (hT : T ≠ 126) (c0 : Value) : w.grownBy (w.setCell ⟨g, 0, none⟩ c0) (some g) ∧ Keep w (w.setCell ⟨g, 0, none⟩ c0) ∧ BlkC T (w.setCell ⟨g, 0, none⟩ c0) g [c0] :=
  ⟨grown_setCell _ _ _, keep_set h hT _, h.set 0 c0⟩
theorem set2_all (h : BlkC T w g [x, y]) (hT : T ≠ 126) (c0 c1 : Value) : w.grownBy ((w.setCell ⟨g, 0, none⟩ c0).setCell ⟨g, 1, none⟩ c1) (some g) ∧ Keep w ((w.setCell ⟨g, 0, none⟩ c0).setCell ⟨g, 1, none⟩ c1) ∧ BlkC T ((w.setCell ⟨g, 0, none⟩ c0).setCell ⟨g, 1, none⟩ c1) g [c0, c1] := by
  have h1 := h.set 0 c0
  exact ⟨grown_trans (grown_setCell _ _ _) (grown_setCell _ _ _), (keep_set h hT _).trans (keep_set h1 hT _), h1.set 1 c1⟩
theorem set4_all (h : BlkC T w g [x, y, z, t]) (hT : T ≠ 126) (c0 c1 c2 c3 : Value) : w.grownBy ((((w.setCell ⟨g, 0, none⟩ c0).setCell ⟨g, 1, none⟩ c1).setCell ⟨g, 2, none⟩ c2).setCell ⟨g, 3, none⟩ c3) (some g) ∧ Keep w ((((w.setCell ⟨g, 0, none⟩ c0).setCell ⟨g, 1, none⟩ c1).setCell ⟨g, 2, none⟩ c2).setCell ⟨g, 3, none⟩ c3) ∧ BlkC T ((((w.setCell ⟨g, 0, none⟩ c0).setCell ⟨g, 1, none⟩ c1).setCell ⟨g, 2, none⟩ c2).setCell ⟨g, 3, none⟩ c3) g [c0, c1, c2, c3] := by
  have h1 := h.set 0 c0
  have h2 := h1.set 1 c1
  have h3 := h2.set 2 c2
  exact ⟨grown_trans (grown_trans (grown_setCell _ _ _) (grown_setCell _ _ _)) (grown_trans (grown_setCell _ _ _) (grown_setCell _ _ _)), ((keep_set h hT _).trans (keep_set h1 hT _)).trans ((keep_set h2 hT _).trans (keep_set h3 hT _)), h3.set 3 c3⟩
theorem keep_alloc (w : World) (o : Obj) : Keep w (w.alloc o) := keep_grown (grown_alloc _ _ none)
end
def KZ (old : Option Int) (q : Int) : Bool → World → List Value → Prop
  | false, w, cs => (∃ x y, cs = [x, y]) ∧ ∀ p, old = some p → ZC w cs p
  | true, w, cs => ZC w cs q
def KN (q : Nat) : Bool → World → List Value → Prop
  | false, _, cs => ∃ x, cs = [x]
  | true, w, cs => NatIs w (.agg cs.toArray) q
def KR (q : Rat) : Bool → World → List Value → Prop
  | false, _, cs => ∃ x y z t, cs = [x, y, z, t]
  | true, w, cs => RC w cs q
abbrev tgZ (d : Nat) (ia : Option Nat) (st : Nat) (old : Option Int) (q : Int) : Tg := ⟨d, ia, st, 28, KZ old q, fun c _ _ _ k h => by
  cases c with
  | false => exact ⟨h.1, fun p e => (h.2 p e).keep k⟩
  | true => exact ZC.keep h k⟩
abbrev tgN (d : Nat) (ia : Option Nat) (st : Nat) (q : Nat) : Tg := ⟨d, ia, st, 26, KN q, fun c _ _ _ k h => by
  cases c with
  | false => exact h
  | true => exact NatIs.keep h k⟩
abbrev tgR (d : Nat) (ia : Option Nat) (st : Nat) (q : Rat) : Tg := ⟨d, ia, st, 30, KR q, fun c _ _ _ k h => by
  cases c with
  | false => exact h
  | true => exact RC.keep h k⟩
theorem zc_of {w : World} {c0 c1 : Value} {q : Int} (h : ZIs w (.agg #[c0, c1]) q) : ZC w [c0, c1] q := by
  obtain ⟨cs, e, h⟩ := h
  simp only [Value.agg.injEq] at e
  have f := congrArg Array.toList e
  simp only at f
  rw [f]
  exact h
theorem rc_of {w : World} {c0 c1 c2 c3 : Value} {q : Rat} (h : RIs w (.agg #[c0, c1, c2, c3]) q) : RC w [c0, c1, c2, c3] q := by
  obtain ⟨cs, e, h⟩ := h
  simp only [Value.agg.injEq] at e
  have f := congrArg Array.toList e
  simp only at f
  rw [f]
  exact h
theorem zc_parts {w : World} {cs : List Value} {q : Int} (h : ZC w cs q) : ∃ (a : Option Addr) (n : Nat) (b : Bool), cs = [.slice a n n, .bool b] := by
  obtain ⟨a, rfl, _⟩ := h
  exact ⟨a, _, _, rfl⟩
theorem rc_parts {w : World} {cs : List Value} {q : Rat} (h : RC w cs q) : ∃ (a : Option Addr) (n : Nat) (b : Bool) (c : Option Addr) (m : Nat) (d : Bool), cs = [.slice a n n, .bool b, .slice c m m, .bool d] := by
  obtain ⟨c1, c2, D, rfl, ⟨a, rfl, _⟩, ⟨c, rfl, _⟩, _⟩ := h
  exact ⟨a, _, _, c, _, _, rfl⟩
theorem nat_cs {w : World} {cs : List Value} {q : Nat} (h : NatIs w (.agg cs.toArray) q) : ∃ (a : Option Addr) (n : Nat), cs = [.slice a n n] := by
  obtain ⟨a, e, _⟩ := h
  simp only [Value.agg.injEq] at e
  have f := congrArg Array.toList e
  simp only at f
  exact ⟨a, _, f⟩
def T3 (q : Int) (w : World) (v : Value) : Prop := ∃ a b c, v = .tuple #[a, b, c] ∧ ZIs w a q
theorem T3.keep {q : Int} (w w' : World) (v : Value) (k : Keep w w') : T3 q w v → T3 q w' v := by
  rintro ⟨a, b, c, rfl, h⟩
  exact ⟨a, b, c, rfl, h.keep k⟩
theorem nat_parts {w : World} {v : Value} {q : Nat} (h : NatIs w v q) : ∃ (a : Option Addr) (n : Nat), v = .agg #[.slice a n n] := by
  obtain ⟨a, rfl, _⟩ := h
  exact ⟨a, _, rfl⟩
end Go.Proofs.Ytnojfiokdhcbjaa
