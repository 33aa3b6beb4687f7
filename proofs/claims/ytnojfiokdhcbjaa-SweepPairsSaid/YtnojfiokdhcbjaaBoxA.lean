/-
  Boxes in memory; Pairs' comparisons; slices.SortStableFunc by left sides. (Printed by gen_box.py.)
-/
import Derived.Test.YtnojfiokdhcbjaaGLst
import Derived.Test.YtnojfiokdhcbjaaSrtD
import Derived.Test.YtnojfiokdhcbjaaPairs
namespace Go.Proofs.Ytnojfiokdhcbjaa
open Go Go.RowKit Go.Lib Go.Sort Go.Shelf

/-- A quotient's cells. -/
structure RV where
  a : Option Addr
  n : Nat
  b : Bool
  c : Option Addr
  m : Nat
  d : Bool
def RV.zero : RV := ⟨none, 0, false, none, 0, false⟩
def RV.cells (v : RV) : List Value := [.slice v.a v.n v.n, .bool v.b, .slice v.c v.m v.m, .bool v.d]
def RV.ok (w : World) (v : RV) (q : Rat) : Prop := RIs w (.agg #[.slice v.a v.n v.n, .bool v.b, .slice v.c v.m v.m, .bool v.d]) q ∧ rlen q ≤ 300000
theorem RV.ok.keep {w w' : World} {v : RV} {q : Rat} (h : v.ok w q) (k : Keep w w') : v.ok w' q := ⟨h.1.keep k, h.2⟩
theorem RV.ok.of {w : World} {u : Value} {q : Rat} (h : RIs w u q) (hq : rlen q ≤ 300000) : ∃ v : RV, u = .agg #[.slice v.a v.n v.n, .bool v.b, .slice v.c v.m v.m, .bool v.d] ∧ v.ok w q := by
  obtain ⟨a, n, b, c, m, d, rfl⟩ := h.parts
  exact ⟨⟨a, n, b, c, m, d⟩, rfl, h, hq⟩
theorem rlen_zero : rlen 0 ≤ 300000 := by
  have h1 : (limbs (0 : Rat).num.natAbs).length = 0 := by rw [show (0 : Rat).num.natAbs = 0 from rfl, limbs_zero]; rfl
  have h2 : (limbs (0 : Rat).den).length ≤ 1 := by rw [limbs_len]; decide
  unfold rlen
  omega
theorem RV.zero_ok (w : World) : RV.zero.ok w 0 := ⟨ris_zero w, rlen_zero⟩

/-- A box's cells. -/
structure BV where
  l : RV
  r : RV
  b : RV
  t : RV
  i : Nat
  s : Bool
def BV.cells (v : BV) : List Value := [.slice v.l.a v.l.n v.l.n, .bool v.l.b, .slice v.l.c v.l.m v.l.m, .bool v.l.d, .slice v.r.a v.r.n v.r.n, .bool v.r.b, .slice v.r.c v.r.m v.r.m, .bool v.r.d, .slice v.b.a v.b.n v.b.n, .bool v.b.b, .slice v.b.c v.b.m v.b.m, .bool v.b.d, .slice v.t.a v.t.n v.t.n, .bool v.t.b, .slice v.t.c v.t.m v.t.m, .bool v.t.d, .int .i64 (v.i : Int), .bool v.s]
def BV.ok (w : World) (v : BV) (x : Bx) : Prop := v.l.ok w x.l ∧ v.r.ok w x.r ∧ v.b.ok w x.b ∧ v.t.ok w x.t ∧ v.i = x.i ∧ v.s = x.s
theorem BV.ok.keep {w w' : World} {v : BV} {x : Bx} (h : v.ok w x) (k : Keep w w') : v.ok w' x :=
  ⟨h.1.keep k, h.2.1.keep k, h.2.2.1.keep k, h.2.2.2.1.keep k, h.2.2.2.2⟩
/-- A box in memory and what it stands for. -/
structure SB (w : World) where
  v : BV
  x : Bx
  ok : v.ok w x
instance (w : World) : Inhabited (SB w) := ⟨⟨⟨.zero, .zero, .zero, .zero, 0, false⟩, ⟨0, 0, 0, 0, 0, false⟩, RV.zero_ok w, RV.zero_ok w, RV.zero_ok w, RV.zero_ok w, rfl, rfl⟩⟩
def SB.enc {w : World} (y : SB w) : List Value := y.v.cells
theorem SB.len {w : World} (y : SB w) : y.enc.length = 18 := rfl
theorem SB.one {w : World} (y : SB w) : ∀ u ∈ y.enc, u.oneCell' = true := by
  intro u hu
  unfold SB.enc BV.cells at hu
  simp only [List.mem_cons, List.not_mem_nil, or_false] at hu
  rcases hu with rfl | rfl | rfl | rfl | rfl | rfl | rfl | rfl | rfl | rfl | rfl | rfl | rfl | rfl | rfl | rfl | rfl | rfl <;> rfl

/-- What a call's own work leaves, as the sort wants it. -/
theorem own_grow {w w' : World} (h : Own w.heap.size w w') : ∃ q os, w' = grow (w.drewN q) os := by
  obtain ⟨hb, hd⟩ := h
  refine ⟨w'.drawn - w.drawn, w'.heap.extract w.heap.size w'.heap.size, ?_⟩
  have e : w'.heap = w.heap ++ w'.heap.extract w.heap.size w'.heap.size := by
    apply Array.ext_getElem?
    intro i
    rcases Nat.lt_or_ge i w.heap.size with hi | hi
    · rw [Array.getElem?_append_left hi, hb.block i hi]
    · rw [Array.getElem?_append_right hi]
      rcases Nat.lt_or_ge i w'.heap.size with hj | hj
      · rw [Array.getElem?_extract_of_lt (by omega), Array.getElem?_eq_getElem hj]
        simp only [show w.heap.size + (i - w.heap.size) = i by omega]
      · rw [Array.getElem?_eq_none (by omega), Array.getElem?_eq_none (by rw [Array.size_extract]; omega)]
  have e2 : w.drawn + (w'.drawn - w.drawn) = w'.drawn := by omega
  calc w' = ⟨w'.heap, w'.tape, w'.drawn, w'.os, w'.output⟩ := rfl
    _ = ⟨w.heap ++ w'.heap.extract w.heap.size w'.heap.size, w.tape, w.drawn + (w'.drawn - w.drawn), w.os, w.output⟩ := by rw [← e, e2, hb.tape, hb.os, hb.output]
    _ = _ := rfl

section
variable (w : World) (v u : BV)
abbrev xxW : World := (w.alloc (.cells v.cells.toArray 72)).alloc (.cells u.cells.toArray 72)
theorem xxW_1 : BlkC 72 (xxW w v u) w.heap.size v.cells := (BlkC.new _ w v.cells).still (grown_alloc _ _ none)
theorem xxW_2 : BlkC 72 (xxW w v u) (w.heap.size + 1) u.cells := blk_at (cs := u.cells) (by simp)
theorem xxW_g : Own w.heap.size w (xxW w v u) := (own_alloc _ _).alloc (by simp) _
end
theorem cmpR_lt (p q : Rat) : decide (cmpR p q < 0) = decide (p < q) := by
  unfold cmpR
  by_cases h : p < q
  · simp [h]
  · rw [if_neg h]; simp only [h, decide_false, decide_eq_false_iff_not]; split <;> omega
theorem ok_cmp {w : World} {v : RV} {q : Rat} (h : v.ok w q) : (limbs q.num.natAbs).length + (limbs q.den).length ≤ 400000 := by
  have := h.2
  unfold rlen at this
  omega

set_option maxHeartbeats 8000000 in
set_option maxRecDepth 100000 in
theorem byLeft_any (v u : BV) (x y : Bx) (w : World) (hv : v.ok w x) (hu : u.ok w y) :
    Calls Try.prog 21 #[.agg v.cells.toArray, .agg u.cells.toArray] w fun e w' => e = .returned (.int .i64 (cmpR x.l y.l)) ∧ Own w.heap.size w w' := by
  have HB1 := Lib.hid (xxW_1 w v u)
  have HB2 := Lib.hid (xxW_2 w v u)
  have HG := Lib.hid (xxW_g w v u)
  have HV := Lib.hid (hv.1.keep (Gr.keep HG.out))
  have HU := Lib.hid (hu.1.keep (Gr.keep HG.out))
  have x0 : (xxW w v u).cell? ⟨w.heap.size, 0, none⟩ = some (.slice v.l.a v.l.n v.l.n) := by rw [HB1.out.cell 0]; rfl
  have x1 : (xxW w v u).cell? ⟨w.heap.size, 1, none⟩ = some (.bool v.l.b) := by rw [HB1.out.cell 1]; rfl
  have x2 : (xxW w v u).cell? ⟨w.heap.size, 2, none⟩ = some (.slice v.l.c v.l.m v.l.m) := by rw [HB1.out.cell 2]; rfl
  have x3 : (xxW w v u).cell? ⟨w.heap.size, 3, none⟩ = some (.bool v.l.d) := by rw [HB1.out.cell 3]; rfl
  have y0 : (xxW w v u).cell? ⟨w.heap.size + 1, 0, none⟩ = some (.slice u.l.a u.l.n u.l.n) := by rw [HB2.out.cell 0]; rfl
  have y1 : (xxW w v u).cell? ⟨w.heap.size + 1, 1, none⟩ = some (.bool u.l.b) := by rw [HB2.out.cell 1]; rfl
  have y2 : (xxW w v u).cell? ⟨w.heap.size + 1, 2, none⟩ = some (.slice u.l.c u.l.m u.l.m) := by rw [HB2.out.cell 2]; rfl
  have y3 : (xxW w v u).cell? ⟨w.heap.size + 1, 3, none⟩ = some (.bool u.l.d) := by rw [HB2.out.cell 3]; rfl
  clear hv hu
  go_enter Try.func21, Try.ntmps21
  go_wp2_with fail
  refine (fcmp_any x.l y.l _ _ _ HV.out.1 HU.out.1 (ok_cmp HV.out) (ok_cmp HU.out)).mono ?_
  rintro e w1 ⟨rfl, hg1⟩
  have HG1 := Lib.hid (HG.out.call HG.out.size hg1)
  clear hg1
  go_wp2_with fail
  go_ret
  exact ⟨rfl, HG1.out⟩

set_option maxHeartbeats 8000000 in
set_option maxRecDepth 100000 in
theorem gone_any (v u : BV) (x y : Bx) (w : World) (bx : Nat) (hb : BlkC 72 w bx v.cells) (hv : v.ok w x) (hu : u.ok w y) :
    Calls Try.prog 23 #[.agg u.cells.toArray, .pointer (some ⟨bx, 0, none⟩)] w fun e w' => e = .returned (.bool (decide (y.r < x.l))) ∧ Own w.heap.size w w' := by
  have HB1 : Hid (BlkC 72 (w.alloc (.cells u.cells.toArray 72)) w.heap.size u.cells) := BlkC.new _ w u.cells
  have HG : Hid (Own w.heap.size w (w.alloc (.cells u.cells.toArray 72))) := own_alloc _ _
  have HB2 := Lib.hid (hb.still (Gr.grown HG.out))
  have HV := Lib.hid (hv.1.keep (Gr.keep HG.out))
  have HU := Lib.hid (hu.2.1.keep (Gr.keep HG.out))
  have x0 : (w.alloc (.cells u.cells.toArray 72)).cell? ⟨w.heap.size, 4, none⟩ = some (.slice u.r.a u.r.n u.r.n) := by rw [HB1.out.cell 4]; rfl
  have x1 : (w.alloc (.cells u.cells.toArray 72)).cell? ⟨w.heap.size, 5, none⟩ = some (.bool u.r.b) := by rw [HB1.out.cell 5]; rfl
  have x2 : (w.alloc (.cells u.cells.toArray 72)).cell? ⟨w.heap.size, 6, none⟩ = some (.slice u.r.c u.r.m u.r.m) := by rw [HB1.out.cell 6]; rfl
  have x3 : (w.alloc (.cells u.cells.toArray 72)).cell? ⟨w.heap.size, 7, none⟩ = some (.bool u.r.d) := by rw [HB1.out.cell 7]; rfl
  have y0 : (w.alloc (.cells u.cells.toArray 72)).cell? ⟨bx, 0, none⟩ = some (.slice v.l.a v.l.n v.l.n) := by rw [HB2.out.cell 0]; rfl
  have y1 : (w.alloc (.cells u.cells.toArray 72)).cell? ⟨bx, 1, none⟩ = some (.bool v.l.b) := by rw [HB2.out.cell 1]; rfl
  have y2 : (w.alloc (.cells u.cells.toArray 72)).cell? ⟨bx, 2, none⟩ = some (.slice v.l.c v.l.m v.l.m) := by rw [HB2.out.cell 2]; rfl
  have y3 : (w.alloc (.cells u.cells.toArray 72)).cell? ⟨bx, 3, none⟩ = some (.bool v.l.d) := by rw [HB2.out.cell 3]; rfl
  clear hv hu hb
  go_enter Try.func23, Try.ntmps23
  go_wp2_with fail
  refine (fcmp_any y.r x.l _ _ _ HU.out.1 HV.out.1 (ok_cmp HU.out) (ok_cmp HV.out)).mono ?_
  rintro e w1 ⟨rfl, hg1⟩
  have HG1 := Lib.hid (HG.out.call HG.out.size hg1)
  have hc : decide (cmpR y.r x.l < 0) = decide (y.r < x.l) := cmpR_lt _ _
  clear hg1
  go_wp2_with fail
  go_ret
  exact ⟨rfl, HG1.out⟩

theorem keep_sortWorld {w : World} {blk : Nat} (hT : ∃ cs, w.heap[blk]? = some (.cells cs 72 (0, 0))) (off m : Nat) (dk : Array (SB w)) (os : Array Obj) : Keep w (sortWorldK SB.enc 18 w blk off m dk os) := by
  intro g cs e
  obtain ⟨c0, h0⟩ := hT
  have hne : g ≠ blk := by
    rintro rfl
    rw [h0] at e
    injection e with e
    injection e with _ e
    exact absurd e (by decide)
  have hlt := (Array.getElem?_eq_some_iff.1 e).1
  show ((w.heap.modify blk _) ++ os)[g]? = _
  rw [Array.getElem?_append_left (by simpa using hlt), Array.getElem?_modify, if_neg (Ne.symm hne)]
  exact e

def byLeft {w : World} (x y : SB w) : Int := cmpR x.x.l y.x.l
theorem byLeft_lt {w : World} (x y : SB w) : ltOf byLeft x y = decide (x.x.l < y.x.l) := by
  unfold ltOf byLeft
  exact cmpR_lt _ _
theorem byLeft_swo (w : World) : SWO (ltOf (byLeft (w := w))) where
  irrefl x := by rw [byLeft_lt]; simp
  trans x y z h1 h2 := by rw [byLeft_lt] at *; simp only [decide_eq_true_eq] at *; grind
  ntrans x y z h1 h2 := by rw [byLeft_lt] at *; simp only [decide_eq_false_iff_not] at *; grind

theorem byLeft_lays (w : World) (blk off sz : Nat) (hT : ∃ cs, w.heap[blk]? = some (.cells cs 72 (0, 0))) : CmpLays Try.prog 21 #[] (SB.enc (w := w)) 18 byLeft blk off sz w := by
  intro m os dk hdk x y
  have hk := keep_sortWorld hT off m dk os
  refine (byLeft_any x.v y.v x.x y.x _ (x.ok.keep hk) (y.ok.keep hk)).mono ?_
  rintro e w' ⟨rfl, ho⟩
  exact ⟨rfl, own_grow ho⟩

theorem boxSize (w : World) : (Go.sizeOf 72).run Try.prog w = .ok 18 w := Try.sizeOf72 w

theorem sortBoxes_any (w : World) (blk off cap sz : Nat) (d : Array (SB w)) (hd : d.size = sz) (hH : HoldsK SB.enc 18 w blk off d) (hT : ∃ cs, w.heap[blk]? = some (.cells cs 72 (0, 0))) (hsz : sz < 1152921504606846976) :
    Calls Try.prog 20 #[.slice (some ⟨blk, off, none⟩) sz cap, .func (.func 21) #[] #[]] w fun e w' => e = .returned (.tuple #[]) ∧ ∃ d' : Array (SB w), d'.size = sz ∧ PermIn 0 sz d d' ∧ SortedIn (ltOf byLeft) 0 sz d' ∧ SWK SB.enc 18 w blk off d' w' := by
  have hblk : blk < w.heap.size := by
    obtain ⟨cs, h⟩ := hT
    exact (Array.getElem?_eq_some_iff.1 h).1
  exact sortStable_any 18 boxSize SB.enc byLeft (byLeft_swo w) 21 #[] blk off cap sz d w (fun args w => Try.call21 args w) (byLeft_lays w blk off sz hT) ⟨fun x => x.len, fun x => x.one, hH, hblk⟩ hd (by omega) hsz d w hd (SWK.start hH)
end Go.Proofs.Ytnojfiokdhcbjaa
