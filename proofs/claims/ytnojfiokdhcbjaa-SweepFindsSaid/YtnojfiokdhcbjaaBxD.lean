/-
  How long quotients are.
-/
import Derived.Test.YtnojfiokdhcbjaaGLst
import Derived.Test.YtnojfiokdhcbjaaSyA
import Derived.Test.YtnojfiokdhcbjaaSrtD
import Derived.Test.YtnojfiokdhcbjaaPairs
import Derived.Lib.SlKept
import Derived.Lib.SliceRun
import Derived.Shelf.SlSortCmp.WholeK
namespace Go.Proofs.Ytnojfiokdhcbjaa
open Go Go.RowKit
theorem rlen_divInt {x y : Int} {k : Nat} (hy : y ≠ 0) (h1 : (limbs x.natAbs).length ≤ k) (h2 : (limbs y.natAbs).length ≤ k) : rlen (Rat.divInt x y) ≤ k + k := by
 obtain ⟨e1, e2⟩ := low_num x y _ rfl hy
 have b1 : (Rat.divInt x y).num.natAbs ≤ x.natAbs := by
  rw [e1]
  have := Int.natAbs_ediv_le_natAbs x (Nat.gcd x.natAbs y.natAbs)
  split
  ·rw [Int.natAbs_neg]; exact this
  ·exact this
 have b2 : (Rat.divInt x y).den ≤ y.natAbs := by
  have h := congrArg Int.natAbs e2
  rw [Int.natAbs_natCast] at h
  rw [h]
  have := Int.natAbs_ediv_le_natAbs y (Nat.gcd x.natAbs y.natAbs)
  split
  ·rw [Int.natAbs_neg]; exact this
  ·exact this
 have := limbs_mono b1
 have := limbs_mono b2
 unfold rlen
 omega
theorem rlen_add (q p : Rat) : rlen (q + p) ≤ 2 * (rlen q + rlen p) + 2 := by
 rw [← add_frac]
 have h1 := limbs_mulZ q.num p.den
 have h2 := limbs_mulZ p.num q.den
 have h3 := limbs_mulZ q.den p.den
 simp only [Int.natAbs_natCast] at h1 h2 h3
 have h4 := limbs_addZ (x := q.num * p.den) (y := p.num * q.den) (k := rlen q + rlen p) (by unfold rlen; omega) (by unfold rlen; omega)
 have := rlen_divInt (Int.mul_ne_zero (den_ne q) (den_ne p)) h4 (by unfold rlen; omega)
 omega
theorem rlen_neg (p : Rat) : rlen (-p) = rlen p := by unfold rlen; rw [Rat.neg_num, Int.natAbs_neg, Rat.neg_den]
theorem rlen_sub (q p : Rat) : rlen (q - p) ≤ 2 * (rlen q + rlen p) + 2 := by
 rw [Rat.sub_eq_add_neg]
 have := rlen_add q (-p)
 rwa [rlen_neg] at this
theorem rl_divInt {x y : Int} {k : Nat} (hy : y ≠ 0) (h1 : (limbs x.natAbs).length ≤ k) (h2 : (limbs y.natAbs).length ≤ k) : rl (Rat.divInt x y) ≤ k := by
 obtain ⟨e1, e2⟩ := low_num x y _ rfl hy
 have b1 : (Rat.divInt x y).num.natAbs ≤ x.natAbs := by
  rw [e1]
  have := Int.natAbs_ediv_le_natAbs x (Nat.gcd x.natAbs y.natAbs)
  split
  ·rw [Int.natAbs_neg]; exact this
  ·exact this
 have b2 : (Rat.divInt x y).den ≤ y.natAbs := by
  have h := congrArg Int.natAbs e2
  rw [Int.natAbs_natCast] at h
  rw [h]
  have := Int.natAbs_ediv_le_natAbs y (Nat.gcd x.natAbs y.natAbs)
  split
  ·rw [Int.natAbs_neg]; exact this
  ·exact this
 have := limbs_mono b1
 have := limbs_mono b2
 unfold rl
 omega
theorem rl_mul (q p : Rat) : rl (q * p) ≤ rl q + rl p := by
 have h1 := limbs_mulZ q.num p.num
 have h2 := limbs_mulZ (q.den : Int) (p.den : Int)
 simp only [Int.natAbs_natCast] at h2
 have e : q * p = Rat.divInt (q.num * p.num) ((q.den : Int) * (p.den : Int)) := (mul_frac q p).symm
 rw [e]
 exact rl_divInt (Int.mul_ne_zero (den_ne q) (den_ne p)) (by unfold rl; omega) (by unfold rl; omega)
theorem rl_div (q p : Rat) (hp : p ≠ 0) : rl (q / p) ≤ rl q + rl p := by
 rw [← div_frac]
 have h1 := limbs_mulZ q.num (p.den : Int)
 have h2 := limbs_mulZ (q.den : Int) p.num
 simp only [Int.natAbs_natCast] at h1 h2
 exact rl_divInt (Int.mul_ne_zero (den_ne q) (fun e => hp (Rat.num_eq_zero.1 e))) (by unfold rl; omega) (by unfold rl; omega)
theorem rl_add (q p : Rat) : rl (q + p) ≤ rl q + rl p + 1 := by
 rw [← add_frac]
 have h1 := limbs_mulZ q.num p.den
 have h2 := limbs_mulZ p.num q.den
 have h3 := limbs_mulZ q.den p.den
 simp only [Int.natAbs_natCast] at h1 h2 h3
 have h4 := limbs_addZ (x := q.num * p.den) (y := p.num * q.den) (k := rl q + rl p) (by unfold rl; omega) (by unfold rl; omega)
 exact rl_divInt (Int.mul_ne_zero (den_ne q) (den_ne p)) h4 (by unfold rl; omega)
theorem rl_neg (p : Rat) : rl (-p) = rl p := by unfold rl; rw [Rat.neg_num, Int.natAbs_neg, Rat.neg_den]
theorem rl_sub (q p : Rat) : rl (q - p) ≤ rl q + rl p + 1 := by
 rw [Rat.sub_eq_add_neg]
 have := rl_add q (-p)
 rwa [rl_neg] at this
theorem rl_len {x : Rat} {s : Nat} (h : rl x ≤ s) : rlen x ≤ 2 * s := by unfold rl at h; unfold rlen; omega
end Go.Proofs.Ytnojfiokdhcbjaa
namespace Go.Proofs.Ytnojfiokdhcbjaa
open Go Go.RowKit Go.Lib Go.Sort Go.Shelf
structure RV where
 a : Option Addr
 n : Nat
 b : Bool
 c : Option Addr
 m : Nat
 d : Bool
def RV.zero : RV := ⟨none, 0, false, none, 0, false⟩
def RV.cells (v : RV) : List Value := [.slice v.a v.n v.n, .bool v.b, .slice v.c v.m v.m, .bool v.d]
def RV.ok (w : World) (v : RV) (q : Rat) : Prop := RIs w (.agg #[.slice v.a v.n v.n, .bool v.b, .slice v.c v.m v.m, .bool v.d]) q ∧ rlen q ≤ 300000
theorem RV.ok.keep {w w' : World} {v : RV} {q : Rat} (h : v.ok w q) (k : Keep w w') : v.ok w' q := ⟨h.1.keep k, h.2⟩
theorem RV.ok.of {w : World} {u : Value} {q : Rat} (h : RIs w u q) (hq : rlen q ≤ 300000) : ∃ v : RV, u = .agg #[.slice v.a v.n v.n, .bool v.b, .slice v.c v.m v.m, .bool v.d] ∧ v.ok w q := by
 obtain ⟨a, n, b, c, m, d, rfl⟩ := h.parts
 exact ⟨⟨a, n, b, c, m, d⟩, rfl, h, hq⟩
theorem rlen_zero : rlen 0 ≤ 300000 := by
 have h1 : (limbs (0 : Rat).num.natAbs).length = 0 := by rw [show (0 : Rat).num.natAbs = 0 from rfl, limbs_zero]; rfl
 have h2 : (limbs (0 : Rat).den).length ≤ 1 := by rw [limbs_len]; decide
 unfold rlen
 omega
theorem RV.zero_ok (w : World) : RV.zero.ok w 0 := ⟨ris_zero w, rlen_zero⟩
structure BV where
 l : RV
 r : RV
 b : RV
 t : RV
 i : Nat
 s : Bool
def BV.cells (v : BV) : List Value := [.slice v.l.a v.l.n v.l.n, .bool v.l.b, .slice v.l.c v.l.m v.l.m, .bool v.l.d, .slice v.r.a v.r.n v.r.n, .bool v.r.b, .slice v.r.c v.r.m v.r.m, .bool v.r.d, .slice v.b.a v.b.n v.b.n, .bool v.b.b, .slice v.b.c v.b.m v.b.m, .bool v.b.d, .slice v.t.a v.t.n v.t.n, .bool v.t.b, .slice v.t.c v.t.m v.t.m, .bool v.t.d, .int .i64 (v.i : Int), .bool v.s]
def BV.ok (w : World) (v : BV) (x : Bx) : Prop := v.l.ok w x.l ∧ v.r.ok w x.r ∧ v.b.ok w x.b ∧ v.t.ok w x.t ∧ v.i = x.i ∧ v.s = x.s
theorem BV.ok.keep {w w' : World} {v : BV} {x : Bx} (h : v.ok w x) (k : Keep w w') : v.ok w' x :=
 ⟨h.1.keep k, h.2.1.keep k, h.2.2.1.keep k, h.2.2.2.1.keep k, h.2.2.2.2⟩
structure SB (w : World) where
 v : BV
 x : Bx
 ok : v.ok w x
instance (w : World) : Inhabited (SB w) := ⟨⟨⟨.zero, .zero, .zero, .zero, 0, false⟩, ⟨0, 0, 0, 0, 0, false⟩, RV.zero_ok w, RV.zero_ok w, RV.zero_ok w, RV.zero_ok w, rfl, rfl⟩⟩
def SB.enc {w : World} (y : SB w) : List Value := y.v.cells
theorem SB.len {w : World} (y : SB w) : y.enc.length = 18 := rfl
theorem SB.one {w : World} (y : SB w) : ∀ u ∈ y.enc, u.oneCell' = true := by
 intro u hu
 unfold SB.enc BV.cells at hu
 simp only [List.mem_cons, List.not_mem_nil, or_false] at hu
 rcases hu with rfl | rfl | rfl | rfl | rfl | rfl | rfl | rfl | rfl | rfl | rfl | rfl | rfl | rfl | rfl | rfl | rfl | rfl <;> rfl
theorem own_grow {w w' : World} (h : Own w.heap.size w w') : ∃ q os, w' = grow (w.drewN q) os := by
 obtain ⟨hb, hd⟩ := h
 refine ⟨w'.drawn - w.drawn, w'.heap.extract w.heap.size w'.heap.size, ?_⟩
 have e : w'.heap = w.heap ++ w'.heap.extract w.heap.size w'.heap.size := by
  apply Array.ext_getElem?
  intro i
  rcases Nat.lt_or_ge i w.heap.size with hi | hi
  ·rw [Array.getElem?_append_left hi, hb.block i hi]
  ·rw [Array.getElem?_append_right hi]
   rcases Nat.lt_or_ge i w'.heap.size with hj | hj
   ·rw [Array.getElem?_extract_of_lt (by omega), Array.getElem?_eq_getElem hj]
    simp only [show w.heap.size + (i - w.heap.size) = i by omega]
   ·rw [Array.getElem?_eq_none (by omega), Array.getElem?_eq_none (by rw [Array.size_extract]; omega)]
 have e2 : w.drawn + (w'.drawn - w.drawn) = w'.drawn := by omega
 calc w' = ⟨w'.heap, w'.tape, w'.drawn, w'.os, w'.output⟩ := rfl
  _ = ⟨w.heap ++ w'.heap.extract w.heap.size w'.heap.size, w.tape, w.drawn + (w'.drawn - w.drawn), w.os, w.output⟩ := by rw [← e, e2, hb.tape, hb.os, hb.output]
  _ = _ := rfl
section
variable (w : World) (v u : BV)
abbrev xxW : World := (w.alloc (.cells v.cells.toArray 72)).alloc (.cells u.cells.toArray 72)
theorem xxW_1 : BlkC 72 (xxW w v u) w.heap.size v.cells := (BlkC.new _ w v.cells).still (grown_alloc _ _ none)
theorem xxW_2 : BlkC 72 (xxW w v u) (w.heap.size + 1) u.cells := blk_at (cs := u.cells) (by simp)
theorem xxW_g : Own w.heap.size w (xxW w v u) := (own_alloc _ _).alloc (by simp) _
end
theorem cmpR_lt (p q : Rat) : decide (cmpR p q < 0) = decide (p < q) := by
 unfold cmpR
 by_cases h : p < q
 ·simp [h]
 ·rw [if_neg h]; simp only [h, decide_false, decide_eq_false_iff_not]; split <;> omega
theorem ok_cmp {w : World} {v : RV} {q : Rat} (h : v.ok w q) : (limbs q.num.natAbs).length + (limbs q.den).length ≤ 400000 := by
 have := h.2
 unfold rlen at this
 omega
set_option maxHeartbeats 8000000 in
set_option maxRecDepth 100000 in
theorem byLeft_any (v u : BV) (x y : Bx) (w : World) (hv : v.ok w x) (hu : u.ok w y) :
  Calls Try.prog 21 #[.agg v.cells.toArray, .agg u.cells.toArray] w fun e w' => e = .returned (.int .i64 (cmpR x.l y.l)) ∧ Own w.heap.size w w' := by
 have HB1 := Lib.hid (xxW_1 w v u)
 have HB2 := Lib.hid (xxW_2 w v u)
 have HG := Lib.hid (xxW_g w v u)
 have HV := Lib.hid (hv.1.keep (Gr.keep HG.out))
 have HU := Lib.hid (hu.1.keep (Gr.keep HG.out))
 have x0 : (xxW w v u).cell? ⟨w.heap.size, 0, none⟩ = some (.slice v.l.a v.l.n v.l.n) := by rw [HB1.out.cell 0]; rfl
 have x1 : (xxW w v u).cell? ⟨w.heap.size, 1, none⟩ = some (.bool v.l.b) := by rw [HB1.out.cell 1]; rfl
 have x2 : (xxW w v u).cell? ⟨w.heap.size, 2, none⟩ = some (.slice v.l.c v.l.m v.l.m) := by rw [HB1.out.cell 2]; rfl
 have x3 : (xxW w v u).cell? ⟨w.heap.size, 3, none⟩ = some (.bool v.l.d) := by rw [HB1.out.cell 3]; rfl
 have y0 : (xxW w v u).cell? ⟨w.heap.size + 1, 0, none⟩ = some (.slice u.l.a u.l.n u.l.n) := by rw [HB2.out.cell 0]; rfl
 have y1 : (xxW w v u).cell? ⟨w.heap.size + 1, 1, none⟩ = some (.bool u.l.b) := by rw [HB2.out.cell 1]; rfl
 have y2 : (xxW w v u).cell? ⟨w.heap.size + 1, 2, none⟩ = some (.slice u.l.c u.l.m u.l.m) := by rw [HB2.out.cell 2]; rfl
 have y3 : (xxW w v u).cell? ⟨w.heap.size + 1, 3, none⟩ = some (.bool u.l.d) := by rw [HB2.out.cell 3]; rfl
 clear hv hu
 go_enter Try.func21, Try.ntmps21
 go_wp2_with fail
 refine (fcmp_any x.l y.l _ _ _ HV.out.1 HU.out.1 (ok_cmp HV.out) (ok_cmp HU.out)).mono ?_
 rintro e w1 ⟨rfl, hg1⟩
 have HG1 := Lib.hid (HG.out.call HG.out.size hg1)
 clear hg1
 go_wp2_with fail
 go_ret
 exact ⟨rfl, HG1.out⟩
set_option maxHeartbeats 8000000 in
set_option maxRecDepth 100000 in
theorem gone_any (v u : BV) (x y : Bx) (w : World) (bx : Nat) (hb : BlkC 72 w bx v.cells) (hv : v.ok w x) (hu : u.ok w y) :
  Calls Try.prog 23 #[.agg u.cells.toArray, .pointer (some ⟨bx, 0, none⟩)] w fun e w' => e = .returned (.bool (decide (y.r < x.l))) ∧ Own w.heap.size w w' := by
 have HB1 : Hid (BlkC 72 (w.alloc (.cells u.cells.toArray 72)) w.heap.size u.cells) := BlkC.new _ w u.cells
 have HG : Hid (Own w.heap.size w (w.alloc (.cells u.cells.toArray 72))) := own_alloc _ _
 have HB2 := Lib.hid (hb.still (Gr.grown HG.out))
 have HV := Lib.hid (hv.1.keep (Gr.keep HG.out))
 have HU := Lib.hid (hu.2.1.keep (Gr.keep HG.out))
 have x0 : (w.alloc (.cells u.cells.toArray 72)).cell? ⟨w.heap.size, 4, none⟩ = some (.slice u.r.a u.r.n u.r.n) := by rw [HB1.out.cell 4]; rfl
 have x1 : (w.alloc (.cells u.cells.toArray 72)).cell? ⟨w.heap.size, 5, none⟩ = some (.bool u.r.b) := by rw [HB1.out.cell 5]; rfl
 have x2 : (w.alloc (.cells u.cells.toArray 72)).cell? ⟨w.heap.size, 6, none⟩ = some (.slice u.r.c u.r.m u.r.m) := by rw [HB1.out.cell 6]; rfl
 have x3 : (w.alloc (.cells u.cells.toArray 72)).cell? ⟨w.heap.size, 7, none⟩ = some (.bool u.r.d) := by rw [HB1.out.cell 7]; rfl
 have y0 : (w.alloc (.cells u.cells.toArray 72)).cell? ⟨bx, 0, none⟩ = some (.slice v.l.a v.l.n v.l.n) := by rw [HB2.out.cell 0]; rfl
 have y1 : (w.alloc (.cells u.cells.toArray 72)).cell? ⟨bx, 1, none⟩ = some (.bool v.l.b) := by rw [HB2.out.cell 1]; rfl
 have y2 : (w.alloc (.cells u.cells.toArray 72)).cell? ⟨bx, 2, none⟩ = some (.slice v.l.c v.l.m v.l.m) := by rw [HB2.out.cell 2]; rfl
 have y3 : (w.alloc (.cells u.cells.toArray 72)).cell? ⟨bx, 3, none⟩ = some (.bool v.l.d) := by rw [HB2.out.cell 3]; rfl
 clear hv hu hb
 go_enter Try.func23, Try.ntmps23
 go_wp2_with fail
 refine (fcmp_any y.r x.l _ _ _ HU.out.1 HV.out.1 (ok_cmp HU.out) (ok_cmp HV.out)).mono ?_
 rintro e w1 ⟨rfl, hg1⟩
 have HG1 := Lib.hid (HG.out.call HG.out.size hg1)
 have hc : decide (cmpR y.r x.l < 0) = decide (y.r < x.l) := cmpR_lt _ _
 clear hg1
 go_wp2_with fail
 go_ret
 exact ⟨rfl, HG1.out⟩
theorem keep_sortWorld {w : World} {blk : Nat} (hT : ∃ cs, w.heap[blk]? = some (.cells cs 72 (0, 0))) (off m : Nat) (dk : Array (SB w)) (os : Array Obj) : Keep w (sortWorldK SB.enc 18 w blk off m dk os) := by
 intro g cs e
 obtain ⟨c0, h0⟩ := hT
 have hne : g ≠ blk := by
  rintro rfl
  rw [h0] at e
  injection e with e
  injection e with _ e
  exact absurd e (by decide)
 have hlt := (Array.getElem?_eq_some_iff.1 e).1
 show ((w.heap.modify blk _) ++ os)[g]? = _
 rw [Array.getElem?_append_left (by simpa using hlt), Array.getElem?_modify, if_neg (Ne.symm hne)]
 exact e
def byLeft {w : World} (x y : SB w) : Int := cmpR x.x.l y.x.l
theorem byLeft_lt {w : World} (x y : SB w) : ltOf byLeft x y = decide (x.x.l < y.x.l) := by
 unfold ltOf byLeft
 exact cmpR_lt _ _
theorem byLeft_swo (w : World) : SWO (ltOf (byLeft (w := w))) where
 irrefl x := by rw [byLeft_lt]; simp
 trans x y z h1 h2 := by rw [byLeft_lt] at *; simp only [decide_eq_true_eq] at *; grind
 ntrans x y z h1 h2 := by rw [byLeft_lt] at *; simp only [decide_eq_false_iff_not] at *; grind
theorem byLeft_lays (w : World) (blk off sz : Nat) (hT : ∃ cs, w.heap[blk]? = some (.cells cs 72 (0, 0))) : CmpLays Try.prog 21 #[] (SB.enc (w := w)) 18 byLeft blk off sz w := by
 intro m os dk hdk x y
 have hk := keep_sortWorld hT off m dk os
 refine (byLeft_any x.v y.v x.x y.x _ (x.ok.keep hk) (y.ok.keep hk)).mono ?_
 rintro e w' ⟨rfl, ho⟩
 exact ⟨rfl, own_grow ho⟩
theorem boxSize (w : World) : (Go.sizeOf 72).run Try.prog w = .ok 18 w := Try.sizeOf72 w
theorem sortBoxes_any (w : World) (blk off cap sz : Nat) (d : Array (SB w)) (hd : d.size = sz) (hH : HoldsK SB.enc 18 w blk off d) (hT : ∃ cs, w.heap[blk]? = some (.cells cs 72 (0, 0))) (hsz : sz < 1152921504606846976) :
  Calls Try.prog 20 #[.slice (some ⟨blk, off, none⟩) sz cap, .func (.func 21) #[] #[]] w fun e w' => e = .returned (.tuple #[]) ∧ ∃ d' : Array (SB w), d'.size = sz ∧ PermIn 0 sz d d' ∧ SortedIn (ltOf byLeft) 0 sz d' ∧ SWK SB.enc 18 w blk off d' w' := by
 have hblk : blk < w.heap.size := by
  obtain ⟨cs, h⟩ := hT
  exact (Array.getElem?_eq_some_iff.1 h).1
 exact sortStable_any 18 boxSize SB.enc byLeft (byLeft_swo w) 21 #[] blk off cap sz d w (fun args w => Try.call21 args w) (byLeft_lays w blk off sz hT) ⟨fun x => x.len, fun x => x.one, hH, hblk⟩ hd (by omega) hsz d w hd (SWK.start hH)
end Go.Proofs.Ytnojfiokdhcbjaa
namespace Go.Proofs.Ytnojfiokdhcbjaa
open Go Go.RowKit Go.Lib Go.Sort Go.Shelf
abbrev PB : Type := BV × Bx
instance : Inhabited PB := ⟨⟨.zero, .zero, .zero, .zero, 0, false⟩, ⟨0, 0, 0, 0, 0, false⟩⟩
def PB.enc (y : PB) : List Value := y.1.cells
theorem PB.one (y : PB) : ∀ u ∈ PB.enc y, u.oneCell' = true := by
 intro u hu
 unfold PB.enc BV.cells at hu
 simp only [List.mem_cons, List.not_mem_nil, or_false] at hu
 rcases hu with rfl | rfl | rfl | rfl | rfl | rfl | rfl | rfl | rfl | rfl | rfl | rfl | rfl | rfl | rfl | rfl | rfl | rfl <;> rfl
theorem mem_get (d : Array PB) {i : Nat} (hi : i < d.size) : d[i]! ∈ d.toList := by
 rw [getElem!_pos d i hi]
 exact Array.getElem_mem_toList hi
section
variable {α : Type} [Inhabited α] {enc : α → List Value} {k : Nat}
theorem setMany_put (hk : ∀ x, (enc x).length = k) (d : Array α) (i : Nat) (hi : i < d.size) (y : α) : setMany (flatK enc k d) (i * k) (enc y) = flatK enc k (d.setIfInBounds i y) := by
 refine ext_get! (by simp) fun t ht => ?_
 have ht' : t < d.size * k := by simpa using ht
 have k0 : 0 < k := by
  rcases Nat.eq_zero_or_pos k with h | h
  ·subst h; simp at ht'
  ·exact h
 have htd : t / k < d.size := (Nat.div_lt_iff_lt_mul k0).2 ht'
 rw [get_setMany _ _ _ t (by simpa using ht'), get_flatK _ _ _ t ht', get_flatK _ _ _ t (by simpa using ht'), hk]
 by_cases a : t / k = i
 ·rw [if_pos ((blk_iff k i t k0).2 a)]
  have e : t - i * k = t % k := by subst a; rw [Nat.mod_eq_sub_div_mul]
  rw [e, a]
  simp [hi]
 ·rw [if_neg (fun h => a ((blk_iff k i t k0).1 h))]
  simp [htd, Ne.symm a]
theorem flatK_take (d : Array α) (i t : Nat) (hi : i ≤ d.size) (ht : t < i * k) : (flatK enc k (d.extract 0 i))[t]! = (flatK enc k d)[t]! := by
 have k0 : 0 < k := by
  rcases Nat.eq_zero_or_pos k with h | h
  ·subst h; simp at ht
  ·exact h
 have h1 : t / k < i := (Nat.div_lt_iff_lt_mul k0).2 ht
 have h2 : t < d.size * k := Nat.lt_of_lt_of_le ht (Nat.mul_le_mul_right k hi)
 rw [get_flatK _ _ _ t (by rw [Array.size_extract, Nat.min_eq_left hi]; simpa using ht), get_flatK _ _ _ t h2]
 congr 2
 rw [getElem!_pos (d.extract 0 i) _ (by rw [Array.size_extract, Nat.min_eq_left hi]; simpa using h1), getElem!_pos d _ (by omega), Array.getElem_extract]
 simp
end
theorem setCells_grown (b : Nat) : ∀ (vs : List Value) (o : Nat) (w : World), w.grownBy (w.setCells b o vs) (some b)
 | [], _, w => grown_refl w _
 | v :: r, o, w => by
  rw [World.setCells]
  exact grown_trans (grown_setCell w ⟨b, o, none⟩ v) (setCells_grown b r (o + 1) _)
theorem setCells_shape (b : Nat) {T : TypeId} {N : Nat} : ∀ (vs : List Value) (o : Nat) (w : World), (∃ cs, w.heap[b]? = some (.cells cs T (0, 0)) ∧ cs.size = N) → ∃ cs, (w.setCells b o vs).heap[b]? = some (.cells cs T (0, 0)) ∧ cs.size = N
 | [], _, _, h => h
 | v :: r, o, w, ⟨cs, h, hs⟩ => by
  rw [World.setCells]
  refine setCells_shape b r (o + 1) _ ⟨cs.setIfInBounds o v, ?_, by simpa using hs⟩
  simp [World.setCell, Array.getElem?_modify, h]
theorem setCells_keep (b : Nat) {T : TypeId} (hT : T ≠ 126) (vs : List Value) (o : Nat) (w : World) (h : ∃ cs, w.heap[b]? = some (.cells cs T (0, 0))) : Keep w (w.setCells b o vs) := by
 intro g cs e
 obtain ⟨c0, h0⟩ := h
 have hne : some g ≠ some b := by
  rintro he
  cases he
  rw [h0] at e
  injection e with e
  injection e with _ e
  exact hT e
 exact ((setCells_grown b vs o w).block g (Array.getElem?_eq_some_iff.1 e).1 hne).trans e
theorem setCells_drawn (b : Nat) : ∀ (vs : List Value) (o : Nat) (w : World), (w.setCells b o vs).drawn = w.drawn
 | [], _, _ => rfl
 | v :: r, o, w => by rw [World.setCells, setCells_drawn b r]; rfl
structure DK (w0 : World) (k blk off N : Nat) (dk : Array PB) (W : World) : Prop where
 h : HoldsK PB.enc k W blk off dk
 g : w0.grownBy W (some blk)
 k : Keep w0 W
 t : ∃ cs, W.heap[blk]? = some (.cells cs 72 (0, 0)) ∧ cs.size = N
 d : w0.drawn ≤ W.drawn
section
variable {w0 W : World} {k blk off N : Nat} {dk : Array PB}
theorem holdsK_block {w w' : World} {d : Array PB} (h : HoldsK PB.enc k w blk off d) (e : w'.heap[blk]? = w.heap[blk]?) : HoldsK PB.enc k w' blk off d := fun j hj => by
 obtain ⟨h1, h2⟩ := h j hj
 exact ⟨(World.cell?_of_block (a := ⟨blk, off + j, none⟩) e).trans h1, by rw [← h2]; unfold World.frozen?; simp only [e]⟩
theorem DK.gr {W' : World} (h : DK w0 k blk off N dk W) (hg : Gr W W') : DK w0 k blk off N dk W' := by
 obtain ⟨h1, h2, h3, ⟨cs, h4, h5⟩, h6⟩ := h
 have hlt := (Array.getElem?_eq_some_iff.1 h4).1
 have e := hg.b.block blk hlt
 have g2 : W.grownBy W' (some blk) := ⟨hg.b.os, hg.b.tape, hg.b.output, hg.b.size, fun q hq _ => hg.b.block q hq⟩
 exact ⟨holdsK_block h1 e, grown_trans h2 g2, h3.trans (Gr.keep hg), ⟨cs, e.trans h4, h5⟩, Nat.le_trans h6 hg.d⟩
theorem DK.ld (h : DK w0 k blk off N dk W) (hk : k = 18) (P : Program) (i : Nat) (hi : i < dk.size) : Sem.run P (loadCellsFrom ⟨blk, off + i * k, none⟩ 0 k #[]) W = .ok (PB.enc dk[i]!).toArray W :=
 run_loadCellsFrom_list P _ _ _ k (by rw [hk]; rfl) (HoldsK.cells h.h (fun x => by rw [hk]; rfl) hi)
theorem row_bnd {i n k : Nat} (hi : i < n) : i * k + k ≤ n * k := by
 have := Nat.mul_le_mul_right k (show i + 1 ≤ n from hi)
 rwa [Nat.add_mul, Nat.one_mul] at this
theorem DK.st (h : DK w0 k blk off N dk W) (hk : k = 18) (P : Program) (i : Nat) (hi : i < dk.size) (y : PB) : Sem.run P (storeCells ⟨blk, off + i * k, none⟩ (PB.enc y) 0) W = .ok () (W.setCells blk (off + i * k) (PB.enc y)) :=
 stores_of_holds P h.h (i * k) _ (by rw [show (PB.enc y).length = k from by rw [hk]; rfl, size_flatK]; exact row_bnd hi) (PB.one y)
theorem DK.put (h : DK w0 k blk off N dk W) (hk : k = 18) (i : Nat) (hi : i < dk.size) (y : PB) : DK w0 k blk off N (dk.setIfInBounds i y) (W.setCells blk (off + i * k) (PB.enc y)) := by
 have hl : (PB.enc y).length = k := by rw [hk]; rfl
 refine ⟨?_, grown_trans h.g (setCells_grown blk _ _ _), h.k.trans (setCells_keep blk (by decide) _ _ _ ⟨_, h.t.choose_spec.1⟩), setCells_shape blk _ _ _ h.t, by rw [setCells_drawn]; exact h.d⟩
 have := holds_setCells_c h.h (i * k) (PB.enc y) (by rw [hl, size_flatK]; exact row_bnd hi)
 rw [setMany_put (fun x => by rw [hk]; rfl) dk i hi y] at this
 exact this
theorem DK.cut (h : DK w0 k blk off N dk W) (i : Nat) (hi : i ≤ dk.size) (vs : List Value) : DK w0 k blk off N (dk.extract 0 i) (W.setCells blk (off + i * k) vs) := by
 refine ⟨fun j hj => ?_, grown_trans h.g (setCells_grown blk _ _ _), h.k.trans (setCells_keep blk (by decide) _ _ _ ⟨_, h.t.choose_spec.1⟩), setCells_shape blk _ _ _ h.t, by rw [setCells_drawn]; exact h.d⟩
 rw [size_flatK, Array.size_extract, Nat.min_eq_left hi, Nat.sub_zero] at hj
 obtain ⟨h1, h2⟩ := h.h j (by rw [size_flatK]; exact Nat.lt_of_lt_of_le hj (Nat.mul_le_mul_right k hi))
 refine ⟨?_, by rw [World.frozen?_setCells]; exact h2⟩
 rw [World.cell?_setCells_out blk _ _ _ _ (fun _ _ => .inl (show off + j < off + i * k by omega)), flatK_take dk i j hi hj]
 exact h1
end
set_option maxHeartbeats 8000000 in
set_option maxRecDepth 1000000 in
theorem indexGone_any (k : Nat) (zE : ∀ w, (Go.sizeOf 72).run Try.prog w = .ok k w) (hk18 : k = 18) (w : World) (blk off cap sz N : Nat) (d : Array PB) (hd : d.size = sz) (hD : DK w k blk off N d w) (hsz : sz < 4611686018427387904) (bx : Nat) (v : BV) (x : Bx) (hb : BlkC 72 w bx v.cells) (hv : v.ok w x) (hok : ∀ y, y ∈ d.toList → y.1.ok w y.2) :
  Calls Try.prog 72 #[.slice (some ⟨blk, off, none⟩) sz cap, .func (.func 23) #[] #[.pointer (some ⟨bx, 0, none⟩)]] w fun e w' => Own w.heap.size w w' ∧ ((e = .returned (.int .i64 (-1)) ∧ ∀ j, j < sz → passes x d[j]!.2 = true) ∨ ∃ i : Nat, e = .returned (.int .i64 i) ∧ i < sz ∧ passes x d[i]!.2 = false ∧ ∀ j, j < i → passes x d[j]!.2 = true) := by
 have HD := Lib.hid hD
 have HB := Lib.hid hb
 have HV := Lib.hid hv
 have HOK := Lib.hid hok
 have HK := Lib.hid hk18
 have HS := Lib.hid hd
 clear hD hb hv hok hk18 hd
 go_enter Try.func72, Try.ntmps72
 go_wp2_with fail
 go_loopg [8] sz (fun g s8 wr => ∃ (i : Nat), s8 = .int .i64 i ∧ i ≤ sz ∧ sz ≤ g + i ∧ Hid (Own w.heap.size w wr) ∧ Hid (∀ j, j < i → passes x d[j]!.2 = true))
 case atStart => exact ⟨0, rfl, Nat.zero_le _, by omega, Own.refl _ _, fun j hj => absurd hj (Nat.not_lt_zero _)⟩
 case round =>
  obtain ⟨i, rfl, hin, hg, HO, HP⟩ := hrel
  by_cases hlt : i < sz
  ·have hlz : (i : Int) < (sz : Int) := by omega
   have ia0 : (0 : Int) ≤ (i : Int) := by omega
   have iat : ((i : Int)).toNat = i := by omega
   have hDw := HD.out.gr HO.out
   have l1 := hDw.ld HK.out Try.prog i (by rw [HS.out]; exact hlt)
   have hBw := HB.out.still (Gr.grown HO.out)
   have HBW := Lib.hid hBw
   clear hDw hBw
   obtain ⟨y, hy⟩ : ∃ y, d[i]! = y := ⟨_, rfl⟩
   rw [hy] at l1
   have HY := Lib.hid hy
   clear hy
   go_wp2_with fail
   refine (gone_any v y.1 x y.2 _ bx HBW.out (HV.out.keep (Gr.keep HO.out)) (BV.ok.keep (HOK.out y (by rw [← HY.out]; exact mem_get d (by rw [HS.out]; exact hlt))) (Gr.keep HO.out))).mono ?_
   rintro e w1 ⟨rfl, hg1⟩
   have HO1 := Lib.hid (HO.out.call HO.out.size hg1)
   clear l1 hg1
   cases hp : passes x y.2 with
   | true =>
    have hgo : decide (y.2.r < x.l) = false := by unfold passes at hp; simpa using hp
    rw [hgo]
    go_wp2_with fail
    go_roundg (sz - (i + 1))
    case measure => omega
    case rel => exact ⟨i + 1, by go_num, by omega, by omega, HO1, fun j hj => by
     rcases Nat.lt_or_ge j i with h | h
     ·exact HP.out j h
     ·have e : j = i := by omega
      rw [e, HY.out]; exact hp⟩
   | false =>
    have hgo : decide (y.2.r < x.l) = true := by unfold passes at hp; simpa using hp
    rw [hgo]
    go_wp2_with fail
    go_ret
    exact ⟨HO1.out, .inr ⟨i, rfl, hlt, by rw [HY.out]; exact hp, HP.out⟩⟩
  ·have hlz : ¬ (i : Int) < (sz : Int) := by omega
   have hie : i = sz := by omega
   subst hie
   go_wp2_with fail
   go_ret
   exact ⟨HO.out, .inl ⟨rfl, HP.out⟩⟩
theorem setCells_alloc (w : World) (T : TypeId) : ∀ (vs : List Value) (o : Nat) (cs : Array Value), (w.alloc (.cells cs T)).setCells w.heap.size o vs = w.alloc (.cells (setMany cs o vs) T)
 | [], _, _ => rfl
 | v :: r, o, cs => by
  rw [World.setCells, setMany, ← setCells_alloc w T r (o + 1)]
  congr 1
  unfold World.setCell World.alloc
  congr 1
  apply Array.ext_getElem?
  intro j
  rw [Array.getElem?_modify]
  by_cases h : w.heap.size = j
  ·subst h; simp
  ·rw [if_neg h]
   simp only [Array.getElem?_push, if_neg (Ne.symm h)]
theorem setMany_all {cs : Array Value} {vs : List Value} (h : cs.size = vs.length) : setMany cs 0 vs = vs.toArray := by
 refine ext_get! (by simp [h]) fun t ht => ?_
 have ht' : t < cs.size := by simpa using ht
 rw [get_setMany _ _ _ t ht', if_pos ⟨Nat.zero_le _, by omega⟩, Nat.sub_zero]
 rw [getElem!_pos vs t (by omega), getElem!_pos vs.toArray t (by simp; omega)]
 simp
theorem fresh_st (w : World) (cs : Array Value) (h : cs.size = 18) (y : PB) : Sem.run Try.prog (storeCells ⟨w.heap.size, 0, none⟩ (PB.enc y) 0) (w.alloc (.cells cs 72)) = .ok () (w.alloc (.cells (PB.enc y).toArray 72)) := by
 have hB : BlkC 72 (w.alloc (.cells cs 72)) w.heap.size cs.toList := BlkC.new _ w cs.toList
 have hr := run_storeCells_cells (P := Try.prog) w.heap.size 0 (PB.enc y) 0 (w.alloc (.cells cs 72)) (fun c hc => by rw [Nat.add_zero, Nat.zero_add, hB.cell c, List.getElem?_eq_getElem (by rw [Array.length_toList, h]; exact hc)]; rfl) (fun c hc => hB.free _) (PB.one y)
 rw [Nat.add_zero, setCells_alloc, setMany_all (by rw [h]; rfl)] at hr
 exact hr
theorem fresh_ld {w : World} {g k : Nat} {y : PB} (hk : k = 18) (hB : BlkC 72 w g (PB.enc y)) : Sem.run Try.prog (loadCellsFrom ⟨g, 0, none⟩ 0 k #[]) w = .ok (PB.enc y).toArray w :=
 run_loadCellsFrom_list _ _ _ _ k (by rw [hk]; rfl) (fun j v hj => by rw [Addr.add_lit, Nat.zero_add, hB.cell j]; exact hj)
theorem clear_boxes (w0 W : World) (k blk off N cap sz i : Nat) (hk : k = 18) (dk : Array PB) (hD : DK w0 k blk off N dk W) (hs : dk.size = sz) (hi : i < sz) :
  ∃ vs, ∀ ty, (Builtin.clear_ #[66] ty #[.slice (some ⟨blk, off + i * k, none⟩) (sz - i) (cap - i)]).run Try.prog W = .ok (.tuple #[]) (W.setCells blk (off + i * k) vs) := by
 obtain ⟨n, hn⟩ : ∃ n, sz - i = n + 1 := ⟨sz - i - 1, by omega⟩
 obtain ⟨zc, hz, hzs⟩ : ∃ zc : Array Value, (∀ w, (zeroValue 72).run Try.prog w = .ok (.agg zc) w) ∧ zc.size = 18 ∧ ∀ v ∈ zc, v.oneCell' = true := ⟨_, fun w => Try.zeroValue72 w, rfl, by decide⟩
 have hl : (Builtin.zeroCells zc (n + 1)).toList.length = (n + 1) * 18 := by simp [Builtin.zeroCells, hzs.1]
 have hb : ∀ c, c < (n + 1) * 18 → i * k + c < (flatK PB.enc k dk).size := fun c hc => by
  rw [size_flatK, hs, hk, show sz = i + (n + 1) by omega, Nat.add_mul]
  omega
 have hst := run_storeCells_cells (P := Try.prog) blk (off + i * k) (Builtin.zeroCells zc (n + 1)).toList 0 W
  (fun c hc => by
   rw [hl] at hc
   rw [Nat.add_zero, Nat.add_assoc, (hD.h _ (hb c hc)).1]; rfl)
  (fun c hc => by
   rw [hl] at hc
   rw [Nat.add_zero, Nat.add_assoc]; exact (hD.h _ (hb c hc)).2)
  (fun v hv => by
   simp only [Builtin.zeroCells, Array.toList_map, List.mem_map] at hv
   obtain ⟨t, _, rfl⟩ := hv
   have hlt : t % zc.size < zc.size := Nat.mod_lt _ (by rw [hzs.1]; omega)
   rw [getElem!_pos zc _ hlt]
   exact hzs.2 _ (Array.getElem_mem hlt))
 rw [Nat.add_zero] at hst
 refine ⟨(Builtin.zeroCells zc (n + 1)).toList, fun ty => ?_⟩
 rw [hn]
 simp [Builtin.clear_, run_underlying Try.underlying66, hz, Value.cells, hst]
set_option maxHeartbeats 8000000 in
set_option maxRecDepth 1000000 in
theorem deleteGone_any (k : Nat) (zE : ∀ w, (Go.sizeOf 72).run Try.prog w = .ok k w) (hk18 : k = 18) (w : World) (blk off cap sz N : Nat) (d : Array PB) (hd : d.size = sz) (hD : DK w k blk off N d w) (hcap : sz ≤ cap) (hsz : sz < 4611686018427387904) (bx : Nat) (v : BV) (x : Bx) (hb : BlkC 72 w bx v.cells) (hbx : bx ≠ blk) (hv : v.ok w x) (hok : ∀ y, y ∈ d.toList → y.1.ok w y.2) :
  Calls Try.prog 42 #[.slice (some ⟨blk, off, none⟩) sz cap, .func (.func 23) #[] #[.pointer (some ⟨bx, 0, none⟩)]] w fun e w' => ∃ d' : Array PB, e = .returned (.slice (some ⟨blk, off, none⟩) d'.size cap) ∧ d'.toList = d.toList.filter (fun y => passes x y.2) ∧ DK w k blk off N d' w' := by
 have hIF := indexGone_any k zE hk18 w blk off cap sz N d hd hD hsz bx v x hb hv hok
 obtain ⟨kp, hkp⟩ : ∃ kp : Nat → Bool, kp = fun j => passes x d[j]!.2 := ⟨_, rfl⟩
 have HKP := Lib.hid hkp
 have hfil : d.toList.filter (fun y => passes x y.2) = keptUpTo kp d d.size := by rw [hkp]; exact (keptUpTo_filter (fun y => passes x y.2) d).symm
 rw [hfil]
 have HI : Aside _ := hIF
 have HD := Lib.hid hD
 have HB := Lib.hid hb
 have HV := Lib.hid hv
 have HOK := Lib.hid hok
 have HK := Lib.hid hk18
 have HS := Lib.hid hd
 have mixed : Try.prog.follows .mixedOrders = true := by kernel_rfl
 clear hD hb hv hok hk18 hd hIF hfil hkp
 go_enter Try.func42, Try.ntmps42
 go_wp2_with fail
 refine Calls.mono HI.out ?_
 clear HI
 rintro e w1 ⟨hg1, ⟨rfl, hall⟩ | ⟨i0, rfl, hi0, hno, hyes⟩⟩
 ·-- none has gone by
  have HD1 := Lib.hid (HD.out.gr hg1)
  have HALL := Lib.hid hall
  clear hall hg1
  go_wp2_with fail
  go_ret
  have hkeep : ∀ j, j < d.size → kp j = true := fun j hj => by rw [HKP.out]; exact HALL.out j (by rw [← HS.out]; exact hj)
  refine ⟨d, by rw [HS.out]; rfl, ?_, HD1.out⟩
  rw [keptUpTo_all kp d _ hkeep]
  exact (range_map_get d).symm
 ·have HD1 : Hid (DK w k blk off N d w1) := HD.out.gr hg1
  have HI0 : Hid (KeptInv kp d (i0 + 1) i0 d) := KeptInv.start (fun j hj => by rw [HKP.out]; exact hyes j hj) (by rw [HKP.out]; exact hno)
  have HB1 : Hid (BlkC 72 w1 bx v.cells) := HB.out.still (Gr.grown hg1)
  have hne : ¬ ((i0 : Int) = -1) := by omega
  have hneb : (((i0 : Int)) == -1) = false := beq_false_of_ne hne
  clear hg1 hno hyes
  go_wp2_with fail
  go_loopg [5, 6] sz (fun gg s5 s6 wr => ∃ (i j : Nat) (dk : Array PB), s5 = .int .i64 i ∧ s6 = .int .i64 j ∧ j ≤ sz ∧ sz - j ≤ gg ∧ Hid (BlkC 72 wr bx v.cells) ∧ Hid (DK w k blk off N dk wr) ∧ Hid (KeptInv kp d j i dk))
  case atStart => exact ⟨i0, i0 + 1, d, rfl, by go_num, by omega, by omega, HB1, HD1, HI0⟩
  case round =>
   clear HB1 HD1 HI0 hne hneb
   obtain ⟨i, j, dk, rfl, rfl, hjs, hgg, HBr, HDr, HIr⟩ := hrel
   have hij : i < j := HIr.out.lt
   have hds : dk.size = sz := HIr.out.size.trans HS.out
   by_cases hlt : j < sz
   ·have hlz : (j : Int) < (sz : Int) := by omega
    have ja0 : (0 : Int) ≤ (j : Int) := by omega
    have jat : ((j : Int)).toNat = j := by omega
    have ia0 : (0 : Int) ≤ (i : Int) := by omega
    have iat : ((i : Int)).toNat = i := by omega
    have iz : (i : Int) < (sz : Int) := by omega
    have l1 := HDr.out.ld HK.out Try.prog j (by rw [hds]; exact hlt)
    rw [HIr.out.high j (by omega)] at l1
    obtain ⟨y, hy⟩ : ∃ y, d[j]! = y := ⟨_, rfl⟩
    rw [hy] at l1
    have HY := Lib.hid hy
    have s1 := fresh_st wr #[.slice none 0 0, .bool false, .slice none 0 0, .bool false, .slice none 0 0, .bool false, .slice none 0 0, .bool false, .slice none 0 0, .bool false, .slice none 0 0, .bool false, .slice none 0 0, .bool false, .slice none 0 0, .bool false, .int .i64 0, .bool false] rfl y
    have HFB : Hid (BlkC 72 (wr.alloc (.cells (PB.enc y).toArray 72)) wr.heap.size (PB.enc y)) := BlkC.new _ wr (PB.enc y)
    have l2 := fresh_ld HK.out HFB.out
    have HGA : Hid (Gr wr (wr.alloc (.cells (PB.enc y).toArray 72))) := own_alloc _ _
    have n1 : (PB.enc y).length = k := by rw [HK.out]; rfl
    clear hy
    go_wp2_with fail
    refine (gone_any v y.1 x y.2 _ bx (HBr.out.still (Gr.grown HGA.out)) (HV.out.keep (HDr.out.k.trans (Gr.keep HGA.out))) (BV.ok.keep (HOK.out y (by rw [← HY.out]; exact mem_get d (by rw [HS.out]; exact hlt))) (HDr.out.k.trans (Gr.keep HGA.out)))).mono ?_
    rintro e w3 ⟨rfl, hg3⟩
    have HG3 : Hid (Gr wr w3) := HGA.out.call HGA.out.size hg3
    have HD3 := Lib.hid (HDr.out.gr HG3.out)
    have HB3 := Lib.hid (HBr.out.still (Gr.grown HG3.out))
    have HF3 := Lib.hid (HFB.out.still (Gr.grown hg3))
    clear l1 l2 s1 hg3 HGA HG3
    cases hp : passes x y.2 with
    | true =>
     have hgo : decide (y.2.r < x.l) = false := by unfold passes at hp; simpa using hp
     rw [hgo]
     have l3 := fresh_ld HK.out HF3.out
     have s3 := HD3.out.st HK.out Try.prog i (by omega) y
     go_wp2_with fail
     go_roundg (sz - (j + 1))
     case measure => omega
     case rel =>
      refine ⟨i + 1, j + 1, dk.setIfInBounds i y, by go_num, by go_num, by omega, Nat.le_refl _, HB3.out.grown (setCells_grown blk _ _ _) (fun e => hbx (Option.some.inj e)), HD3.out.put HK.out i (by omega) y, ?_⟩
      have := HIr.out.keep (by rw [HS.out]; exact hlt) (by rw [HKP.out]; show passes x d[j]!.2 = true; rw [HY.out]; exact hp)
      rwa [HY.out] at this
    | false =>
     have hgo : decide (y.2.r < x.l) = true := by unfold passes at hp; simpa using hp
     rw [hgo]
     go_wp2_with fail
     go_roundg (sz - (j + 1))
     case measure => omega
     case rel => exact ⟨i, j + 1, dk, rfl, by go_num, by omega, Nat.le_refl _, HB3, HD3, HIr.out.skip (by rw [HKP.out]; show passes x d[j]!.2 = false; rw [HY.out]; exact hp)⟩
   ·have hje : j = sz := by omega
    subst hje
    have hlz : ¬ (j : Int) < (j : Int) := by omega
    obtain ⟨vs, hcl⟩ := clear_boxes w wr k blk off N cap j i HK.out dk HDr.out hds (by omega)
    have hcut := Lib.hid (HDr.out.cut (off := off) i (by omega) vs)
    have ia0 : (0 : Int) ≤ (i : Int) := by omega
    have iat : ((i : Int)).toNat = i := by omega
    go_wp2_with fail
    go_ret
    have hse : (dk.extract 0 i).size = i := by rw [Array.size_extract, Nat.min_eq_left (by omega), Nat.sub_zero]
    refine ⟨dk.extract 0 i, by rw [hse]; rfl, ?_, hcut.out⟩
    have hlen := HIr.out.len
    have hlow := HIr.out.low
    rw [HS.out]
    apply List.ext_getElem?
    intro t
    rcases Nat.lt_or_ge t i with ht | ht
    ·rw [hlow t ht, Array.getElem?_toList, Array.getElem?_extract_of_lt (by omega), getElem!_pos dk t (by omega)]
     simp only [Nat.zero_add]
    ·rw [List.getElem?_eq_none (by rw [Array.length_toList, hse]; exact ht), List.getElem?_eq_none (by rw [hlen]; exact ht)]
set_option maxHeartbeats 8000000 in
set_option maxRecDepth 1000000 in
theorem indexNil_any (w : World) (fv : Value) :
  Calls Try.prog 72 #[.slice none 0 0, fv] w fun e w' => e = .returned (.int .i64 (-1)) ∧ Own w.heap.size w w' := by
 go_enter Try.func72, Try.ntmps72
 go_wp2_with fail
 go_loopg [8] 1 (fun g s8 wr => s8 = .int .i64 0 ∧ Hid (Own w.heap.size w wr))
 case atStart => exact ⟨rfl, Own.refl _ _⟩
 case round =>
  obtain ⟨rfl, HO⟩ := hrel
  have hlz : ¬ (0 : Int) < 0 := by omega
  go_wp2_with fail
  go_ret
  exact ⟨rfl, HO.out⟩
set_option maxHeartbeats 8000000 in
set_option maxRecDepth 1000000 in
theorem deleteNil_any (w : World) (fv : Value) :
  Calls Try.prog 42 #[.slice none 0 0, fv] w fun e w' => e = .returned (.slice none 0 0) ∧ Own w.heap.size w w' := by
 go_enter Try.func42, Try.ntmps42
 go_wp2_with fail
 refine (indexNil_any w fv).mono ?_
 rintro e w1 ⟨rfl, hg1⟩
 have HG := Lib.hid hg1
 clear hg1
 go_wp2_with fail
 go_ret
 exact ⟨rfl, HG.out⟩
def BoxRow (w : World) (v : Value) (l : List PB) : Prop :=
 (v = .slice none 0 0 ∧ l = []) ∨ ∃ (g cap : Nat) (cs : Array Value), v = .slice (some ⟨g, 0, none⟩) l.length cap ∧ w.heap[g]? = some (.cells cs 72 (0, 0)) ∧ cs.size = cap * 18 ∧ l.length ≤ cap ∧ cap ≤ maxLen ∧ HoldsK PB.enc 18 w g 0 l.toArray
set_option maxHeartbeats 8000000 in
set_option maxRecDepth 1000000 in
theorem drop_any (w : World) (T o bx : Nat) (rv : Value) (c2 : List Value) (l : List PB) (v : BV) (x : Bx) (hT : BlkC 76 w T c2) (hTo : c2[o]? = some rv) (hr : BoxRow w rv l) (hn : l.length < 4611686018427387904)
  (hb : BlkC 72 w bx v.cells) (hbx : rv.ownBlock ≠ some bx) (hv : v.ok w x) (hok : ∀ y, y ∈ l → y.1.ok w y.2) (hTr : rv.ownBlock ≠ some T) :
  Calls Try.prog 22 #[.pointer (some ⟨T, o, none⟩), .func (.func 23) #[] #[.pointer (some ⟨bx, 0, none⟩)]] w fun e w' => e = .returned (.tuple #[]) ∧ ∃ (rv' : Value) (w1 : World), w' = w1.setCell ⟨T, o, none⟩ rv' ∧ rv'.ownBlock = rv.ownBlock ∧ BoxRow w1 rv' (l.filter fun y => passes x y.2) ∧ w.grownBy w1 rv.ownBlock ∧ Keep w w1 ∧ w.drawn ≤ w1.drawn := by
 have t0 : w.cell? ⟨T, o, none⟩ = some rv := by rw [hT.cell o]; exact hTo
 have HT := Lib.hid hT
 rcases hr with ⟨rfl, rfl⟩ | ⟨g, cap, cs, rfl, hg, hcs, hlc, hcm, hH⟩
 ·clear hT
  go_enter Try.func22, Try.ntmps22
  go_wp2_with fail
  refine (deleteNil_any w _).mono ?_
  rintro e w1 ⟨rfl, hg1⟩
  have HT1 := HT.out.still (Gr.grown hg1)
  have t1 : w1.cell? ⟨T, o, none⟩ = some (.slice none 0 0) := by rw [HT1.cell o]; exact hTo
  have f1 := HT1.free o
  have HG := Lib.hid hg1
  clear hg1 HT1 t0
  go_wp2_with fail
  go_end0
  exact ⟨rfl, _, w1, rfl, rfl, .inl ⟨rfl, rfl⟩, Gr.grown HG.out, Gr.keep HG.out, HG.out.d⟩
 ·obtain ⟨k, hk⟩ : ∃ k, k = 18 := ⟨_, rfl⟩
  have HD : Hid (DK w k g 0 (cap * 18) l.toArray w) := ⟨by rw [hk]; exact hH, grown_refl _ _, Keep.refl _, ⟨cs, hg, hcs⟩, Nat.le_refl _⟩
  have hne : bx ≠ g := fun e => hbx (by rw [e]; rfl)
  have HC : Aside _ := deleteGone_any k (fun w => by rw [hk]; exact boxSize w) hk w g 0 cap l.length (cap * 18) l.toArray (by simp) HD.out hlc hn bx v x hb hne hv (by simpa using hok)
  have hgT : some T ≠ some g := fun e => hTr (by rw [e]; rfl)
  have HN := Lib.hid hgT
  have HLC := Lib.hid hlc
  have HCM := Lib.hid hcm
  have HKK := Lib.hid hk
  clear hT hg hcs hH hb hv hok hne hgT hlc hcm hk
  go_enter Try.func22, Try.ntmps22
  go_wp2_with fail
  refine Calls.mono HC.out ?_
  rintro e w1 ⟨d', rfl, hd, hD1⟩
  have HT1 := HT.out.grown hD1.g HN.out
  have t1 : w1.cell? ⟨T, o, none⟩ = some (.slice (some ⟨g, 0, none⟩) l.length cap) := by rw [HT1.cell o]; exact hTo
  have f1 := HT1.free o
  have HD1 := Lib.hid hD1
  have HDL := Lib.hid hd
  clear hd hD1 HT1 t0 HC
  go_wp2_with fail
  go_end0
  have hl : l.filter (fun y => passes x y.2) = d'.toList := by rw [HDL.out]
  refine ⟨rfl, _, w1, rfl, rfl, .inr ?_, HD1.out.g, HD1.out.k, HD1.out.d⟩
  obtain ⟨cs1, h1, h2⟩ := HD1.out.t
  rw [hl]
  have hll : d'.toList.length ≤ cap := by
   have := List.length_filter_le (fun y => passes x y.2) l
   rw [hl] at this
   have := HLC.out
   omega
  refine ⟨g, cap, cs1, by simp, h1, h2, hll, HCM.out, ?_⟩
  have hh := HD1.out.h
  rw [HKK.out] at hh
  exact hh
end Go.Proofs.Ytnojfiokdhcbjaa
namespace Go.Proofs.Ytnojfiokdhcbjaa
open Go Go.RowKit Go.Lib Go.Sort Go.Shelf
structure P2 where
 a : Nat
 b : Nat
 ha : a < 1073741824
 hb : b < 1073741824
instance : Inhabited P2 := ⟨⟨0, 0, by omega, by omega⟩⟩
def P2.enc (p : P2) : List Value := [.int .i64 (p.a : Int), .int .i64 (p.b : Int)]
theorem P2.one (p : P2) : ∀ u ∈ p.enc, u.oneCell' = true := by
 intro u hu
 unfold P2.enc at hu
 simp only [List.mem_cons, List.not_mem_nil, or_false] at hu
 rcases hu with rfl | rfl <;> rfl
def byPair (p q : P2) : Int := if p.a = q.a then (p.b : Int) - (q.b : Int) else (p.a : Int) - (q.a : Int)
theorem byPair_lt (p q : P2) : ltOf byPair p q = decide (p.a < q.a ∨ (p.a = q.a ∧ p.b < q.b)) := by
 unfold ltOf byPair
 by_cases h : p.a = q.a
 ·rw [if_pos h]; exact decide_eq_decide.2 (by omega)
 ·rw [if_neg h]; exact decide_eq_decide.2 (by omega)
theorem byPair_swo : SWO (ltOf byPair) where
 irrefl x := by rw [byPair_lt]; simp
 trans x y z h1 h2 := by rw [byPair_lt] at *; simp only [decide_eq_true_eq] at *; omega
 ntrans x y z h1 h2 := by rw [byPair_lt] at *; simp only [decide_eq_false_iff_not] at *; omega
set_option maxHeartbeats 4000000 in
set_option maxRecDepth 100000 in
theorem byPair_any (p q : P2) (w : World) :
  Calls Try.prog 25 #[.agg p.enc.toArray, .agg q.enc.toArray] w fun e w' => e = .returned (.int .i64 (byPair p q)) ∧ Own w.heap.size w w' := by
 obtain ⟨a, b, ha, hb⟩ := p
 obtain ⟨c, d, hc, hd⟩ := q
 have HB1 : Hid (BlkC 56 ((w.alloc (.cells #[.int .i64 (a : Int), .int .i64 (b : Int)] 56)).alloc (.cells #[.int .i64 (c : Int), .int .i64 (d : Int)] 56)) w.heap.size [.int .i64 (a : Int), .int .i64 (b : Int)]) := (BlkC.new _ w [.int .i64 (a : Int), .int .i64 (b : Int)]).still (grown_alloc _ _ none)
 have HB2 : Hid (BlkC 56 ((w.alloc (.cells #[.int .i64 (a : Int), .int .i64 (b : Int)] 56)).alloc (.cells #[.int .i64 (c : Int), .int .i64 (d : Int)] 56)) (w.heap.size + 1) [.int .i64 (c : Int), .int .i64 (d : Int)]) := blk_at (cs := [.int .i64 (c : Int), .int .i64 (d : Int)]) (by simp)
 have HG : Hid (Own w.heap.size w ((w.alloc (.cells #[.int .i64 (a : Int), .int .i64 (b : Int)] 56)).alloc (.cells #[.int .i64 (c : Int), .int .i64 (d : Int)] 56))) := (own_alloc _ _).alloc (by simp) _
 obtain ⟨x0, x1, x2, x3, x4⟩ := blk2 HB1.out
 obtain ⟨y0, y1, y2, y3, y4⟩ := blk2 HB2.out
 unfold P2.enc byPair
 by_cases h : a = c
 ·subst h
  rw [if_pos rfl]
  go_enter Try.func25, Try.ntmps25
  go_wp2_with fail
  go_ret
  exact ⟨rfl, HG.out⟩
 ·have hz : ¬ (a : Int) = (c : Int) := by omega
  rw [if_neg h]
  go_enter Try.func25, Try.ntmps25
  go_wp2_with fail
  go_ret
  exact ⟨rfl, HG.out⟩
theorem byPair_lays (w : World) (blk off sz : Nat) : CmpLays Try.prog 25 #[] P2.enc 2 byPair blk off sz w := by
 intro m os dk hdk x y
 refine (byPair_any x y _).mono ?_
 rintro e w' ⟨rfl, ho⟩
 exact ⟨rfl, own_grow ho⟩
theorem sortPairs_any (w : World) (blk off cap sz : Nat) (d : Array P2) (hd : d.size = sz) (hH : HoldsK P2.enc 2 w blk off d) (hblk : blk < w.heap.size) (hsz : sz < 4611686018427387904) :
  Calls Try.prog 24 #[.slice (some ⟨blk, off, none⟩) sz cap, .func (.func 25) #[] #[]] w fun e w' => e = .returned (.tuple #[]) ∧ ∃ d' : Array P2, PermIn 0 sz d d' ∧ SortedIn (ltOf byPair) 0 sz d' ∧ SWK P2.enc 2 w blk off d' w' := by
 subst hd
 have h := AnyQ.slices_SortFunc Try.sortL 2 Try.isAgg56 Try.sizeOf56 P2.enc (fun _ => rfl) P2.one byPair byPair_swo 25 #[] blk off cap d w (fun args w => Try.call25 args w) (byPair_lays w blk off d.size) hH hblk hsz
 change Calls Try.prog 24 _ _ _ at h
 refine Calls.mono h ?_
 rintro e w' ⟨rfl, d', n, os, h1, h2, rfl⟩
 exact ⟨rfl, d', h1, h2, n, os, rfl⟩
end Go.Proofs.Ytnojfiokdhcbjaa
namespace Go.Proofs.Ytnojfiokdhcbjaa
open Go Go.RowKit Go.Lib
structure SV where
 ax : RV
 ay : RV
 cx : RV
 cy : RV
def SV.cells (v : SV) : List Value := [.slice v.ax.a v.ax.n v.ax.n, .bool v.ax.b, .slice v.ax.c v.ax.m v.ax.m, .bool v.ax.d, .slice v.ay.a v.ay.n v.ay.n, .bool v.ay.b, .slice v.ay.c v.ay.m v.ay.m, .bool v.ay.d, .slice v.cx.a v.cx.n v.cx.n, .bool v.cx.b, .slice v.cx.c v.cx.m v.cx.m, .bool v.cx.d, .slice v.cy.a v.cy.n v.cy.n, .bool v.cy.b, .slice v.cy.c v.cy.m v.cy.m, .bool v.cy.d]
structure Sg where
 ax : Rat
 ay : Rat
 cx : Rat
 cy : Rat
structure SV.ok (w : World) (v : SV) (s : Sg) : Prop where
 ax : v.ax.ok w s.ax
 ay : v.ay.ok w s.ay
 cx : v.cx.ok w s.cx
 cy : v.cy.ok w s.cy
theorem SV.ok.keep {w w' : World} {v : SV} {s : Sg} (h : v.ok w s) (k : Keep w w') : v.ok w' s := ⟨h.ax.keep k, h.ay.keep k, h.cx.keep k, h.cy.keep k⟩
abbrev ltL : Rat → Rat → Bool := fun y o => decide (y < o)
abbrev ltM : Rat → Rat → Bool := fun y o => decide (o < y)
def boxS (s : Sg) (dl : Rat) (i : Nat) (second : Bool) : Bx := ⟨bestR ltL [s.ax, s.cx] - dl, bestR ltM [s.ax, s.cx] + dl, bestR ltL [s.ay, s.cy] - dl, bestR ltM [s.ay, s.cy] + dl, i, second⟩
structure SgL (s : Sg) : Prop where
 ax : rlen s.ax ≤ 1000
 ay : rlen s.ay ≤ 1000
 cx : rlen s.cx ≤ 1000
 cy : rlen s.cy ≤ 1000
theorem best_two (lt : Rat → Rat → Bool) (p q : Rat) : bestR lt [p, q] = p ∨ bestR lt [p, q] = q := by
 unfold bestR
 simp only [List.foldl_cons, List.foldl_nil]
 split <;> simp
theorem SgL.l {s : Sg} (h : SgL s) : rlen (bestR ltL [s.ax, s.cx]) ≤ 1000 := by
 rcases best_two ltL s.ax s.cx with e | e <;> rw [e]
 ·exact h.ax
 ·exact h.cx
theorem SgL.r {s : Sg} (h : SgL s) : rlen (bestR ltM [s.ax, s.cx]) ≤ 1000 := by
 rcases best_two ltM s.ax s.cx with e | e <;> rw [e]
 ·exact h.ax
 ·exact h.cx
theorem SgL.b {s : Sg} (h : SgL s) : rlen (bestR ltL [s.ay, s.cy]) ≤ 1000 := by
 rcases best_two ltL s.ay s.cy with e | e <;> rw [e]
 ·exact h.ay
 ·exact h.cy
theorem SgL.t {s : Sg} (h : SgL s) : rlen (bestR ltM [s.ay, s.cy]) ≤ 1000 := by
 rcases best_two ltM s.ay s.cy with e | e <;> rw [e]
 ·exact h.ay
 ·exact h.cy
structure RL4 (x : Bx) : Prop where
 f1 : rlen x.l ≤ 300000
 f2 : rlen x.r ≤ 300000
 f3 : rlen x.b ≤ 300000
 f4 : rlen x.t ≤ 300000
theorem boxS_len {s : Sg} {dl : Rat} (h : SgL s) (hd : rlen dl ≤ 1000) (i : Nat) (b : Bool) : RL4 (boxS s dl i b) := by
 have a1 := h.l
 have a2 := h.r
 have a3 := h.b
 have a4 := h.t
 refine ⟨?_, ?_, ?_, ?_⟩
 ·have := rlen_sub (bestR ltL [s.ax, s.cx]) dl; show rlen (_ - _) ≤ _; omega
 ·have := rlen_add (bestR ltM [s.ax, s.cx]) dl; show rlen (_ + _) ≤ _; omega
 ·have := rlen_sub (bestR ltL [s.ay, s.cy]) dl; show rlen (_ - _) ≤ _; omega
 ·have := rlen_add (bestR ltM [s.ay, s.cy]) dl; show rlen (_ + _) ≤ _; omega
theorem rrow_two {w : World} {a0 : Option Addr} {n0 : Nat} {b0 : Bool} {c0 : Option Addr} {m0 : Nat} {d0 : Bool} {a1 : Option Addr} {n1 : Nat} {b1 : Bool} {c1 : Option Addr} {m1 : Nat} {d1 : Bool} {p q : Rat}
  (h0 : RIs w (.agg #[.slice a0 n0 n0, .bool b0, .slice c0 m0 m0, .bool d0]) p) (h1 : RIs w (.agg #[.slice a1 n1 n1, .bool b1, .slice c1 m1 m1, .bool d1]) q) :
  RRow (w.alloc (.cells #[.slice a0 n0 n0, .bool b0, .slice c0 m0 m0, .bool d0, .slice a1 n1 n1, .bool b1, .slice c1 m1 m1, .bool d1] 30)) w.heap.size [p, q] := by
 have hB : BlkC 30 (w.alloc (.cells #[.slice a0 n0 n0, .bool b0, .slice c0 m0 m0, .bool d0, .slice a1 n1 n1, .bool b1, .slice c1 m1 m1, .bool d1] 30)) w.heap.size [.slice a0 n0 n0, .bool b0, .slice c0 m0 m0, .bool d0, .slice a1 n1 n1, .bool b1, .slice c1 m1 m1, .bool d1] := BlkC.new _ w _
 refine ⟨hB.lt, fun i r hr => ?_⟩
 match i, hr with
 | 0, hr =>
  cases hr
  exact ⟨a0, n0, b0, c0, m0, d0, by rw [hB.cell]; rfl, by rw [hB.cell]; rfl, by rw [hB.cell]; rfl, by rw [hB.cell]; rfl, h0.keep (keep_alloc _ _)⟩
 | 1, hr =>
  cases hr
  exact ⟨a1, n1, b1, c1, m1, d1, by rw [hB.cell]; rfl, by rw [hB.cell]; rfl, by rw [hB.cell]; rfl, by rw [hB.cell]; rfl, h1.keep (keep_alloc _ _)⟩
 | i + 2, hr => simp at hr
theorem keep_grown_row {w w' : World} {B : Nat} {v : Value} {n : Nat} {xs : List Value} (h : w.ownsRow B 72 18 v n xs) (hg : w.grownBy w' v.ownBlock) : Keep w w' := by
 intro g cs e
 refine (hg.block g (Array.getElem?_eq_some_iff.1 e).1 ?_).trans e
 intro hv
 obtain ⟨_, ⟨rfl, _⟩ | ⟨g', cap, cur, rfl, _, hh, _⟩⟩ := h
 ·cases hv
 ·cases hv
  rw [hh] at e
  injection e with e
  injection e with _ e
  exact absurd e (by decide)
inductive PtB where
 | any
 | is (v : Value)
 | q (k : Rat)
 | sl (l : List Rat)
 | bx (x : Bx)
 | slb (x : Bx)
def PtB.ok (B : Nat) (w : World) : PtB → Value → Prop
 | .any, _ => True
 | .is u, v => v = u
 | .q k, v => RIs w v k
 | .sl l, v => ∃ g, v = .slice (some ⟨g, 0, none⟩) l.length l.length ∧ B ≤ g ∧ RRow w g l
 | .bx x, v => ∃ bv : BV, v = .agg bv.cells.toArray ∧ bv.ok w x
 | .slb x, v => ∃ g, ∃ bv : BV, v = .slice (some ⟨g, 0, none⟩) 1 1 ∧ B ≤ g ∧ BlkC 72 w g bv.cells ∧ bv.ok w x
theorem RRow.grown {w w' : World} {g : Nat} {l : List Rat} {rb : Option Nat} (h : RRow w g l) (hg : w.grownBy w' rb) (hn : some g ≠ rb) (k : Keep w w') : RRow w' g l := by
 obtain ⟨h1, h2⟩ := h
 refine ⟨Nat.lt_of_lt_of_le h1 hg.size, fun i q hq => ?_⟩
 obtain ⟨a, n, b, c, m, d, k0, k1, k2, k3, k4⟩ := h2 i q hq
 have e := fun j => World.cell?_of_block (a := ⟨g, j, none⟩) (hg.block g h1 hn)
 exact ⟨a, n, b, c, m, d, (e _).trans k0, (e _).trans k1, (e _).trans k2, (e _).trans k3, k4.keep k⟩
theorem PtB.ok.mono {B : Nat} {rb : Option Nat} (hrb : ∀ k, rb = some k → k < B) {w w' : World} (k : Keep w w') (g : w.grownBy w' rb) : ∀ {p : PtB} {v : Value}, p.ok B w v → p.ok B w' v
 | .any, _, _ => trivial
 | .is _, _, h => h
 | .q _, _, h => RIs.keep h k
 | .sl _, _, ⟨g1, h1, h2, h3⟩ => ⟨g1, h1, h2, h3.grown g (fun e => by have := hrb g1 e.symm; omega) k⟩
 | .bx _, _, ⟨bv, h1, h2⟩ => ⟨bv, h1, h2.keep k⟩
 | .slb _, _, ⟨g1, bv, h1, h2, h3, h4⟩ => ⟨g1, bv, h1, h2, h3.grown g (fun e => by have := hrb g1 e.symm; omega), h4.keep k⟩
theorem region_row {P : Program} {id : Nat} {ops : List Oper} {m : Nat} {a0 : Act} {w0 : World} {Q : Exit → Act → World → Prop} {B : Nat} {rb : Option Nat} (hrb : ∀ k, rb = some k → k < B) (hx : P.follows .mixedOrders = true) (hp : parB m ops = true) (hm : a0.tmps.size = m)
  (s : Nat → PtB) (J : (Nat → Bool) → Act → World → Prop) (hJ : ∀ f g a w, (∀ j, j < ops.length → f j = g j) → J f a w → J g a w) (h0 : J (fun _ => false) a0 w0.drew)
  (hstep : ∀ i o f a w, ops[i]? = some o → J f a w → f i = false →
   (∀ j p d, ops[j]? = some p → (o.after.any fun e => Region.binds .any e && e.on == j) = true → p.dst = some d → (s j).ok B w (a.tmps.getD d undef)) →
   (∀ j, (o.after.any fun e => Region.binds .any e && e.on == j) = true → f j = true) →
   (∀ k p j, ops[k]? = some p → f k = true → (p.after.any fun e => Region.binds .any e && e.on == j) = true → f j = true) →
   (∀ t, (∀ p ∈ ops, p.dst ≠ some t) → a.tmps.getD t undef = a0.tmps.getD t undef) →
   a.tmps.size = a0.tmps.size →
   ParOK P o a w (fun v w' => Keep w w' ∧ w.grownBy w' rb ∧ J (upd f i) (a.put o.dst v) w' ∧ (s i).ok B w' v))
  (hend : ∀ (vs : Nat → Value) w, J (fun _ => true) (putAll ops vs a0) w → Q .normal (putAll ops vs a0) w) :
  (Code.region id ops.toArray true).wp P Q a0 w0 := by
 refine region_act hx hp hm J (fun i v w => (s i).ok B w v) hJ h0 ?_ (fun vs w h _ => hend vs w h)
 intro i o f a w hi hW hf hdep hS hcl hfr hsz
 have hany : ∀ (p : Oper) j, (∀ e ∈ p.after, Region.binds .any e = true → f e.on = true) → (p.after.any fun e => Region.binds .any e && e.on == j) = true → f j = true := by
  intro p j h hj
  rw [Array.any_eq_true'] at hj
  obtain ⟨e, he, hb⟩ := hj
  simp only [Bool.and_eq_true, beq_iff_eq] at hb
  rw [← hb.2]
  exact h e he hb.1
 intro Q'
 refine Oper.wp_mono ?_ (hstep i o f a w hi hW hf (fun j p d hp hj hd => hS j p d hp (hany o j hdep hj) hd) (fun j hj => hany o j hdep hj) (fun k p j hk hfk hj => hany p j (hcl k p hk hfk) hj) hfr hsz Q')
 rintro a' w' ⟨v, rfl, hk, hg, hj, hv⟩
 exact ⟨v, rfl, fun _ _ h => PtB.ok.mono hrb hk hg h, hj, hv⟩
structure BJ (w8 wk w0 : World) (rowv : Value) (g9 g4 m : Nat) (xs : List Value) (v : SV) (u : RV) (x : Bx) (f : Nat → Bool) (a : Act) (w : World) : Prop where
 k : Keep wk w
 b : Below w0.heap.size w0 w
 sz : w8.heap.size ≤ w.heap.size
 seg : BlkC 34 w g9 v.cells
 byb : BlkC 30 w g4 u.cells
 sn : some g9 ≠ rowv.ownBlock
 bn : some g4 ≠ rowv.ownBlock
 row : f 45 = false → w.ownsRow w0.heap.size 72 18 rowv m xs
 out : f 45 = true → ∃ bv : BV, w.ownsRow w0.heap.size 72 18 (a.tmps.getD 62 undef) (m + 1) (xs ++ bv.cells) ∧ bv.ok w x
 old : f 46 = false → a.tmps.getD 7 undef = rowv
 new : f 46 = true → a.tmps.getD 7 undef = a.tmps.getD 62 undef
 ord : f 46 = true → f 45 = true
section
variable {w8 wk w0 : World} {rowv : Value} {g9 g4 m : Nat} {xs : List Value} {v : SV} {u : RV} {x : Bx} {f : Nat → Bool} {a : Act} {w : World}
theorem BJ.ext {g : Nat → Bool} (hn : ∀ j, j < 47 → f j = g j) (h : BJ w8 wk w0 rowv g9 g4 m xs v u x f a w) : BJ w8 wk w0 rowv g9 g4 m xs v u x g a w :=
 ⟨h.k, h.b, h.sz, h.seg, h.byb, h.sn, h.bn, fun e => h.row ((hn 45 (by omega)).trans e), fun e => h.out ((hn 45 (by omega)).trans e), fun e => h.old ((hn 46 (by omega)).trans e), fun e => h.new ((hn 46 (by omega)).trans e), fun e => (hn 45 (by omega)).symm.trans (h.ord ((hn 46 (by omega)).trans e))⟩
theorem BJ.gr (h : BJ w8 wk w0 rowv g9 g4 m xs v u x f a w) {w' : World} (hb : Below w.heap.size w w') (i : Nat) (o : Option Nat) (z : Value) (ho : o ≠ some 62 ∧ o ≠ some 7) (hi : i ≠ 45 ∧ i ≠ 46) : BJ w8 wk w0 rowv g9 g4 m xs v u x (upd f i) (a.put o z) w' := by
 have e5 : upd f i 45 = f 45 := by unfold upd; rw [if_neg (Ne.symm hi.1)]
 have e6 : upd f i 46 = f 46 := by unfold upd; rw [if_neg (Ne.symm hi.2)]
 have hg := grown_of_below hb none
 have hk := keep_below hb
 refine ⟨h.k.trans hk, h.b.trans (hb.mono h.b.size), Nat.le_trans h.sz hb.size, h.seg.still hg, h.byb.still hg, h.sn, h.bn, ?_, ?_, ?_, ?_, ?_⟩
 ·rw [e5]; exact fun e => owns_below (h.row e) hb
 ·rw [e5, put_other z ho.1]
  intro e
  obtain ⟨bv, h1, h2⟩ := h.out e
  exact ⟨bv, owns_below h1 hb, h2.keep hk⟩
 ·rw [e6, put_other z ho.2]; exact h.old
 ·rw [e6, put_other z ho.2, put_other z ho.1]; exact h.new
 ·rw [e5, e6]; exact h.ord
theorem BJ.same (h : BJ w8 wk w0 rowv g9 g4 m xs v u x f a w) (i : Nat) (o : Option Nat) (z : Value) (ho : o ≠ some 62 ∧ o ≠ some 7) (hi : i ≠ 45 ∧ i ≠ 46) : BJ w8 wk w0 rowv g9 g4 m xs v u x (upd f i) (a.put o z) w :=
 h.gr (Below.refl _ _) i o z ho hi
theorem BJ.app (h : BJ w8 wk w0 rowv g9 g4 m xs v u x f a w) {n : Nat} (hsz : a.tmps.size = n) (hn : 62 < n) (hf : f 45 = false) {v' : Value} {w' : World} {bv : BV} (h1 : w'.ownsRow w0.heap.size 72 18 v' (m + 1) (xs ++ bv.cells)) (h2 : w.grownBy w' rowv.ownBlock) (hk : Keep w w') (ok : bv.ok w x) : BJ w8 wk w0 rowv g9 g4 m xs v u x (upd f 45) (a.put (some 62) v') w' := by
 have hf6 : f 46 = false := by
  cases e : f 46 with
  | false => rfl
  | true => rw [h.ord e] at hf; cases hf
 have e6 : upd f 45 46 = false := by unfold upd; rw [if_neg (by omega)]; exact hf6
 have hrow := h.row hf
 refine ⟨h.k.trans hk, below_grown hrow h.b h.b.size h2, Nat.le_trans h.sz h2.size, h.seg.grown h2 h.sn, h.byb.grown h2 h.bn, h.sn, h.bn, ?_, ?_, ?_, ?_, ?_⟩
 ·intro e; unfold upd at e; rw [if_pos rfl] at e; cases e
 ·intro _; rw [put_same v' (by rw [hsz]; exact hn)]; exact ⟨bv, h1, ok.keep hk⟩
 ·intro _; rw [put_other v' (by simp)]; exact h.old hf6
 ·intro e; rw [e6] at e; cases e
 ·intro e; rw [e6] at e; cases e
theorem BJ.asgn (h : BJ w8 wk w0 rowv g9 g4 m xs v u x f a w) {n : Nat} (hsz : a.tmps.size = n) (hn : 7 < n) (h45 : f 45 = true) : BJ w8 wk w0 rowv g9 g4 m xs v u x (upd f 46) (a.put (some 7) (a.tmps.getD 62 undef)) w := by
 have e5 : upd f 46 45 = f 45 := by unfold upd; rw [if_neg (by omega)]
 refine ⟨h.k, h.b, h.sz, h.seg, h.byb, h.sn, h.bn, ?_, ?_, ?_, ?_, ?_⟩
 ·rw [e5, h45]; intro e; cases e
 ·rw [e5, put_other _ (by simp)]; exact h.out
 ·intro e; unfold upd at e; rw [if_pos rfl] at e; cases e
 ·intro _; rw [put_same _ (by rw [hsz]; exact hn), put_other _ (by simp)]
 ·intro _; rw [e5]; exact h45
end
theorem boxInfo : (Try.prog.info? 72).map (fun i => (i.size, i.bytes)) = some (18, 272) := by kernel_rfl
end Go.Proofs.Ytnojfiokdhcbjaa
