/-
  frac.Make, Of, Least, Most: the walks. (Printed by gen_least.py.)
-/
import Derived.Test.YtnojfiokdhcbjaaGAdd
namespace Go.Proofs.Ytnojfiokdhcbjaa
open Go Go.RowKit
set_option maxHeartbeats 8000000 in
set_option maxRecDepth 100000 in
theorem make_any (x y : Int) (v u : Value) (w : World) (hv : ZIs w v x) (hu : ZIs w u y) (hx : (limbs x.natAbs).length ≤ 800000) (hy : (limbs y.natAbs).length ≤ 800000) (hd0 : y ≠ 0) :
  Calls Try.prog 83 #[v, u] w fun e w' => ∃ r, e = .returned (.tuple #[r, .int .i64 0]) ∧ RIs w' r (Rat.divInt x y) ∧ Below w.heap.size w w' := by
 obtain ⟨a, n, b, rfl⟩ := hv.parts
 obtain ⟨c, m, d, rfl⟩ := hu.parts
 have HB1 := Lib.hid (lowW_1 w a n b c m d)
 have HB2 := Lib.hid (lowW_2 w a n b c m d)
 have HB3 := Lib.hid (lowW_3 w a n b c m d)
 have HG := Lib.hid (lowW_g w a n b c m d)
 have HX := Lib.hid (hv.keep (keep_below HG.out))
 have HY := Lib.hid (hu.keep (keep_below HG.out))
 have HXL := Lib.hid hx
 have HYL := Lib.hid hy
 have HD0 := Lib.hid hd0
 obtain ⟨x0, x1, x2, x3, x4⟩ := blk2 HB1.out
 obtain ⟨y0, y1, y2, y3, y4⟩ := blk2 HB2.out
 clear hv hu hx hy hd0
 go_enter Try.func83, Try.ntmps83
 go_wp2_with fail
 refine (sign_any y _ _ HY.out (by have := HYL.out; omega)).mono ?_
 rintro e w1 ⟨rfl, hg1⟩
 have hs := signZ_ne HD0.out
 have gr := Gr.grown hg1
 have HC1 := Lib.hid (HB1.out.still gr)
 have HC2 := Lib.hid (HB2.out.still gr)
 have HC3 := Lib.hid (HB3.out.still gr)
 have HX1 := Lib.hid (Gr.zIs hg1 HX.out)
 have HY1 := Lib.hid (Gr.zIs hg1 HY.out)
 have HG1 : Hid (Below w.heap.size w w1) := HG.out.trans (hg1.b.mono HG.out.size)
 clear x0 x1 x2 x3 x4 y0 y1 y2 y3 y4 HB1 HB2 HB3 HX HY HG hg1 gr
 obtain ⟨x0, x1, x2, x3, x4⟩ := blk2 HC1.out
 obtain ⟨y0, y1, y2, y3, y4⟩ := blk2 HC2.out
 go_wp2_with fail
 refine (lowest_any x y _ _ _ HX1.out HY1.out HXL.out HYL.out HD0.out).mono ?_
 rintro e w2 ⟨r, rfl, hr, hb2⟩
 obtain ⟨a7, n7, b7, a8, n8, b8, rfl⟩ := hr.parts
 have HR := Lib.hid hr
 have gr2 := grown_of_below hb2 none
 have HD3 := Lib.hid (HC3.out.still gr2)
 have HG2 : Hid (Below w.heap.size w w2) := HG1.out.trans (hb2.mono HG1.out.size)
 clear x0 x1 x2 x3 x4 y0 y1 y2 y3 y4 HC1 HC2 HC3 HX1 HY1 HG1 hb2 gr2 hr hs
 obtain ⟨i0, i1, i2, i3⟩ := blk4 HD3.out
 obtain ⟨j0, j1, j2, j3, j4⟩ := blk4f HD3.out
 go_wp2_with fail
 obtain ⟨s1, s2⟩ := r_shut HR.out HD3.out (by decide)
 exact blk_ret2 (T := 30) rfl (by kernel_rfl) rfl rfl s1 ⟨_, rfl, s2, below_set4 HG2.out (by omega) _ _ _ _⟩
theorem limbs_i64 {n : Int} (h0 : -9223372036854775808 ≤ n) (h1 : n ≤ 9223372036854775807) : (limbs n.natAbs).length ≤ 2 := by
 rw [limbs_len]
 have : (4294967296 : Nat) ^ 2 = 18446744073709551616 := by decide
 omega
set_option maxHeartbeats 8000000 in
set_option maxRecDepth 100000 in
theorem of_any (x y : Int) (w : World) (hx0 : -9223372036854775808 ≤ x) (hx1 : x ≤ 9223372036854775807) (hy0 : -9223372036854775808 ≤ y) (hy1 : y ≤ 9223372036854775807) (hd0 : y ≠ 0) :
  Calls Try.prog 45 #[.int .i64 x, .int .i64 y] w fun e w' => ∃ r, e = .returned (.tuple #[r, .int .i64 0]) ∧ RIs w' r (Rat.divInt x y) ∧ Below w.heap.size w w' := by
 have HB : Hid (BlkC 30 (w.alloc (.cells #[.slice none 0 0, .bool false, .slice none 0 0, .bool false] 30)) w.heap.size [.slice none 0 0, .bool false, .slice none 0 0, .bool false]) := BlkC.new _ w [.slice none 0 0, .bool false, .slice none 0 0, .bool false]
 have HG : Hid (Own w.heap.size w (w.alloc (.cells #[.slice none 0 0, .bool false, .slice none 0 0, .bool false] 30))) := own_alloc _ _
 have HXL := Lib.hid (limbs_i64 hx0 hx1)
 have HYL := Lib.hid (limbs_i64 hy0 hy1)
 have HD0 := Lib.hid hd0
 have HI := Lib.hid (And.intro (And.intro hx0 hx1) (And.intro hy0 hy1))
 clear hx0 hx1 hy0 hy1 hd0
 go_enter Try.func45, Try.ntmps45
 go_wp2_with fail
 refine (zedOf_any x _ HI.out.1.1 HI.out.1.2).mono ?_
 rintro e w1 ⟨v1, rfl, hv1, hg1⟩
 have HV1 := Lib.hid hv1
 have HB1 := Lib.hid (HB.out.still (Gr.grown hg1))
 have HG1 := Lib.hid (HG.out.call HG.out.size hg1)
 clear hv1 hg1 HB HG
 obtain ⟨a, n, b, rfl⟩ := HV1.out.parts
 go_wp2_with fail
 refine (zedOf_any y _ HI.out.2.1 HI.out.2.2).mono ?_
 rintro e w2 ⟨v2, rfl, hv2, hg2⟩
 have HV2 := Lib.hid hv2
 have HU2 := Lib.hid (Gr.zIs hg2 HV1.out)
 have HB2 := Lib.hid (HB1.out.still (Gr.grown hg2))
 have HG2 := Lib.hid (HG1.out.call HG1.out.size hg2)
 clear hv2 hg2 HB1 HG1 HV1
 obtain ⟨c, m, d, rfl⟩ := HV2.out.parts
 go_wp2_with fail
 refine (make_any x y _ _ _ HU2.out HV2.out (by have := HXL.out; omega) (by have := HYL.out; omega) HD0.out).mono ?_
 rintro e w3 ⟨r, rfl, hr, hb3⟩
 obtain ⟨a7, n7, b7, a8, n8, b8, rfl⟩ := hr.parts
 have HR := Lib.hid hr
 have HB3 := Lib.hid (HB2.out.still (grown_of_below hb3 none))
 have HG3 : Hid (Below w.heap.size w w3) := HG2.out.b.trans (hb3.mono HG2.out.size)
 clear hr hb3 HB2 HG2
 obtain ⟨i0, i1, i2, i3⟩ := blk4 HB3.out
 obtain ⟨j0, j1, j2, j3, j4⟩ := blk4f HB3.out
 go_wp2_with fail
 obtain ⟨s1, s2⟩ := r_shut HR.out HB3.out (by decide)
 exact blk_ret2 (T := 30) rfl (by kernel_rfl) rfl rfl s1 ⟨_, rfl, s2, below_set4 HG3.out (by omega) _ _ _ _⟩
def RRow (w : World) (g : Nat) (l : List Rat) : Prop := g < w.heap.size ∧ ∀ i q, l[i]? = some q → ∃ (a : Option Addr) (n : Nat) (b : Bool) (c : Option Addr) (m : Nat) (d : Bool),
 w.cell? ⟨g, i * 4, none⟩ = some (.slice a n n) ∧ w.cell? ⟨g, i * 4 + 1, none⟩ = some (.bool b) ∧ w.cell? ⟨g, i * 4 + 2, none⟩ = some (.slice c m m) ∧ w.cell? ⟨g, i * 4 + 3, none⟩ = some (.bool d) ∧ RIs w (.agg #[.slice a n n, .bool b, .slice c m m, .bool d]) q
theorem RRow.still {w w' : World} {g : Nat} {l : List Rat} (h : RRow w g l) (hb : Below w.heap.size w w') : RRow w' g l := by
 obtain ⟨h1, h2⟩ := h
 refine ⟨Nat.lt_of_lt_of_le h1 hb.size, fun i q hq => ?_⟩
 obtain ⟨a, n, b, c, m, d, k0, k1, k2, k3, k4⟩ := h2 i q hq
 have e := fun j => World.cell?_of_block (a := ⟨g, j, none⟩) (hb.block g h1)
 exact ⟨a, n, b, c, m, d, (e _).trans k0, (e _).trans k1, (e _).trans k2, (e _).trans k3, k4.keep (keep_below hb)⟩
theorem cmpR_gt {q o : Rat} (h : o < q) : cmpR q o = 1 := by
 unfold cmpR
 rw [if_neg (Rat.not_lt.2 (Rat.le_of_lt h)), if_pos h]
def bestR (lt : Rat → Rat → Bool) : List Rat → Rat
 | [] => 0
 | x :: r => r.foldl (fun o y => if lt y o then y else o) x
theorem bestR_succ (lt : Rat → Rat → Bool) (l : List Rat) (i : Nat) (q : Rat) (h : l[i]? = some q) : bestR lt (l.take (i + 1)) = if i = 0 then q else if lt q (bestR lt (l.take i)) then q else bestR lt (l.take i) := by
 have e : l.take (i + 1) = l.take i ++ [q] := by rw [List.take_add_one, h]; rfl
 rw [e]
 by_cases h0 : i = 0
 ·subst h0; simp [bestR]
 ·rw [if_neg h0]
  cases hl : l.take i with
  | nil =>
   have hlen := (List.getElem?_eq_some_iff.1 h).1
   have h2 := congrArg List.length hl
   rw [List.length_take, List.length_nil] at h2
   omega
  | cons x r =>
   simp only [bestR, List.cons_append, List.foldl_append, List.foldl_cons, List.foldl_nil]
   rfl
theorem bestR_mem (lt : Rat → Rat → Bool) : ∀ (l : List Rat), l ≠ [] → bestR lt l ∈ l := by
 have h : ∀ (r : List Rat) (x : Rat), r.foldl (fun o y => if lt y o then y else o) x ∈ x :: r := by
  intro r
  induction r with
  | nil => intro x; simp
  | cons y r ih =>
   intro x
   rw [List.foldl_cons]
   split
   ·have := ih y; simp at this ⊢; rcases this with h | h <;> simp [h]
   ·have := ih x; simp at this ⊢; rcases this with h | h <;> simp [h]
 intro l hl
 cases l with
 | nil => exact absurd rfl hl
 | cons x r => exact h r x
section
variable (w : World)
abbrev lsW : World := (w.alloc (.cells #[.slice none 0 0, .bool false, .slice none 0 0, .bool false] 30)).alloc (.cells #[.slice none 0 0, .bool false, .slice none 0 0, .bool false] 30)
theorem lsW_1 : BlkC 30 (lsW w) w.heap.size [.slice none 0 0, .bool false, .slice none 0 0, .bool false] := (BlkC.new _ w [.slice none 0 0, .bool false, .slice none 0 0, .bool false]).still (grown_alloc _ _ none)
theorem lsW_2 : BlkC 30 (lsW w) (w.heap.size + 1) [.slice none 0 0, .bool false, .slice none 0 0, .bool false] := blk_at (cs := [.slice none 0 0, .bool false, .slice none 0 0, .bool false]) (by simp)
theorem lsW_g : Own w.heap.size w (lsW w) := (own_alloc _ _).alloc (by simp) _
end
theorem ris_zero (w : World) : RIs w (.agg #[.slice none 0 0, .bool false, .slice none 0 0, .bool false]) 0 := by
 refine ⟨_, rfl, [.slice none 0 0, .bool false], [.slice none 0 0, .bool false], 0, rfl, ?_, ?_, .inr ⟨rfl, rfl⟩⟩
 ·exact ⟨none, by rw [show (0 : Rat).num.natAbs = 0 from rfl, limbs_zero]; rfl, .inl (by rw [show (0 : Rat).num.natAbs = 0 from rfl, limbs_zero])⟩
 ·exact ⟨none, by rw [Int.natAbs_zero, limbs_zero]; rfl, .inl (by rw [Int.natAbs_zero, limbs_zero])⟩
def LsRel (lt : Rat → Rat → Bool) (w : World) (g : Nat) (l : List Rat) (i : Nat) (wr : World) : Prop := Own w.heap.size w wr ∧ RRow wr g l ∧ g < w.heap.size ∧ BlkC 30 wr w.heap.size [.slice none 0 0, .bool false, .slice none 0 0, .bool false] ∧
 ∃ (a : Option Addr) (n : Nat) (b : Bool) (c : Option Addr) (m : Nat) (d : Bool), BlkC 30 wr (w.heap.size + 1) [.slice a n n, .bool b, .slice c m m, .bool d] ∧ RIs wr (.agg #[.slice a n n, .bool b, .slice c m m, .bool d]) (bestR lt (l.take i))
theorem LsRel.stay {lt : Rat → Rat → Bool} {w : World} {g : Nat} {l : List Rat} {i : Nat} {wr wn : World} (h : LsRel lt w g l i wr) (hg : Gr wr wn) (he : bestR lt (l.take (i + 1)) = bestR lt (l.take i)) : LsRel lt w g l (i + 1) wn := by
 obtain ⟨h1, h2, h3, h4, a, n, b, c, m, d, h5, h6⟩ := h
 exact ⟨h1.call h1.size hg, h2.still hg.b, h3, h4.still (Gr.grown hg), a, n, b, c, m, d, h5.still (Gr.grown hg), by rw [he]; exact h6.keep (Gr.keep hg)⟩
theorem LsRel.mono {lt : Rat → Rat → Bool} {w : World} {g : Nat} {l : List Rat} {i : Nat} {wr wn : World} (h : LsRel lt w g l i wr) (hg : Gr wr wn) : LsRel lt w g l i wn := by
 obtain ⟨h1, h2, h3, h4, a, n, b, c, m, d, h5, h6⟩ := h
 exact ⟨h1.call h1.size hg, h2.still hg.b, h3, h4.still (Gr.grown hg), a, n, b, c, m, d, h5.still (Gr.grown hg), h6.keep (Gr.keep hg)⟩
theorem LsRel.turn {lt : Rat → Rat → Bool} {w : World} {g : Nat} {l : List Rat} {i : Nat} {wr wn : World} {q : Rat} {a : Option Addr} {n : Nat} {b : Bool} {c : Option Addr} {m : Nat} {d : Bool} (h : LsRel lt w g l i wr) (hg : Gr wr wn)
  (hq : RIs wn (.agg #[.slice a n n, .bool b, .slice c m m, .bool d]) q) (he : bestR lt (l.take (i + 1)) = q) :
  LsRel lt w g l (i + 1) ((((wn.setCell ⟨w.heap.size + 1, 0, none⟩ (.slice a n n)).setCell ⟨w.heap.size + 1, 1, none⟩ (.bool b)).setCell ⟨w.heap.size + 1, 2, none⟩ (.slice c m m)).setCell ⟨w.heap.size + 1, 3, none⟩ (.bool d)) := by
 obtain ⟨h1, h2, h3, h4, a', n', b', c', m', d', h5, h6⟩ := h
 obtain ⟨k1, k2, k3⟩ := set4_all (T := 30) (h5.still (Gr.grown hg)) (by decide) (.slice a n n) (.bool b) (.slice c m m) (.bool d)
 have r := h2.still hg.b
 refine ⟨own_set4 (h1.call h1.size hg) (by omega) _ _ _ _, ⟨Nat.lt_of_lt_of_le r.1 k1.size, fun j p hp => ?_⟩, h3, (h4.still (Gr.grown hg)).grown k1 (by simp), a, n, b, c, m, d, k3, by rw [he]; exact hq.keep k2⟩
 obtain ⟨a8, n8, b8, c8, m8, d8, e0, e1, e2, e3, e4⟩ := r.2 j p hp
 have e := fun t => World.cell?_of_block (a := ⟨g, t, none⟩) (k1.block g r.1 (by intro e; have := Option.some.inj e; omega))
 exact ⟨a8, n8, b8, c8, m8, d8, (e _).trans e0, (e _).trans e1, (e _).trans e2, (e _).trans e3, e4.keep k2⟩
set_option maxHeartbeats 8000000 in
set_option maxRecDepth 100000 in
theorem least_any (l : List Rat) (g : Nat) (w : World) (hl : RRow w g l) (hn : l.length ≤ 1000) (hq : ∀ q, q ∈ l → rlen q ≤ 100000) :
  Calls Try.prog 30 #[.slice (some ⟨g, 0, none⟩) l.length l.length] w fun e w' => ∃ r, e = .returned r ∧ RIs w' r (bestR (fun y o => decide (y < o)) l) ∧ Own w.heap.size w w' := by
 obtain ⟨n, hnn⟩ : ∃ n, l.length = n := ⟨_, rfl⟩
 have HR : Hid (LsRel (fun y o => decide (y < o)) w g l 0 (lsW w)) := ⟨lsW_g w, hl.still (lsW_g w).b, hl.1, lsW_1 w, _, _, _, _, _, _, lsW_2 w, ris_zero _⟩
 have HQ := Lib.hid hq
 have HN := Lib.hid hnn
 rw [hnn]
 have hn2 : n ≤ 1000 := by omega
 clear hl hq hnn hn
 go_enter Try.func30, Try.ntmps30
 go_wp2_with fail
 go_loopg [8] n (fun k s8 wr => ∃ (i : Nat), s8 = .int .i64 i ∧ i ≤ n ∧ n ≤ k + i ∧ Hid (LsRel (fun y o => decide (y < o)) w g l i wr))
 case atStart => exact ⟨0, rfl, Nat.zero_le _, by omega, HR⟩
 case round =>
  clear HR
  obtain ⟨i, rfl, hin, hk, HL⟩ := hrel
  obtain ⟨h1, h2, h3, h4, a, p, b, c, m, d, h5, h6⟩ := HL.out
  have HO := Lib.hid h5
  have HO6 := Lib.hid h6
  have HO4 := Lib.hid h4
  have HO1 := Lib.hid h1
  have HO2 := Lib.hid h2
  clear h1 h2 h4 h5 h6
  by_cases hlt : i < n
  ·have hlz : (i : Int) < (n : Int) := by omega
   obtain ⟨q, hq⟩ : ∃ q, l[i]? = some q := ⟨_, List.getElem?_eq_getElem (by rw [HN.out]; exact hlt)⟩
   obtain ⟨a', p', b', c', m', d', x0, x1, x2, x3, x4⟩ := HO2.out.2 i q hq
   have HQI := Lib.hid x4
   have HS := Lib.hid (bestR_succ (fun y o => decide (y < o)) l i q hq)
   have HQL : Hid (rlen q ≤ 100000) := HQ.out q (List.mem_of_getElem? hq)
   have HGA : Hid (Gr wr (wr.alloc (.cells #[.slice a' p' p', .bool b', .slice c' m' m', .bool d'] 30))) := own_alloc _ _
   have ia0 : (0 : Int) ≤ (i : Int) := by omega
   have iat : ((i : Int)).toNat = i := by omega
   have ne1 : ¬ w.heap.size + 1 = wr.heap.size := by have := HO.out.lt; omega
   have ne2 : ¬ wr.heap.size = w.heap.size + 1 := by have := HO.out.lt; omega
   obtain ⟨k0, k1, k2, k3⟩ := blk4 HO.out
   obtain ⟨f0, f1, f2, f3, f4⟩ := blk4f HO.out
   clear hq x4
   by_cases h0 : i = 0
   ·subst h0
    have hi0 : (((0 : Nat) : Int) == 0) = true := rfl
    go_wp2_with fail
    have he := HS.out.trans (if_pos trivial)
    go_roundg (n - 1)
    case measure => omega
    case rel => exact ⟨1, rfl, by omega, by omega, (HL.out.turn (Own.refl _ _) HQI.out he).mono (own_alloc _ _)⟩
   ·have hi0 : ((i : Int) == 0) = false := beq_false_of_ne (by omega)
    have hi1 : ¬ (i : Int) = 0 := by omega
    have hbm : rlen (bestR (fun y o => decide (y < o)) (l.take i)) ≤ 100000 := by
     refine HQ.out _ (List.mem_of_mem_take (bestR_mem (fun y o => decide (y < o)) (l.take i) ?_))
     intro e
     have h2 := congrArg List.length e
     rw [List.length_take, List.length_nil, HN.out] at h2
     omega
    have HBM := Lib.hid hbm
    have HE := Lib.hid (HS.out.trans (if_neg h0))
    obtain ⟨o, ho⟩ : ∃ o, bestR (fun y o => decide (y < o)) (l.take i) = o := ⟨_, rfl⟩
    rw [ho] at HBM HE HO6
    have HOO := Lib.hid ho
    clear hbm ho HS
    go_wp2_with fail
    refine (fcmp_any q o _ _ _ (HQI.out.keep (keep_alloc _ _)) (HO6.out.keep (keep_alloc _ _)) (by have := HQL.out; unfold rlen at this; omega) (by have := HBM.out; unfold rlen at this; omega)).mono ?_
    rintro e w1 ⟨rfl, hg1⟩
    have HG1 : Hid (Gr wr w1) := HGA.out.call HGA.out.size hg1
    have HX1 : Hid (BlkC 30 w1 wr.heap.size [.slice a' p' p', .bool b', .slice c' m' m', .bool d']) := (BlkC.new _ wr [.slice a' p' p', .bool b', .slice c' m' m', .bool d']).still (Gr.grown hg1)
    have HO9 := Lib.hid (HO.out.still (Gr.grown HG1.out))
    clear k0 k1 k2 k3 f0 f1 f2 f3 f4 x0 x1 x2 x3 hg1 HGA
    obtain ⟨k0, k1, k2, k3⟩ := blk4 HO9.out
    obtain ⟨f0, f1, f2, f3, f4⟩ := blk4f HO9.out
    obtain ⟨u0, u1, u2, u3⟩ := blk4 HX1.out
    by_cases hb : q < o
    ·rw [show cmpR q o = -1 from if_pos hb]
     go_wp2_with fail
     have he := HE.out
     rw [if_pos (by simpa using hb)] at he
     go_roundg (n - (i + 1))
     case measure => omega
     case rel => exact ⟨i + 1, by go_num, by omega, by omega, HL.out.turn HG1.out (HQI.out.keep (Gr.keep HG1.out)) he⟩
    ·have hcc : ¬ cmpR q o < 0 := by unfold cmpR; rw [if_neg hb]; split <;> omega
     go_wp2_with fail
     have he := HE.out
     rw [if_neg (by simpa using hb)] at he
     go_roundg (n - (i + 1))
     case measure => omega
     case rel => exact ⟨i + 1, by go_num, by omega, by omega, HL.out.stay HG1.out (he.trans HOO.out.symm)⟩
  ·have hlz : ¬ (i : Int) < (n : Int) := by omega
   have hie : i = n := by omega
   subst hie
   obtain ⟨k0, k1, k2, k3⟩ := blk4 HO.out
   obtain ⟨i0, i1, i2, i3⟩ := blk4 HO4.out
   obtain ⟨j0, j1, j2, j3, j4⟩ := blk4f HO4.out
   go_wp2_with fail
   obtain ⟨s1, s2⟩ := r_shut HO6.out HO4.out (by decide)
   refine r_ret rfl rfl rfl s1 ⟨_, rfl, ?_, own_set4 HO1.out (by omega) _ _ _ _⟩
   rw [List.take_of_length_le (by rw [HN.out]; exact Nat.le_refl _)] at s2
   exact s2
set_option maxHeartbeats 8000000 in
set_option maxRecDepth 100000 in
theorem most_any (l : List Rat) (g : Nat) (w : World) (hl : RRow w g l) (hn : l.length ≤ 1000) (hq : ∀ q, q ∈ l → rlen q ≤ 100000) :
  Calls Try.prog 37 #[.slice (some ⟨g, 0, none⟩) l.length l.length] w fun e w' => ∃ r, e = .returned r ∧ RIs w' r (bestR (fun y o => decide (o < y)) l) ∧ Own w.heap.size w w' := by
 obtain ⟨n, hnn⟩ : ∃ n, l.length = n := ⟨_, rfl⟩
 have HR : Hid (LsRel (fun y o => decide (o < y)) w g l 0 (lsW w)) := ⟨lsW_g w, hl.still (lsW_g w).b, hl.1, lsW_1 w, _, _, _, _, _, _, lsW_2 w, ris_zero _⟩
 have HQ := Lib.hid hq
 have HN := Lib.hid hnn
 rw [hnn]
 have hn2 : n ≤ 1000 := by omega
 clear hl hq hnn hn
 go_enter Try.func37, Try.ntmps37
 go_wp2_with fail
 go_loopg [8] n (fun k s8 wr => ∃ (i : Nat), s8 = .int .i64 i ∧ i ≤ n ∧ n ≤ k + i ∧ Hid (LsRel (fun y o => decide (o < y)) w g l i wr))
 case atStart => exact ⟨0, rfl, Nat.zero_le _, by omega, HR⟩
 case round =>
  clear HR
  obtain ⟨i, rfl, hin, hk, HL⟩ := hrel
  obtain ⟨h1, h2, h3, h4, a, p, b, c, m, d, h5, h6⟩ := HL.out
  have HO := Lib.hid h5
  have HO6 := Lib.hid h6
  have HO4 := Lib.hid h4
  have HO1 := Lib.hid h1
  have HO2 := Lib.hid h2
  clear h1 h2 h4 h5 h6
  by_cases hlt : i < n
  ·have hlz : (i : Int) < (n : Int) := by omega
   obtain ⟨q, hq⟩ : ∃ q, l[i]? = some q := ⟨_, List.getElem?_eq_getElem (by rw [HN.out]; exact hlt)⟩
   obtain ⟨a', p', b', c', m', d', x0, x1, x2, x3, x4⟩ := HO2.out.2 i q hq
   have HQI := Lib.hid x4
   have HS := Lib.hid (bestR_succ (fun y o => decide (o < y)) l i q hq)
   have HQL : Hid (rlen q ≤ 100000) := HQ.out q (List.mem_of_getElem? hq)
   have HGA : Hid (Gr wr (wr.alloc (.cells #[.slice a' p' p', .bool b', .slice c' m' m', .bool d'] 30))) := own_alloc _ _
   have ia0 : (0 : Int) ≤ (i : Int) := by omega
   have iat : ((i : Int)).toNat = i := by omega
   have ne1 : ¬ w.heap.size + 1 = wr.heap.size := by have := HO.out.lt; omega
   have ne2 : ¬ wr.heap.size = w.heap.size + 1 := by have := HO.out.lt; omega
   obtain ⟨k0, k1, k2, k3⟩ := blk4 HO.out
   obtain ⟨f0, f1, f2, f3, f4⟩ := blk4f HO.out
   clear hq x4
   by_cases h0 : i = 0
   ·subst h0
    have hi0 : (((0 : Nat) : Int) == 0) = true := rfl
    go_wp2_with fail
    have he := HS.out.trans (if_pos trivial)
    go_roundg (n - 1)
    case measure => omega
    case rel => exact ⟨1, rfl, by omega, by omega, (HL.out.turn (Own.refl _ _) HQI.out he).mono (own_alloc _ _)⟩
   ·have hi0 : ((i : Int) == 0) = false := beq_false_of_ne (by omega)
    have hi1 : ¬ (i : Int) = 0 := by omega
    have hbm : rlen (bestR (fun y o => decide (o < y)) (l.take i)) ≤ 100000 := by
     refine HQ.out _ (List.mem_of_mem_take (bestR_mem (fun y o => decide (o < y)) (l.take i) ?_))
     intro e
     have h2 := congrArg List.length e
     rw [List.length_take, List.length_nil, HN.out] at h2
     omega
    have HBM := Lib.hid hbm
    have HE := Lib.hid (HS.out.trans (if_neg h0))
    obtain ⟨o, ho⟩ : ∃ o, bestR (fun y o => decide (o < y)) (l.take i) = o := ⟨_, rfl⟩
    rw [ho] at HBM HE HO6
    have HOO := Lib.hid ho
    clear hbm ho HS
    go_wp2_with fail
    refine (fcmp_any q o _ _ _ (HQI.out.keep (keep_alloc _ _)) (HO6.out.keep (keep_alloc _ _)) (by have := HQL.out; unfold rlen at this; omega) (by have := HBM.out; unfold rlen at this; omega)).mono ?_
    rintro e w1 ⟨rfl, hg1⟩
    have HG1 : Hid (Gr wr w1) := HGA.out.call HGA.out.size hg1
    have HX1 : Hid (BlkC 30 w1 wr.heap.size [.slice a' p' p', .bool b', .slice c' m' m', .bool d']) := (BlkC.new _ wr [.slice a' p' p', .bool b', .slice c' m' m', .bool d']).still (Gr.grown hg1)
    have HO9 := Lib.hid (HO.out.still (Gr.grown HG1.out))
    clear k0 k1 k2 k3 f0 f1 f2 f3 f4 x0 x1 x2 x3 hg1 HGA
    obtain ⟨k0, k1, k2, k3⟩ := blk4 HO9.out
    obtain ⟨f0, f1, f2, f3, f4⟩ := blk4f HO9.out
    obtain ⟨u0, u1, u2, u3⟩ := blk4 HX1.out
    by_cases hb : o < q
    ·rw [show cmpR q o = 1 from cmpR_gt hb]
     go_wp2_with fail
     have he := HE.out
     rw [if_pos (by simpa using hb)] at he
     go_roundg (n - (i + 1))
     case measure => omega
     case rel => exact ⟨i + 1, by go_num, by omega, by omega, HL.out.turn HG1.out (HQI.out.keep (Gr.keep HG1.out)) he⟩
    ·have hcc : ¬ 0 < cmpR q o := by unfold cmpR; split <;> first | omega | (rw [if_neg hb]; omega)
     go_wp2_with fail
     have he := HE.out
     rw [if_neg (by simpa using hb)] at he
     go_roundg (n - (i + 1))
     case measure => omega
     case rel => exact ⟨i + 1, by go_num, by omega, by omega, HL.out.stay HG1.out (he.trans HOO.out.symm)⟩
  ·have hlz : ¬ (i : Int) < (n : Int) := by omega
   have hie : i = n := by omega
   subst hie
   obtain ⟨k0, k1, k2, k3⟩ := blk4 HO.out
   obtain ⟨i0, i1, i2, i3⟩ := blk4 HO4.out
   obtain ⟨j0, j1, j2, j3, j4⟩ := blk4f HO4.out
   go_wp2_with fail
   obtain ⟨s1, s2⟩ := r_shut HO6.out HO4.out (by decide)
   refine r_ret rfl rfl rfl s1 ⟨_, rfl, ?_, own_set4 HO1.out (by omega) _ _ _ _⟩
   rw [List.take_of_length_le (by rw [HN.out]; exact Nat.le_refl _)] at s2
   exact s2
end Go.Proofs.Ytnojfiokdhcbjaa
