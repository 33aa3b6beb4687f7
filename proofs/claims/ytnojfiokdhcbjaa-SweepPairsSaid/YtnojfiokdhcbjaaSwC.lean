/-
  law 20's grid. (Printed by gen_swa.py.)
  sweep.Pairs: what it refuses.
  law 20's known(): true. (Printed by gen_swc.py.)
-/
import Derived.Test.YtnojfiokdhcbjaaPtA
import Derived.Test.YtnojfiokdhcbjaaPrt
namespace Go.Proofs.Ytnojfiokdhcbjaa
open Go Go.RowKit

section
variable {T : TypeId} {w : World} {g : Nat} {x0 x1 x2 x3 x4 x5 x6 x7 x8 x9 x10 x11 x12 x13 x14 x15 c0 c1 c2 c3 c4 c5 c6 c7 c8 c9 c10 c11 c12 c13 c14 c15 : Value}
theorem set16_all (h : BlkC T w g [x0, x1, x2, x3, x4, x5, x6, x7, x8, x9, x10, x11, x12, x13, x14, x15]) (hT : T ≠ 126) (c0 c1 c2 c3 c4 c5 c6 c7 c8 c9 c10 c11 c12 c13 c14 c15 : Value) : w.grownBy ((((((((((((((((w.setCell ⟨g, 0, none⟩ c0).setCell ⟨g, 1, none⟩ c1).setCell ⟨g, 2, none⟩ c2).setCell ⟨g, 3, none⟩ c3).setCell ⟨g, 4, none⟩ c4).setCell ⟨g, 5, none⟩ c5).setCell ⟨g, 6, none⟩ c6).setCell ⟨g, 7, none⟩ c7).setCell ⟨g, 8, none⟩ c8).setCell ⟨g, 9, none⟩ c9).setCell ⟨g, 10, none⟩ c10).setCell ⟨g, 11, none⟩ c11).setCell ⟨g, 12, none⟩ c12).setCell ⟨g, 13, none⟩ c13).setCell ⟨g, 14, none⟩ c14).setCell ⟨g, 15, none⟩ c15) (some g) ∧ Keep w ((((((((((((((((w.setCell ⟨g, 0, none⟩ c0).setCell ⟨g, 1, none⟩ c1).setCell ⟨g, 2, none⟩ c2).setCell ⟨g, 3, none⟩ c3).setCell ⟨g, 4, none⟩ c4).setCell ⟨g, 5, none⟩ c5).setCell ⟨g, 6, none⟩ c6).setCell ⟨g, 7, none⟩ c7).setCell ⟨g, 8, none⟩ c8).setCell ⟨g, 9, none⟩ c9).setCell ⟨g, 10, none⟩ c10).setCell ⟨g, 11, none⟩ c11).setCell ⟨g, 12, none⟩ c12).setCell ⟨g, 13, none⟩ c13).setCell ⟨g, 14, none⟩ c14).setCell ⟨g, 15, none⟩ c15) ∧ BlkC T ((((((((((((((((w.setCell ⟨g, 0, none⟩ c0).setCell ⟨g, 1, none⟩ c1).setCell ⟨g, 2, none⟩ c2).setCell ⟨g, 3, none⟩ c3).setCell ⟨g, 4, none⟩ c4).setCell ⟨g, 5, none⟩ c5).setCell ⟨g, 6, none⟩ c6).setCell ⟨g, 7, none⟩ c7).setCell ⟨g, 8, none⟩ c8).setCell ⟨g, 9, none⟩ c9).setCell ⟨g, 10, none⟩ c10).setCell ⟨g, 11, none⟩ c11).setCell ⟨g, 12, none⟩ c12).setCell ⟨g, 13, none⟩ c13).setCell ⟨g, 14, none⟩ c14).setCell ⟨g, 15, none⟩ c15) g [c0, c1, c2, c3, c4, c5, c6, c7, c8, c9, c10, c11, c12, c13, c14, c15] := by
  have h0 := h
  have h1 := h0.set 0 c0
  have h2 := h1.set 1 c1
  have h3 := h2.set 2 c2
  have h4 := h3.set 3 c3
  have h5 := h4.set 4 c4
  have h6 := h5.set 5 c5
  have h7 := h6.set 6 c6
  have h8 := h7.set 7 c7
  have h9 := h8.set 8 c8
  have h10 := h9.set 9 c9
  have h11 := h10.set 10 c10
  have h12 := h11.set 11 c11
  have h13 := h12.set 12 c12
  have h14 := h13.set 13 c13
  have h15 := h14.set 14 c14
  exact ⟨grown_trans (grown_trans (grown_trans (grown_trans (grown_trans (grown_trans (grown_trans (grown_trans (grown_trans (grown_trans (grown_trans (grown_trans (grown_trans (grown_trans (grown_trans (grown_setCell _ _ _) (grown_setCell _ _ _)) (grown_setCell _ _ _)) (grown_setCell _ _ _)) (grown_setCell _ _ _)) (grown_setCell _ _ _)) (grown_setCell _ _ _)) (grown_setCell _ _ _)) (grown_setCell _ _ _)) (grown_setCell _ _ _)) (grown_setCell _ _ _)) (grown_setCell _ _ _)) (grown_setCell _ _ _)) (grown_setCell _ _ _)) (grown_setCell _ _ _)) (grown_setCell _ _ _), (keep_set h0 hT _).trans ((keep_set h1 hT _).trans ((keep_set h2 hT _).trans ((keep_set h3 hT _).trans ((keep_set h4 hT _).trans ((keep_set h5 hT _).trans ((keep_set h6 hT _).trans ((keep_set h7 hT _).trans ((keep_set h8 hT _).trans ((keep_set h9 hT _).trans ((keep_set h10 hT _).trans ((keep_set h11 hT _).trans ((keep_set h12 hT _).trans ((keep_set h13 hT _).trans ((keep_set h14 hT _).trans (keep_set h15 hT _))))))))))))))), h15.set 15 c15⟩
theorem blk16 (h : BlkC T w g [x0, x1, x2, x3, x4, x5, x6, x7, x8, x9, x10, x11, x12, x13, x14, x15]) : w.cell? ⟨g, 0, none⟩ = some x0 ∧ w.cell? ⟨g, 1, none⟩ = some x1 ∧ w.cell? ⟨g, 2, none⟩ = some x2 ∧ w.cell? ⟨g, 3, none⟩ = some x3 ∧ w.cell? ⟨g, 4, none⟩ = some x4 ∧ w.cell? ⟨g, 5, none⟩ = some x5 ∧ w.cell? ⟨g, 6, none⟩ = some x6 ∧ w.cell? ⟨g, 7, none⟩ = some x7 ∧ w.cell? ⟨g, 8, none⟩ = some x8 ∧ w.cell? ⟨g, 9, none⟩ = some x9 ∧ w.cell? ⟨g, 10, none⟩ = some x10 ∧ w.cell? ⟨g, 11, none⟩ = some x11 ∧ w.cell? ⟨g, 12, none⟩ = some x12 ∧ w.cell? ⟨g, 13, none⟩ = some x13 ∧ w.cell? ⟨g, 14, none⟩ = some x14 ∧ w.cell? ⟨g, 15, none⟩ = some x15 :=
  ⟨by rw [h.cell 0]; rfl, by rw [h.cell 1]; rfl, by rw [h.cell 2]; rfl, by rw [h.cell 3]; rfl, by rw [h.cell 4]; rfl, by rw [h.cell 5]; rfl, by rw [h.cell 6]; rfl, by rw [h.cell 7]; rfl, by rw [h.cell 8]; rfl, by rw [h.cell 9]; rfl, by rw [h.cell 10]; rfl, by rw [h.cell 11]; rfl, by rw [h.cell 12]; rfl, by rw [h.cell 13]; rfl, by rw [h.cell 14]; rfl, by rw [h.cell 15]; rfl⟩
theorem blk16f (h : BlkC T w g [x0, x1, x2, x3, x4, x5, x6, x7, x8, x9, x10, x11, x12, x13, x14, x15]) : w.frozen? ⟨g, 0, none⟩ = false ∧ w.frozen? ⟨g, 1, none⟩ = false ∧ w.frozen? ⟨g, 2, none⟩ = false ∧ w.frozen? ⟨g, 3, none⟩ = false ∧ w.frozen? ⟨g, 4, none⟩ = false ∧ w.frozen? ⟨g, 5, none⟩ = false ∧ w.frozen? ⟨g, 6, none⟩ = false ∧ w.frozen? ⟨g, 7, none⟩ = false ∧ w.frozen? ⟨g, 8, none⟩ = false ∧ w.frozen? ⟨g, 9, none⟩ = false ∧ w.frozen? ⟨g, 10, none⟩ = false ∧ w.frozen? ⟨g, 11, none⟩ = false ∧ w.frozen? ⟨g, 12, none⟩ = false ∧ w.frozen? ⟨g, 13, none⟩ = false ∧ w.frozen? ⟨g, 14, none⟩ = false ∧ w.frozen? ⟨g, 15, none⟩ = false :=
  ⟨h.free 0, h.free 1, h.free 2, h.free 3, h.free 4, h.free 5, h.free 6, h.free 7, h.free 8, h.free 9, h.free 10, h.free 11, h.free 12, h.free 13, h.free 14, h.free 15⟩
end
theorem rlen_int (d : Int) (h0 : -9223372036854775808 ≤ d) (h1 : d ≤ 9223372036854775807) : rlen (d : Rat) ≤ 1000 := by
  have h : (limbs d.natAbs).length ≤ 2 := (limbs_len _ 2).2 (by omega)
  have h2 : (limbs (d : Rat).den).length ≤ 1 := by rw [(whole_frac d).2, limbs_len]; decide
  unfold rlen
  rw [(whole_frac d).1]
  omega
theorem PIs.rv {w : World} {v : Value} {x y : Rat} (h : PIs w v x y) (hx : rlen x ≤ 300000) (hy : rlen y ≤ 300000) : ∃ p1 p2 : RV, v = .agg #[.slice p1.a p1.n p1.n, .bool p1.b, .slice p1.c p1.m p1.m, .bool p1.d, .slice p2.a p2.n p2.n, .bool p2.b, .slice p2.c p2.m p2.m, .bool p2.d] ∧ p1.ok w x ∧ p2.ok w y := by
  obtain ⟨a, n, b, c, m, d, a', n', b', c', m', d', rfl, h1, h2⟩ := h
  exact ⟨⟨a, n, b, c, m, d⟩, ⟨a', n', b', c', m', d'⟩, rfl, ⟨h1, hx⟩, ⟨h2, hy⟩⟩
/-- An int. -/
def I64 (a : Int) : Prop := -9223372036854775808 ≤ a ∧ a ≤ 9223372036854775807
theorem I64.r {a : Int} (h : I64 a) : rlen (a : Rat) ≤ 300000 := Nat.le_trans (rlen_int a h.1 h.2) (by omega)
theorem I64.k {a : Int} (h : I64 a) : rlen (a : Rat) ≤ 1000 := rlen_int a h.1 h.2

set_option maxHeartbeats 8000000 in
set_option maxRecDepth 100000 in
theorem lawGrid_any (a b c d : Int) (w : World) (ha : I64 a) (hb : I64 b) (hc : I64 c) (hd : I64 d) :
    Calls Try.prog 7 #[.int .i64 a, .int .i64 b, .int .i64 c, .int .i64 d] w fun e w' => ∃ v : SV, e = .returned (.agg #[.slice v.ax.a v.ax.n v.ax.n, .bool v.ax.b, .slice v.ax.c v.ax.m v.ax.m, .bool v.ax.d, .slice v.ay.a v.ay.n v.ay.n, .bool v.ay.b, .slice v.ay.c v.ay.m v.ay.m, .bool v.ay.d, .slice v.cx.a v.cx.n v.cx.n, .bool v.cx.b, .slice v.cx.c v.cx.m v.cx.m, .bool v.cx.d, .slice v.cy.a v.cy.n v.cy.n, .bool v.cy.b, .slice v.cy.c v.cy.m v.cy.m, .bool v.cy.d]) ∧ v.ok w' ⟨a, b, c, d⟩ ∧ Below w.heap.size w w' := by
  have HA := Lib.hid ha
  have HB := Lib.hid hb
  have HC := Lib.hid hc
  have HD := Lib.hid hd
  have HB1 : Hid (BlkC 34 (w.alloc (.cells #[.slice none 0 0, .bool false, .slice none 0 0, .bool false, .slice none 0 0, .bool false, .slice none 0 0, .bool false, .slice none 0 0, .bool false, .slice none 0 0, .bool false, .slice none 0 0, .bool false, .slice none 0 0, .bool false] 34)) w.heap.size [.slice none 0 0, .bool false, .slice none 0 0, .bool false, .slice none 0 0, .bool false, .slice none 0 0, .bool false, .slice none 0 0, .bool false, .slice none 0 0, .bool false, .slice none 0 0, .bool false, .slice none 0 0, .bool false]) := BlkC.new _ w [.slice none 0 0, .bool false, .slice none 0 0, .bool false, .slice none 0 0, .bool false, .slice none 0 0, .bool false, .slice none 0 0, .bool false, .slice none 0 0, .bool false, .slice none 0 0, .bool false, .slice none 0 0, .bool false]
  have HG1 : Hid (Below w.heap.size w (w.alloc (.cells #[.slice none 0 0, .bool false, .slice none 0 0, .bool false, .slice none 0 0, .bool false, .slice none 0 0, .bool false, .slice none 0 0, .bool false, .slice none 0 0, .bool false, .slice none 0 0, .bool false, .slice none 0 0, .bool false] 34))) := (own_alloc _ _).b
  clear ha hb hc hd
  go_enter Try.func7, Try.ntmps7
  go_wp2_with fail
  refine (planeGrid_any a b _ HA.out.1 HA.out.2 HB.out.1 HB.out.2).mono ?_
  rintro e w1 ⟨r1, rfl, hr1, hg1⟩
  obtain ⟨p1, p2, rfl, k1, k2⟩ := hr1.rv HA.out.r HB.out.r
  have HB2 : Hid (BlkC 34 w1 w.heap.size [.slice none 0 0, .bool false, .slice none 0 0, .bool false, .slice none 0 0, .bool false, .slice none 0 0, .bool false, .slice none 0 0, .bool false, .slice none 0 0, .bool false, .slice none 0 0, .bool false, .slice none 0 0, .bool false]) := HB1.out.still (grown_of_below hg1 none)
  have HG2 : Hid (Below w.heap.size w w1) := HG1.out.trans (hg1.mono (by simp))
  have HP := Lib.hid (And.intro k1 k2)
  clear hr1 hg1 k1 k2 HB1 HG1
  go_wp2_with fail
  refine (planeGrid_any c d _ HC.out.1 HC.out.2 HD.out.1 HD.out.2).mono ?_
  rintro e w2 ⟨r2, rfl, hr2, hg2⟩
  obtain ⟨q1, q2, rfl, k3, k4⟩ := hr2.rv HC.out.r HD.out.r
  have HB3 : Hid (BlkC 34 w2 w.heap.size [.slice none 0 0, .bool false, .slice none 0 0, .bool false, .slice none 0 0, .bool false, .slice none 0 0, .bool false, .slice none 0 0, .bool false, .slice none 0 0, .bool false, .slice none 0 0, .bool false, .slice none 0 0, .bool false]) := HB2.out.still (grown_of_below hg2 none)
  have HG3 : Hid (Below w.heap.size w w2) := HG2.out.trans (hg2.mono HG2.out.size)
  have hk := keep_below hg2
  have HP2 : Hid (p1.ok w2 (a : Rat) ∧ p2.ok w2 (b : Rat) ∧ q1.ok w2 (c : Rat) ∧ q2.ok w2 (d : Rat)) := ⟨HP.out.1.keep hk, HP.out.2.keep hk, k3, k4⟩
  clear hr2 hg2 k3 k4 HB2 HG2 HP hk
  obtain ⟨c0, c1, c2, c3, c4, c5, c6, c7, c8, c9, c10, c11, c12, c13, c14, c15⟩ := blk16 HB3.out
  obtain ⟨f0, f1, f2, f3, f4, f5, f6, f7, f8, f9, f10, f11, f12, f13, f14, f15⟩ := blk16f HB3.out
  have lt2 := HB3.out.lt
  go_wp2_with fail
  obtain ⟨s1, s2, s3⟩ := set16_all HB3.out (by decide) (.slice p1.a p1.n p1.n) (.bool p1.b) (.slice p1.c p1.m p1.m) (.bool p1.d) (.slice p2.a p2.n p2.n) (.bool p2.b) (.slice p2.c p2.m p2.m) (.bool p2.d) (.slice q1.a q1.n q1.n) (.bool q1.b) (.slice q1.c q1.m q1.m) (.bool q1.d) (.slice q2.a q2.n q2.n) (.bool q2.b) (.slice q2.c q2.m q2.m) (.bool q2.d)
  have HP3 := HP2.out
  refine blk_ret rfl (by kernel_rfl) (by kernel_rfl) rfl rfl s3 ⟨⟨p1, p2, q1, q2⟩, rfl, ⟨HP3.1.keep s2, HP3.2.1.keep s2, HP3.2.2.1.keep s2, HP3.2.2.2.keep s2⟩, HG3.out.grown s1 HG3.out.size (fun q hq => by cases hq; exact Nat.le_refl _)⟩
end Go.Proofs.Ytnojfiokdhcbjaa

namespace Go.Proofs.Ytnojfiokdhcbjaa
open Go Go.RowKit

set_option maxHeartbeats 8000000 in
set_option maxRecDepth 100000 in
theorem pairsNeg_any (oa ob : Option Addr) (na nb ca cb : Nat) (d : Int) (w : World) (hd : d < 0) :
    Calls Try.prog 8 #[.slice oa na ca, .slice ob nb cb, .int .i64 d] w fun e w' => e = .returned (.tuple #[.slice none 0 0, .int .i64 1]) ∧ Below w.heap.size w w' := by
  have HG := Lib.hid (Below.refl w.heap.size w)
  go_enter Try.func8, Try.ntmps8
  go_wp2_with fail
  refine bodyPost_ret (results_tmp2 rfl _ _ _) rfl ?_
  exact ⟨rfl, HG.out⟩
set_option maxHeartbeats 8000000 in
set_option maxRecDepth 100000 in
theorem pairsLong_any (oa ob : Option Addr) (na nb ca cb : Nat) (d : Int) (w : World) (hd : ¬ d < 0) (hn : 20000 < na ∨ 20000 < nb) (hna : na ≤ 1000000) (hnb : nb ≤ 1000000) :
    Calls Try.prog 8 #[.slice oa na ca, .slice ob nb cb, .int .i64 d] w fun e w' => e = .returned (.tuple #[.slice none 0 0, .int .i64 2]) ∧ Below w.heap.size w w' := by
  have HG := Lib.hid (Below.refl w.heap.size w)
  by_cases h1 : 20000 < na
  · have ha : (20000 : Int) < (na : Int) := by omega
    go_enter Try.func8, Try.ntmps8
    go_wp2_with fail
    refine bodyPost_ret (results_tmp2 rfl _ _ _) rfl ?_
    exact ⟨rfl, HG.out⟩
  · have h2 : 20000 < nb := by omega
    have ha : ¬ (20000 : Int) < (na : Int) := by omega
    have hb : (20000 : Int) < (nb : Int) := by omega
    go_enter Try.func8, Try.ntmps8
    go_wp2_with fail
    refine bodyPost_ret (results_tmp2 rfl _ _ _) rfl ?_
    exact ⟨rfl, HG.out⟩

@[go_sem] theorem pairEq (w : World) (a b c d : Int) : (Op.equalIn 10000 56 (.agg #[.int .i64 a, .int .i64 b]) (.agg #[.int .i64 c, .int .i64 d])).run Try.prog w = .ok (a == c && b == d) w := by
  have hu : Try.prog.underlying 56 = some (.array 2 3) := by kernel_rfl
  show (Op.equalIn (9999 + 1) 56 _ _).run Try.prog w = _
  have key : ∀ n : Nat, (Op.equalIn (n + 1 + 1) 56 (.agg #[.int .i64 a, .int .i64 b]) (.agg #[.int .i64 c, .int .i64 d])).run Try.prog w = .ok (a == c && b == d) w := by
    intro n
    simp only [Op.equalIn, Sem.run_bind, run_underlying hu, Result.andThen_ok]
    simp [Std.Legacy.Range.forIn_eq_forIn_range', Std.Legacy.Range.size, List.range', go_sem]
    by_cases h1 : a = c <;> by_cases h2 : b = d <;> simp [h1, h2]
  exact key 9998

theorem sizeBox (w : World) : (Go.sizeOf 72).run Try.prog w = .ok 18 w := by
  simp [Go.sizeOf]
  rfl
theorem pairsAll_any (ss ts : List Sg) (u v : Value) (d : Int) (w : World) (ha : SegSlice w u ss) (hb : SegSlice w v ts) (hs : ss.length ≤ 20000) (ht : ts.length ≤ 20000) (hd0 : 0 ≤ d) (hd1 : d ≤ 9223372036854775807) (hsl : ∀ s, s ∈ ss → SgL s) (htl : ∀ s, s ∈ ts → SgL s) :
    Calls Try.prog 8 #[u, v, .int .i64 d] w fun e w' => ∃ r, e = .returned (.tuple #[r, .int .i64 0]) ∧ PairRow w' r (pairsS (boxesL ss (d : Rat) false) (boxesL ts 0 true)) ∧ Below w.heap.size w w' := by
  obtain ⟨oa, ca, rfl, h1⟩ := ha
  obtain ⟨ob, cb, rfl, h2⟩ := hb
  exact pairs_any 18 sizeBox rfl ss ts ss.length ts.length ca cb oa ob d w ⟨oa, ca, rfl, h1⟩ ⟨ob, cb, rfl, h2⟩ rfl rfl hs ht hd0 hd1 hsl htl
theorem flat_pair : ∀ (l : List (Nat × Nat)) (i : Nat) (p : Nat × Nat), l[i]? = some p → (l.flatMap pairEnc)[i * 2]? = some (.int .i64 (p.1 : Int)) ∧ (l.flatMap pairEnc)[i * 2 + 1]? = some (.int .i64 (p.2 : Int))
  | [], i, p, h => by simp at h
  | q :: r, 0, p, h => by cases h; exact ⟨rfl, rfl⟩
  | q :: r, i + 1, p, h => by
    obtain ⟨h1, h2⟩ := flat_pair r i p h
    have e : (q :: r).flatMap pairEnc = .int .i64 (q.1 : Int) :: .int .i64 (q.2 : Int) :: r.flatMap pairEnc := rfl
    rw [e, show (i + 1) * 2 = i * 2 + 1 + 1 by omega]
    exact ⟨h1, h2⟩
/-- A pair of a row of pairs. -/
theorem PairRow.shape {w : World} {v : Value} {l : List (Nat × Nat)} (h : PairRow w v l) : ∃ (o : Option Addr) (cap : Nat), v = .slice o l.length cap ∧ ∀ i p, l[i]? = some p → ∃ g, o = some ⟨g, 0, none⟩ ∧ l.length ≤ cap ∧ w.cell? ⟨g, i * 2, none⟩ = some (.int .i64 (p.1 : Int)) ∧ w.cell? ⟨g, i * 2 + 1, none⟩ = some (.int .i64 (p.2 : Int)) := by
  rcases h with ⟨rfl, rfl⟩ | ⟨g, cap, cs, rfl, h1, h2, h3, h4⟩
  · exact ⟨none, 0, rfl, fun i p h => by simp at h⟩
  · refine ⟨_, cap, rfl, fun i p hp => ⟨g, rfl, h3, ?_⟩⟩
    have hB : BlkC 56 w g cs.toList := h1
    have hi : i < l.length := (List.getElem?_eq_some_iff.1 hp).1
    obtain ⟨k1, k2⟩ := flat_pair l i p hp
    rw [← h4, List.getElem?_take, if_pos (by omega)] at k1 k2
    exact ⟨(hB.cell (i * 2)).trans k1, (hB.cell (i * 2 + 1)).trans k2⟩
end Go.Proofs.Ytnojfiokdhcbjaa

namespace Go.Proofs.Ytnojfiokdhcbjaa
open Go Go.RowKit

/-- A segment's cells behind one another. -/
theorem segRow_of {w : World} {g : Nat} {vs : List SV} {l : List Sg} (hB : BlkC 34 w g (vs.flatMap SV.cells)) (hl : vs.length = l.length) (hv : ∀ (i : Nat) (v : SV) (s : Sg), vs[i]? = some v → l[i]? = some s → v.ok w s) : SegRow w g l := by
  refine ⟨hB.lt, fun i s hs => ?_⟩
  have hi : i < vs.length := by rw [hl]; exact (List.getElem?_eq_some_iff.1 hs).1
  obtain ⟨v, hv1⟩ : ∃ v, vs[i]? = some v := ⟨_, List.getElem?_eq_getElem hi⟩
  refine ⟨v, fun j c hc => ?_, hv i v s hv1 hs⟩
  rw [hB.cell]
  have key : ∀ (vs : List SV) (i : Nat) (v : SV), vs[i]? = some v → ∀ j c, v.cells[j]? = some c → (vs.flatMap SV.cells)[i * 16 + j]? = some c := by
    intro vs
    induction vs with
    | nil => intro i v h; simp at h
    | cons u r ih =>
      intro i v h j c hc
      have hu : u.cells.length = 16 := rfl
      rw [List.flatMap_cons]
      match i, h with
      | 0, h =>
        cases h
        have hj : j < 16 := by have := (List.getElem?_eq_some_iff.1 hc).1; rwa [hu] at this
        rw [List.getElem?_append_left (by omega), Nat.zero_mul, Nat.zero_add]
        exact hc
      | i + 1, h =>
        rw [List.getElem?_append_right (by omega), hu, show (i + 1) * 16 + j - 16 = i * 16 + j by omega]
        exact ih i v h j c hc
  exact key vs i v hv1 j c hc
theorem sgl_int {a b c d : Int} (ha : I64 a) (hb : I64 b) (hc : I64 c) (hd : I64 d) : SgL ⟨a, b, c, d⟩ := ⟨ha.k, hb.k, hc.k, hd.k⟩
abbrev kA : List Sg := [⟨((0 : Int) : Rat), ((0 : Int) : Rat), ((2 : Int) : Rat), ((2 : Int) : Rat)⟩]
abbrev kB : List Sg := [⟨((3 : Int) : Rat), ((0 : Int) : Rat), ((4 : Int) : Rat), ((0 : Int) : Rat)⟩, ⟨((5 : Int) : Rat), ((5 : Int) : Rat), ((6 : Int) : Rat), ((6 : Int) : Rat)⟩]
theorem k_one : pairsS (boxesL kA ((1 : Int) : Rat) false) (boxesL kB 0 true) = [(0, 0)] := by decide +kernel
theorem k_three : pairsS (boxesL kA ((3 : Int) : Rat) false) (boxesL kB 0 true) = [(0, 0), (0, 1)] := by decide +kernel
theorem k_none : pairsS (boxesL kA ((0 : Int) : Rat) false) (boxesL kB 0 true) = [] := by decide +kernel
theorem kA_l : ∀ s, s ∈ kA → SgL s := by
  intro s hs
  rw [List.mem_singleton] at hs
  subst hs
  exact sgl_int ⟨by decide, by decide⟩ ⟨by decide, by decide⟩ ⟨by decide, by decide⟩ ⟨by decide, by decide⟩
theorem kB_l : ∀ s, s ∈ kB → SgL s := by
  intro s hs
  simp only [List.mem_cons, List.not_mem_nil, or_false] at hs
  rcases hs with rfl | rfl
  · exact sgl_int ⟨by decide, by decide⟩ ⟨by decide, by decide⟩ ⟨by decide, by decide⟩ ⟨by decide, by decide⟩
  · exact sgl_int ⟨by decide, by decide⟩ ⟨by decide, by decide⟩ ⟨by decide, by decide⟩ ⟨by decide, by decide⟩

set_option maxHeartbeats 8000000 in
set_option maxRecDepth 100000 in
theorem known20_any (w : World) : Calls Try.prog 9 #[] w fun e w' => e = .returned (.bool true) ∧ Below w.heap.size w w' := by
  go_enter Try.func9, Try.ntmps9
  go_wp2_with fail
  refine (lawGrid_any 0 0 2 2 _ ⟨by decide, by decide⟩ ⟨by decide, by decide⟩ ⟨by decide, by decide⟩ ⟨by decide, by decide⟩).mono ?_
  rintro e w1 ⟨v1, rfl, h1, g1⟩
  have H1 := Lib.hid h1
  have G1 := Lib.hid g1
  clear h1 g1
  have S1 : Hid (SegRow (w1.alloc (.cells #[.slice v1.ax.a v1.ax.n v1.ax.n, .bool v1.ax.b, .slice v1.ax.c v1.ax.m v1.ax.m, .bool v1.ax.d, .slice v1.ay.a v1.ay.n v1.ay.n, .bool v1.ay.b, .slice v1.ay.c v1.ay.m v1.ay.m, .bool v1.ay.d, .slice v1.cx.a v1.cx.n v1.cx.n, .bool v1.cx.b, .slice v1.cx.c v1.cx.m v1.cx.m, .bool v1.cx.d, .slice v1.cy.a v1.cy.n v1.cy.n, .bool v1.cy.b, .slice v1.cy.c v1.cy.m v1.cy.m, .bool v1.cy.d] 34)) w1.heap.size kA) := segRow_of (vs := [v1]) (BlkC.new _ w1 v1.cells) rfl (fun i v s hv hs => by
    match i, hv, hs with
    | 0, hv, hs => cases hv; cases hs; exact H1.out.keep (keep_alloc _ _)
    | i + 1, hv, hs => simp at hv)
  have G2 : Hid (Below w.heap.size w (w1.alloc (.cells #[.slice v1.ax.a v1.ax.n v1.ax.n, .bool v1.ax.b, .slice v1.ax.c v1.ax.m v1.ax.m, .bool v1.ax.d, .slice v1.ay.a v1.ay.n v1.ay.n, .bool v1.ay.b, .slice v1.ay.c v1.ay.m v1.ay.m, .bool v1.ay.d, .slice v1.cx.a v1.cx.n v1.cx.n, .bool v1.cx.b, .slice v1.cx.c v1.cx.m v1.cx.m, .bool v1.cx.d, .slice v1.cy.a v1.cy.n v1.cy.n, .bool v1.cy.b, .slice v1.cy.c v1.cy.m v1.cy.m, .bool v1.cy.d] 34))) := G1.out.alloc G1.out.size _
  clear G1
  go_wp2_with fail
  refine (lawGrid_any 3 0 4 0 _ ⟨by decide, by decide⟩ ⟨by decide, by decide⟩ ⟨by decide, by decide⟩ ⟨by decide, by decide⟩).mono ?_
  rintro e w2 ⟨v2, rfl, h2, g2⟩
  have H2 := Lib.hid h2
  have S2 : Hid (SegRow w2 w1.heap.size kA) := S1.out.still g2
  have G3 : Hid (Below w.heap.size w w2) := G2.out.trans (g2.mono G2.out.size)
  clear h2 g2 S1 G2 H1
  go_wp2_with fail
  refine (lawGrid_any 5 5 6 6 _ ⟨by decide, by decide⟩ ⟨by decide, by decide⟩ ⟨by decide, by decide⟩ ⟨by decide, by decide⟩).mono ?_
  rintro e w3 ⟨v3, rfl, h3, g3⟩
  have H3 := Lib.hid h3
  have H4 : Hid (v2.ok w3 _) := H2.out.keep (keep_below g3)
  have S3 : Hid (SegRow w3 w1.heap.size kA) := S2.out.still g3
  have G4 : Hid (Below w.heap.size w w3) := G3.out.trans (g3.mono G3.out.size)
  clear h3 g3 S2 G3 H2
  have S4 : Hid (SegRow (w3.alloc (.cells #[.slice v2.ax.a v2.ax.n v2.ax.n, .bool v2.ax.b, .slice v2.ax.c v2.ax.m v2.ax.m, .bool v2.ax.d, .slice v2.ay.a v2.ay.n v2.ay.n, .bool v2.ay.b, .slice v2.ay.c v2.ay.m v2.ay.m, .bool v2.ay.d, .slice v2.cx.a v2.cx.n v2.cx.n, .bool v2.cx.b, .slice v2.cx.c v2.cx.m v2.cx.m, .bool v2.cx.d, .slice v2.cy.a v2.cy.n v2.cy.n, .bool v2.cy.b, .slice v2.cy.c v2.cy.m v2.cy.m, .bool v2.cy.d, .slice v3.ax.a v3.ax.n v3.ax.n, .bool v3.ax.b, .slice v3.ax.c v3.ax.m v3.ax.m, .bool v3.ax.d, .slice v3.ay.a v3.ay.n v3.ay.n, .bool v3.ay.b, .slice v3.ay.c v3.ay.m v3.ay.m, .bool v3.ay.d, .slice v3.cx.a v3.cx.n v3.cx.n, .bool v3.cx.b, .slice v3.cx.c v3.cx.m v3.cx.m, .bool v3.cx.d, .slice v3.cy.a v3.cy.n v3.cy.n, .bool v3.cy.b, .slice v3.cy.c v3.cy.m v3.cy.m, .bool v3.cy.d] 34)) w3.heap.size kB) := segRow_of (vs := [v2, v3]) (BlkC.new _ w3 (v2.cells ++ v3.cells)) rfl (fun i v s hv hs => by
    match i, hv, hs with
    | 0, hv, hs => cases hv; cases hs; exact H4.out.keep (keep_alloc _ _)
    | 1, hv, hs => cases hv; cases hs; exact H3.out.keep (keep_alloc _ _)
    | i + 2, hv, hs => simp at hv)
  have S5 : Hid (SegRow (w3.alloc (.cells #[.slice v2.ax.a v2.ax.n v2.ax.n, .bool v2.ax.b, .slice v2.ax.c v2.ax.m v2.ax.m, .bool v2.ax.d, .slice v2.ay.a v2.ay.n v2.ay.n, .bool v2.ay.b, .slice v2.ay.c v2.ay.m v2.ay.m, .bool v2.ay.d, .slice v2.cx.a v2.cx.n v2.cx.n, .bool v2.cx.b, .slice v2.cx.c v2.cx.m v2.cx.m, .bool v2.cx.d, .slice v2.cy.a v2.cy.n v2.cy.n, .bool v2.cy.b, .slice v2.cy.c v2.cy.m v2.cy.m, .bool v2.cy.d, .slice v3.ax.a v3.ax.n v3.ax.n, .bool v3.ax.b, .slice v3.ax.c v3.ax.m v3.ax.m, .bool v3.ax.d, .slice v3.ay.a v3.ay.n v3.ay.n, .bool v3.ay.b, .slice v3.ay.c v3.ay.m v3.ay.m, .bool v3.ay.d, .slice v3.cx.a v3.cx.n v3.cx.n, .bool v3.cx.b, .slice v3.cx.c v3.cx.m v3.cx.m, .bool v3.cx.d, .slice v3.cy.a v3.cy.n v3.cy.n, .bool v3.cy.b, .slice v3.cy.c v3.cy.m v3.cy.m, .bool v3.cy.d] 34)) w1.heap.size kA) := S3.out.still ((Below.refl _ _).alloc (Nat.le_refl _) _)
  have G5 : Hid (Below w.heap.size w (w3.alloc (.cells #[.slice v2.ax.a v2.ax.n v2.ax.n, .bool v2.ax.b, .slice v2.ax.c v2.ax.m v2.ax.m, .bool v2.ax.d, .slice v2.ay.a v2.ay.n v2.ay.n, .bool v2.ay.b, .slice v2.ay.c v2.ay.m v2.ay.m, .bool v2.ay.d, .slice v2.cx.a v2.cx.n v2.cx.n, .bool v2.cx.b, .slice v2.cx.c v2.cx.m v2.cx.m, .bool v2.cx.d, .slice v2.cy.a v2.cy.n v2.cy.n, .bool v2.cy.b, .slice v2.cy.c v2.cy.m v2.cy.m, .bool v2.cy.d, .slice v3.ax.a v3.ax.n v3.ax.n, .bool v3.ax.b, .slice v3.ax.c v3.ax.m v3.ax.m, .bool v3.ax.d, .slice v3.ay.a v3.ay.n v3.ay.n, .bool v3.ay.b, .slice v3.ay.c v3.ay.m v3.ay.m, .bool v3.ay.d, .slice v3.cx.a v3.cx.n v3.cx.n, .bool v3.cx.b, .slice v3.cx.c v3.cx.m v3.cx.m, .bool v3.cx.d, .slice v3.cy.a v3.cy.n v3.cy.n, .bool v3.cy.b, .slice v3.cy.c v3.cy.m v3.cy.m, .bool v3.cy.d] 34))) := G4.out.alloc G4.out.size _
  clear S3 G4 H3 H4
  go_wp2_with fail
  have SA : Hid (SegSlice (w3.alloc (.cells #[.slice v2.ax.a v2.ax.n v2.ax.n, .bool v2.ax.b, .slice v2.ax.c v2.ax.m v2.ax.m, .bool v2.ax.d, .slice v2.ay.a v2.ay.n v2.ay.n, .bool v2.ay.b, .slice v2.ay.c v2.ay.m v2.ay.m, .bool v2.ay.d, .slice v2.cx.a v2.cx.n v2.cx.n, .bool v2.cx.b, .slice v2.cx.c v2.cx.m v2.cx.m, .bool v2.cx.d, .slice v2.cy.a v2.cy.n v2.cy.n, .bool v2.cy.b, .slice v2.cy.c v2.cy.m v2.cy.m, .bool v2.cy.d, .slice v3.ax.a v3.ax.n v3.ax.n, .bool v3.ax.b, .slice v3.ax.c v3.ax.m v3.ax.m, .bool v3.ax.d, .slice v3.ay.a v3.ay.n v3.ay.n, .bool v3.ay.b, .slice v3.ay.c v3.ay.m v3.ay.m, .bool v3.ay.d, .slice v3.cx.a v3.cx.n v3.cx.n, .bool v3.cx.b, .slice v3.cx.c v3.cx.m v3.cx.m, .bool v3.cx.d, .slice v3.cy.a v3.cy.n v3.cy.n, .bool v3.cy.b, .slice v3.cy.c v3.cy.m v3.cy.m, .bool v3.cy.d] 34)) (.slice (some ⟨w1.heap.size, 0, none⟩) (1 : Nat) (1 : Nat)) kA) := ⟨_, _, rfl, .inr ⟨_, rfl, S5.out⟩⟩
  have SB : Hid (SegSlice (w3.alloc (.cells #[.slice v2.ax.a v2.ax.n v2.ax.n, .bool v2.ax.b, .slice v2.ax.c v2.ax.m v2.ax.m, .bool v2.ax.d, .slice v2.ay.a v2.ay.n v2.ay.n, .bool v2.ay.b, .slice v2.ay.c v2.ay.m v2.ay.m, .bool v2.ay.d, .slice v2.cx.a v2.cx.n v2.cx.n, .bool v2.cx.b, .slice v2.cx.c v2.cx.m v2.cx.m, .bool v2.cx.d, .slice v2.cy.a v2.cy.n v2.cy.n, .bool v2.cy.b, .slice v2.cy.c v2.cy.m v2.cy.m, .bool v2.cy.d, .slice v3.ax.a v3.ax.n v3.ax.n, .bool v3.ax.b, .slice v3.ax.c v3.ax.m v3.ax.m, .bool v3.ax.d, .slice v3.ay.a v3.ay.n v3.ay.n, .bool v3.ay.b, .slice v3.ay.c v3.ay.m v3.ay.m, .bool v3.ay.d, .slice v3.cx.a v3.cx.n v3.cx.n, .bool v3.cx.b, .slice v3.cx.c v3.cx.m v3.cx.m, .bool v3.cx.d, .slice v3.cy.a v3.cy.n v3.cy.n, .bool v3.cy.b, .slice v3.cy.c v3.cy.m v3.cy.m, .bool v3.cy.d] 34)) (.slice (some ⟨w3.heap.size, 0, none⟩) (2 : Nat) (2 : Nat)) kB) := ⟨_, _, rfl, .inr ⟨_, rfl, S4.out⟩⟩
  clear S4 S5
  refine (pairsAll_any kA kB _ _ 1 _ SA.out SB.out (by decide) (by decide) (by decide) (by decide) kA_l kB_l).mono ?_
  rintro e w4 ⟨r4, rfl, p4, g4⟩
  rw [k_one] at p4
  obtain ⟨o4, c4, rfl, -⟩ := p4.shape
  have SA4 : Hid (SegSlice w4 _ kA) := SA.out.still g4
  have SB4 : Hid (SegSlice w4 _ kB) := SB.out.still g4
  have G6 : Hid (Below w.heap.size w w4) := G5.out.trans (g4.mono G5.out.size)
  clear p4 g4 SA SB G5
  go_wp2_with fail
  refine (pairsAll_any kA kB _ _ 3 _ SA4.out SB4.out (by decide) (by decide) (by decide) (by decide) kA_l kB_l).mono ?_
  rintro e w5 ⟨r5, rfl, p5, g5⟩
  rw [k_three] at p5
  obtain ⟨o5, c5, rfl, hs5⟩ := p5.shape
  have R5 := Lib.hid p5
  have SA5 : Hid (SegSlice w5 _ kA) := SA4.out.still g5
  have SB5 : Hid (SegSlice w5 _ kB) := SB4.out.still g5
  have G7 : Hid (Below w.heap.size w w5) := G6.out.trans (g5.mono G6.out.size)
  obtain ⟨g, hg, hc5, x0, x1⟩ := hs5 1 (0, 1) rfl
  subst hg
  have hgl : g < w5.heap.size := by
    rcases p5 with ⟨h, _⟩ | ⟨g', cap, cs, h, k, _⟩
    · cases h
    · injection h with h
      injection h with h
      injection h with h
      subst h
      exact (Array.getElem?_eq_some_iff.1 k).1
  have X5 : Hid (w5.cell? ⟨g, 2, none⟩ = some (.int .i64 0) ∧ w5.cell? ⟨g, 3, none⟩ = some (.int .i64 1) ∧ g < w5.heap.size ∧ 2 ≤ c5) := ⟨x0, x1, hgl, hc5⟩
  clear p5 g5 SA4 SB4 G6 hs5 x0 x1 R5 hgl hc5
  go_wp2_with fail
  refine (pairsAll_any kA kB _ _ 0 _ SA5.out SB5.out (by decide) (by decide) (by decide) (by decide) kA_l kB_l).mono ?_
  rintro e w6 ⟨r6, rfl, p6, g6⟩
  rw [k_none] at p6
  obtain ⟨o6, c6, rfl, -⟩ := p6.shape
  have G8 : Hid (Below w.heap.size w w6) := G7.out.trans (g6.mono G7.out.size)
  have e0 : w6.cell? ⟨g, 2, none⟩ = some (.int .i64 0) := (World.cell?_of_block (a := ⟨g, _, none⟩) (g6.block g X5.out.2.2.1)).trans X5.out.1
  have e1 : w6.cell? ⟨g, 3, none⟩ = some (.int .i64 1) := (World.cell?_of_block (a := ⟨g, _, none⟩) (g6.block g X5.out.2.2.1)).trans X5.out.2.1
  clear p6 g6 SA5 SB5 G7 X5
  go_wp2_with fail
  go_ret
  exact ⟨rfl, G8.out⟩
end Go.Proofs.Ytnojfiokdhcbjaa
