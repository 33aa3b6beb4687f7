/-
  slices.EqualFunc at statements, of statements that are the same: true.
-/
import Derived.Test.YtgnjaneddidbbaaDoorAlike
namespace Go.Proofs.YtgnjaneddidbbaaDoor
open Go Go.RowKit

/-- A slice of statements in memory. -/
def StsIs (w : World) (v : Value) (l : List St) : Prop :=
  l.length ≤ 9223372036854775807 ∧ ∃ a cap, v = .slice a l.length cap ∧ (l = [] ∨ ∃ g o, a = some ⟨g, o, none⟩ ∧ g < w.heap.size ∧ ∃ cs, (∀ j u, cs[j]? = some u → w.cell? ⟨g, o + j, none⟩ = some u) ∧ StRow Any w l cs)

theorem StsIs.still {w w' : World} {v : Value} {l : List St} (h : StsIs w v l) (hg : w.grownBy w' none) : StsIs w' v l := by
  obtain ⟨h1, a, cap, rfl, h2⟩ := h
  refine ⟨h1, a, cap, rfl, ?_⟩
  rcases h2 with h2 | ⟨g, o, rfl, hl, cs, hc, hr⟩
  · exact .inl h2
  · exact .inr ⟨g, o, rfl, Nat.lt_of_lt_of_le hl hg.size, cs, fun j u hu => (World.cell?_of_block (a := ⟨g, o + j, none⟩) (hg.block g hl (by simp))).trans (hc j u hu), hr.kept hg.size (fun k hk _ => ⟨hg.block k hk (by simp), trivial⟩)⟩

theorem stCells_length (x : St) (A B : NV) : (stCells x A B).length = 13 := rfl
theorem StRow.get {ok : Nat → Prop} {w : World} : ∀ {l : List St} {cs : List Value}, StRow ok w l cs → ∀ (k : Nat) (x : St), l[k]? = some x → ∃ A B : NV, (∀ j, j < 13 → cs[k * 13 + j]? = (stCells x A B)[j]?) ∧ NdIs ok w x.a A.val ∧ NdIs ok w x.b B.val
  | [], _, _, k, x, hk => by simp at hk
  | y :: l, cs, h, k, x, hk => by
    obtain ⟨A, B, rest, rfl, ha, hb, hr⟩ := h
    cases k with
    | zero =>
      obtain rfl : y = x := by simpa using hk
      refine ⟨A, B, fun j hj => ?_, ha, hb⟩
      rw [Nat.zero_mul, Nat.zero_add, List.getElem?_append_left (by rw [stCells_length]; exact hj)]
    | succ k =>
      obtain ⟨A', B', h1, h2, h3⟩ := StRow.get hr k x (by simpa using hk)
      refine ⟨A', B', fun j hj => ?_, h2, h3⟩
      rw [List.getElem?_append_right (by rw [stCells_length]; omega), stCells_length, show (k + 1) * 13 + j - 13 = k * 13 + j by omega]
      exact h1 j hj

/-- A statement out of a slice of them. -/
theorem StsIs.get {w : World} {v : Value} {l : List St} (h : StsIs w v l) {k : Nat} {x : St} (hk : l[k]? = some x) : ∃ g o cap, v = .slice (some ⟨g, o, none⟩) l.length cap ∧ g < w.heap.size ∧ ∃ A B : NV, (∀ j, j < 13 → w.cell? ⟨g, o + k * 13 + j, none⟩ = (stCells x A B)[j]?) ∧ NdIs Any w x.a A.val ∧ NdIs Any w x.b B.val := by
  obtain ⟨_, a, cap, rfl, h2⟩ := h
  rcases h2 with rfl | ⟨g, o, rfl, hl, cs, hc, hr⟩
  · simp at hk
  · obtain ⟨A, B, h1, h3, h4⟩ := hr.get k x hk
    refine ⟨g, o, cap, rfl, hl, A, B, fun j hj => ?_, h3, h4⟩
    have h5 : (stCells x A B)[j]? = some ((stCells x A B)[j]'(by rw [stCells_length]; exact hj)) := List.getElem?_eq_getElem _
    rw [h5, Nat.add_assoc]
    exact hc _ _ ((h1 j hj).trans h5)

set_option maxHeartbeats 4000000 in
set_option maxRecDepth 100000 in
theorem eqStmts (l : List St) (v1 v2 : Value) (w : World) (h1 : StsIs w v1 l) (h2 : StsIs w v2 l) :
    Calls Tryd.prog 37 #[v1, v2, .func (.func 38) #[] #[]] w fun e w' => e = .returned (.bool true) ∧ w.grownBy w' none := by
  have H1 := Lib.hid h1
  have H2 := Lib.hid h2
  obtain ⟨hn, a1, c1, rfl, _⟩ := h1
  obtain ⟨_, a2, c2, rfl, _⟩ := h2
  obtain ⟨n, hln⟩ : ∃ n, l.length = n := ⟨_, rfl⟩
  rw [hln] at hn H1 H2 ⊢
  have HLN := Lib.hid hln
  clear hln
  go_enter Tryd.func37, Tryd.ntmps37
  go_wp2_with fail
  go_loopg [17] (n + 1) (fun k u wr => Hid (EqAt w n k u wr))
  case atStart => exact ⟨0, rfl, Nat.zero_le _, by omega, grown_refl _ _⟩
  case round =>
    obtain ⟨i, rfl, hi, hk, hg⟩ := hrel.out
    have HG := Lib.hid hg
    clear hrel hg
    by_cases hlt : i < n
    · obtain ⟨x, hx⟩ : ∃ x, l[i]? = some x := ⟨l[i]'(by rw [HLN.out]; exact hlt), List.getElem?_eq_getElem _⟩
      obtain ⟨g1, o1, cap1, e1, hl1, A, B, q1, na, nb⟩ := (H1.out.still HG.out).get hx
      obtain ⟨g2, o2, cap2, e2, hl2, C, D, q2, nc, nd⟩ := (H2.out.still HG.out).get hx
      cases e1
      cases e2
      obtain ⟨kind, name, xa, xb, rule, N, d, K, snap⟩ := x
      have x0 := q1 0 (by decide)
      have y0 := fun o => (Below.cell (p := ⟨g2, o2 + i * 13 + 0, none⟩) ((Below.refl wr.heap.size wr).alloc (Nat.le_refl _) o) hl2).trans (q2 0 (by decide))
      have x1 := q1 1 (by decide)
      have y1 := fun o => (Below.cell (p := ⟨g2, o2 + i * 13 + 1, none⟩) ((Below.refl wr.heap.size wr).alloc (Nat.le_refl _) o) hl2).trans (q2 1 (by decide))
      have x2 := q1 2 (by decide)
      have y2 := fun o => (Below.cell (p := ⟨g2, o2 + i * 13 + 2, none⟩) ((Below.refl wr.heap.size wr).alloc (Nat.le_refl _) o) hl2).trans (q2 2 (by decide))
      have x3 := q1 3 (by decide)
      have y3 := fun o => (Below.cell (p := ⟨g2, o2 + i * 13 + 3, none⟩) ((Below.refl wr.heap.size wr).alloc (Nat.le_refl _) o) hl2).trans (q2 3 (by decide))
      have x4 := q1 4 (by decide)
      have y4 := fun o => (Below.cell (p := ⟨g2, o2 + i * 13 + 4, none⟩) ((Below.refl wr.heap.size wr).alloc (Nat.le_refl _) o) hl2).trans (q2 4 (by decide))
      have x5 := q1 5 (by decide)
      have y5 := fun o => (Below.cell (p := ⟨g2, o2 + i * 13 + 5, none⟩) ((Below.refl wr.heap.size wr).alloc (Nat.le_refl _) o) hl2).trans (q2 5 (by decide))
      have x6 := q1 6 (by decide)
      have y6 := fun o => (Below.cell (p := ⟨g2, o2 + i * 13 + 6, none⟩) ((Below.refl wr.heap.size wr).alloc (Nat.le_refl _) o) hl2).trans (q2 6 (by decide))
      have x7 := q1 7 (by decide)
      have y7 := fun o => (Below.cell (p := ⟨g2, o2 + i * 13 + 7, none⟩) ((Below.refl wr.heap.size wr).alloc (Nat.le_refl _) o) hl2).trans (q2 7 (by decide))
      have x8 := q1 8 (by decide)
      have y8 := fun o => (Below.cell (p := ⟨g2, o2 + i * 13 + 8, none⟩) ((Below.refl wr.heap.size wr).alloc (Nat.le_refl _) o) hl2).trans (q2 8 (by decide))
      have x9 := q1 9 (by decide)
      have y9 := fun o => (Below.cell (p := ⟨g2, o2 + i * 13 + 9, none⟩) ((Below.refl wr.heap.size wr).alloc (Nat.le_refl _) o) hl2).trans (q2 9 (by decide))
      have x10 := q1 10 (by decide)
      have y10 := fun o => (Below.cell (p := ⟨g2, o2 + i * 13 + 10, none⟩) ((Below.refl wr.heap.size wr).alloc (Nat.le_refl _) o) hl2).trans (q2 10 (by decide))
      have x11 := q1 11 (by decide)
      have y11 := fun o => (Below.cell (p := ⟨g2, o2 + i * 13 + 11, none⟩) ((Below.refl wr.heap.size wr).alloc (Nat.le_refl _) o) hl2).trans (q2 11 (by decide))
      have x12 := q1 12 (by decide)
      have y12 := fun o => (Below.cell (p := ⟨g2, o2 + i * 13 + 12, none⟩) ((Below.refl wr.heap.size wr).alloc (Nat.le_refl _) o) hl2).trans (q2 12 (by decide))
      simp only [stCells, List.getElem?_cons_succ, List.getElem?_cons_zero, Nat.add_zero] at x0 y0 x1 y1 x2 y2 x3 y3 x4 y4 x5 y5 x6 y6 x7 y7 x8 y8 x9 y9 x10 y10 x11 y11 x12 y12
      have NA := Lib.hid na
      have NB := Lib.hid nb
      have NC := Lib.hid nc
      have ND := Lib.hid nd
      clear na nb nc nd q1 q2 hx
      go_wp2_with fail
      have HA : Hid (wr.grownBy ((wr.alloc (.cells #[.int .i64 kind, .string (bs name), .int .i64 A.k, .string A.s, .slice A.a A.n A.c, .int .i64 B.k, .string B.s, .slice B.a B.n B.c, .int .i64 rule, .int .i64 N, .int .i64 d, .int .i64 K, .bool snap] 73)).alloc (.cells #[.int .i64 kind, .string (bs name), .int .i64 C.k, .string C.s, .slice C.a C.n C.c, .int .i64 D.k, .string D.s, .slice D.a D.n D.c, .int .i64 rule, .int .i64 N, .int .i64 d, .int .i64 K, .bool snap] 73)) none) := grown_trans (grown_alloc _ _ _) (grown_alloc _ _ _)
      refine (alike_any kind name xa xb rule N d K snap A B C D _ (NA.out.still HA.out) (NB.out.still HA.out) (NC.out.still HA.out) (ND.out.still HA.out)).mono ?_
      rintro e w3 ⟨rfl, hg3⟩
      have HG3 : Hid (w.grownBy w3 none) := grown_trans HG.out (grown_trans HA.out hg3)
      clear hg3 HA NA NB NC ND HG x0 y0 x1 y1 x2 y2 x3 y3 x4 y4 x5 y5 x6 y6 x7 y7 x8 y8 x9 y9 x10 y10 x11 y11 x12 y12
      go_wp2
      go_roundg (gk - 1)
      case measure => omega
      case rel => exact ⟨i + 1, by go_num, by omega, by omega, HG3.out⟩
    · go_wp2
      go_ret
      exact ⟨rfl, HG.out⟩
end Go.Proofs.YtgnjaneddidbbaaDoor
