/-
  The reference's Same, of statements that are the same: true.
-/
import Derived.Test.YtgnjaneddidbbaaDoorSmAZ
import Derived.BigRegion
import Derived.RegionTactic
namespace Go.Proofs.YtgnjaneddidbbaaDoor
open Go Go.RowKit

set_option maxHeartbeats 4000000 in
set_option maxRecDepth 100000 in
theorem sameSts (l : List St) (v1 v2 : Value) (w : World) (h1 : StsIs w v1 l) (h2 : StsIs w v2 l) :
    Calls Tryd.prog 17 #[v1, v2] w fun e w' => e = .returned (.bool true) ∧ w.grownBy w' none := by
  have H1 := Lib.hid h1
  have H2 := Lib.hid h2
  obtain ⟨hn, a1, c1, rfl, _⟩ := h1
  obtain ⟨_, a2, c2, rfl, _⟩ := h2
  obtain ⟨n, hln⟩ : ∃ n, l.length = n := ⟨_, rfl⟩
  rw [hln] at hn H1 H2 ⊢
  have HLN := Lib.hid hln
  clear hln
  have hnn : ((n : Int) != (n : Int)) = false := by simp
  go_enter Tryd.func17, Tryd.ntmps17
  go_wp2_with fail
  clear hnn
  go_loopg [5] (n + 1) (fun k u wr => Hid (EqAt w n k u wr))
  case atStart => exact ⟨0, rfl, Nat.zero_le _, by omega, grown_refl _ _⟩
  case round =>
    obtain ⟨i, rfl, hi, hk, hg⟩ := hrel.out
    have HG := Lib.hid hg
    clear hrel hg
    by_cases hlt : i < n
    · obtain ⟨x, hx⟩ : ∃ x, l[i]? = some x := ⟨l[i]'(by rw [HLN.out]; exact hlt), List.getElem?_eq_getElem _⟩
      obtain ⟨g1, o1, cap1, e1, hl1, A, B, q1, na, nb⟩ := (H1.out.still HG.out).get hx
      obtain ⟨g2, o2, cap2, e2, hl2, C, D, q2, nc, nd⟩ := (H2.out.still HG.out).get hx
      have hd1 : decide (i < n) = true := by simp; omega
      have hd2 : decide ((i : Int) < (n : Int)) = true := by simp; omega
      cases e1
      cases e2
      obtain ⟨kind, name, xa, xb, rule, N, d, K, snap⟩ := x
      have x0 := q1 0 (by decide)
      have xa0 := fun o => (Below.cell (p := ⟨g1, o1 + i * 13 + 0, none⟩) ((Below.refl wr.heap.size wr).alloc (Nat.le_refl _) o) hl1).trans (q1 0 (by decide))
      have xb0 := fun o p => (Below.cell (p := ⟨g1, o1 + i * 13 + 0, none⟩) (((Below.refl wr.heap.size wr).alloc (Nat.le_refl _) o).alloc (by simp) p) hl1).trans (q1 0 (by decide))
      have y0 := q2 0 (by decide)
      have ya0 := fun o => (Below.cell (p := ⟨g2, o2 + i * 13 + 0, none⟩) ((Below.refl wr.heap.size wr).alloc (Nat.le_refl _) o) hl2).trans (q2 0 (by decide))
      have yb0 := fun o p => (Below.cell (p := ⟨g2, o2 + i * 13 + 0, none⟩) (((Below.refl wr.heap.size wr).alloc (Nat.le_refl _) o).alloc (by simp) p) hl2).trans (q2 0 (by decide))
      have x1 := q1 1 (by decide)
      have xa1 := fun o => (Below.cell (p := ⟨g1, o1 + i * 13 + 1, none⟩) ((Below.refl wr.heap.size wr).alloc (Nat.le_refl _) o) hl1).trans (q1 1 (by decide))
      have xb1 := fun o p => (Below.cell (p := ⟨g1, o1 + i * 13 + 1, none⟩) (((Below.refl wr.heap.size wr).alloc (Nat.le_refl _) o).alloc (by simp) p) hl1).trans (q1 1 (by decide))
      have y1 := q2 1 (by decide)
      have ya1 := fun o => (Below.cell (p := ⟨g2, o2 + i * 13 + 1, none⟩) ((Below.refl wr.heap.size wr).alloc (Nat.le_refl _) o) hl2).trans (q2 1 (by decide))
      have yb1 := fun o p => (Below.cell (p := ⟨g2, o2 + i * 13 + 1, none⟩) (((Below.refl wr.heap.size wr).alloc (Nat.le_refl _) o).alloc (by simp) p) hl2).trans (q2 1 (by decide))
      have x2 := q1 2 (by decide)
      have xa2 := fun o => (Below.cell (p := ⟨g1, o1 + i * 13 + 2, none⟩) ((Below.refl wr.heap.size wr).alloc (Nat.le_refl _) o) hl1).trans (q1 2 (by decide))
      have xb2 := fun o p => (Below.cell (p := ⟨g1, o1 + i * 13 + 2, none⟩) (((Below.refl wr.heap.size wr).alloc (Nat.le_refl _) o).alloc (by simp) p) hl1).trans (q1 2 (by decide))
      have y2 := q2 2 (by decide)
      have ya2 := fun o => (Below.cell (p := ⟨g2, o2 + i * 13 + 2, none⟩) ((Below.refl wr.heap.size wr).alloc (Nat.le_refl _) o) hl2).trans (q2 2 (by decide))
      have yb2 := fun o p => (Below.cell (p := ⟨g2, o2 + i * 13 + 2, none⟩) (((Below.refl wr.heap.size wr).alloc (Nat.le_refl _) o).alloc (by simp) p) hl2).trans (q2 2 (by decide))
      have x3 := q1 3 (by decide)
      have xa3 := fun o => (Below.cell (p := ⟨g1, o1 + i * 13 + 3, none⟩) ((Below.refl wr.heap.size wr).alloc (Nat.le_refl _) o) hl1).trans (q1 3 (by decide))
      have xb3 := fun o p => (Below.cell (p := ⟨g1, o1 + i * 13 + 3, none⟩) (((Below.refl wr.heap.size wr).alloc (Nat.le_refl _) o).alloc (by simp) p) hl1).trans (q1 3 (by decide))
      have y3 := q2 3 (by decide)
      have ya3 := fun o => (Below.cell (p := ⟨g2, o2 + i * 13 + 3, none⟩) ((Below.refl wr.heap.size wr).alloc (Nat.le_refl _) o) hl2).trans (q2 3 (by decide))
      have yb3 := fun o p => (Below.cell (p := ⟨g2, o2 + i * 13 + 3, none⟩) (((Below.refl wr.heap.size wr).alloc (Nat.le_refl _) o).alloc (by simp) p) hl2).trans (q2 3 (by decide))
      have x4 := q1 4 (by decide)
      have xa4 := fun o => (Below.cell (p := ⟨g1, o1 + i * 13 + 4, none⟩) ((Below.refl wr.heap.size wr).alloc (Nat.le_refl _) o) hl1).trans (q1 4 (by decide))
      have xb4 := fun o p => (Below.cell (p := ⟨g1, o1 + i * 13 + 4, none⟩) (((Below.refl wr.heap.size wr).alloc (Nat.le_refl _) o).alloc (by simp) p) hl1).trans (q1 4 (by decide))
      have y4 := q2 4 (by decide)
      have ya4 := fun o => (Below.cell (p := ⟨g2, o2 + i * 13 + 4, none⟩) ((Below.refl wr.heap.size wr).alloc (Nat.le_refl _) o) hl2).trans (q2 4 (by decide))
      have yb4 := fun o p => (Below.cell (p := ⟨g2, o2 + i * 13 + 4, none⟩) (((Below.refl wr.heap.size wr).alloc (Nat.le_refl _) o).alloc (by simp) p) hl2).trans (q2 4 (by decide))
      have x5 := q1 5 (by decide)
      have xa5 := fun o => (Below.cell (p := ⟨g1, o1 + i * 13 + 5, none⟩) ((Below.refl wr.heap.size wr).alloc (Nat.le_refl _) o) hl1).trans (q1 5 (by decide))
      have xb5 := fun o p => (Below.cell (p := ⟨g1, o1 + i * 13 + 5, none⟩) (((Below.refl wr.heap.size wr).alloc (Nat.le_refl _) o).alloc (by simp) p) hl1).trans (q1 5 (by decide))
      have y5 := q2 5 (by decide)
      have ya5 := fun o => (Below.cell (p := ⟨g2, o2 + i * 13 + 5, none⟩) ((Below.refl wr.heap.size wr).alloc (Nat.le_refl _) o) hl2).trans (q2 5 (by decide))
      have yb5 := fun o p => (Below.cell (p := ⟨g2, o2 + i * 13 + 5, none⟩) (((Below.refl wr.heap.size wr).alloc (Nat.le_refl _) o).alloc (by simp) p) hl2).trans (q2 5 (by decide))
      have x6 := q1 6 (by decide)
      have xa6 := fun o => (Below.cell (p := ⟨g1, o1 + i * 13 + 6, none⟩) ((Below.refl wr.heap.size wr).alloc (Nat.le_refl _) o) hl1).trans (q1 6 (by decide))
      have xb6 := fun o p => (Below.cell (p := ⟨g1, o1 + i * 13 + 6, none⟩) (((Below.refl wr.heap.size wr).alloc (Nat.le_refl _) o).alloc (by simp) p) hl1).trans (q1 6 (by decide))
      have y6 := q2 6 (by decide)
      have ya6 := fun o => (Below.cell (p := ⟨g2, o2 + i * 13 + 6, none⟩) ((Below.refl wr.heap.size wr).alloc (Nat.le_refl _) o) hl2).trans (q2 6 (by decide))
      have yb6 := fun o p => (Below.cell (p := ⟨g2, o2 + i * 13 + 6, none⟩) (((Below.refl wr.heap.size wr).alloc (Nat.le_refl _) o).alloc (by simp) p) hl2).trans (q2 6 (by decide))
      have x7 := q1 7 (by decide)
      have xa7 := fun o => (Below.cell (p := ⟨g1, o1 + i * 13 + 7, none⟩) ((Below.refl wr.heap.size wr).alloc (Nat.le_refl _) o) hl1).trans (q1 7 (by decide))
      have xb7 := fun o p => (Below.cell (p := ⟨g1, o1 + i * 13 + 7, none⟩) (((Below.refl wr.heap.size wr).alloc (Nat.le_refl _) o).alloc (by simp) p) hl1).trans (q1 7 (by decide))
      have y7 := q2 7 (by decide)
      have ya7 := fun o => (Below.cell (p := ⟨g2, o2 + i * 13 + 7, none⟩) ((Below.refl wr.heap.size wr).alloc (Nat.le_refl _) o) hl2).trans (q2 7 (by decide))
      have yb7 := fun o p => (Below.cell (p := ⟨g2, o2 + i * 13 + 7, none⟩) (((Below.refl wr.heap.size wr).alloc (Nat.le_refl _) o).alloc (by simp) p) hl2).trans (q2 7 (by decide))
      have x8 := q1 8 (by decide)
      have xa8 := fun o => (Below.cell (p := ⟨g1, o1 + i * 13 + 8, none⟩) ((Below.refl wr.heap.size wr).alloc (Nat.le_refl _) o) hl1).trans (q1 8 (by decide))
      have xb8 := fun o p => (Below.cell (p := ⟨g1, o1 + i * 13 + 8, none⟩) (((Below.refl wr.heap.size wr).alloc (Nat.le_refl _) o).alloc (by simp) p) hl1).trans (q1 8 (by decide))
      have y8 := q2 8 (by decide)
      have ya8 := fun o => (Below.cell (p := ⟨g2, o2 + i * 13 + 8, none⟩) ((Below.refl wr.heap.size wr).alloc (Nat.le_refl _) o) hl2).trans (q2 8 (by decide))
      have yb8 := fun o p => (Below.cell (p := ⟨g2, o2 + i * 13 + 8, none⟩) (((Below.refl wr.heap.size wr).alloc (Nat.le_refl _) o).alloc (by simp) p) hl2).trans (q2 8 (by decide))
      have x9 := q1 9 (by decide)
      have xa9 := fun o => (Below.cell (p := ⟨g1, o1 + i * 13 + 9, none⟩) ((Below.refl wr.heap.size wr).alloc (Nat.le_refl _) o) hl1).trans (q1 9 (by decide))
      have xb9 := fun o p => (Below.cell (p := ⟨g1, o1 + i * 13 + 9, none⟩) (((Below.refl wr.heap.size wr).alloc (Nat.le_refl _) o).alloc (by simp) p) hl1).trans (q1 9 (by decide))
      have y9 := q2 9 (by decide)
      have ya9 := fun o => (Below.cell (p := ⟨g2, o2 + i * 13 + 9, none⟩) ((Below.refl wr.heap.size wr).alloc (Nat.le_refl _) o) hl2).trans (q2 9 (by decide))
      have yb9 := fun o p => (Below.cell (p := ⟨g2, o2 + i * 13 + 9, none⟩) (((Below.refl wr.heap.size wr).alloc (Nat.le_refl _) o).alloc (by simp) p) hl2).trans (q2 9 (by decide))
      have x10 := q1 10 (by decide)
      have xa10 := fun o => (Below.cell (p := ⟨g1, o1 + i * 13 + 10, none⟩) ((Below.refl wr.heap.size wr).alloc (Nat.le_refl _) o) hl1).trans (q1 10 (by decide))
      have xb10 := fun o p => (Below.cell (p := ⟨g1, o1 + i * 13 + 10, none⟩) (((Below.refl wr.heap.size wr).alloc (Nat.le_refl _) o).alloc (by simp) p) hl1).trans (q1 10 (by decide))
      have y10 := q2 10 (by decide)
      have ya10 := fun o => (Below.cell (p := ⟨g2, o2 + i * 13 + 10, none⟩) ((Below.refl wr.heap.size wr).alloc (Nat.le_refl _) o) hl2).trans (q2 10 (by decide))
      have yb10 := fun o p => (Below.cell (p := ⟨g2, o2 + i * 13 + 10, none⟩) (((Below.refl wr.heap.size wr).alloc (Nat.le_refl _) o).alloc (by simp) p) hl2).trans (q2 10 (by decide))
      have x11 := q1 11 (by decide)
      have xa11 := fun o => (Below.cell (p := ⟨g1, o1 + i * 13 + 11, none⟩) ((Below.refl wr.heap.size wr).alloc (Nat.le_refl _) o) hl1).trans (q1 11 (by decide))
      have xb11 := fun o p => (Below.cell (p := ⟨g1, o1 + i * 13 + 11, none⟩) (((Below.refl wr.heap.size wr).alloc (Nat.le_refl _) o).alloc (by simp) p) hl1).trans (q1 11 (by decide))
      have y11 := q2 11 (by decide)
      have ya11 := fun o => (Below.cell (p := ⟨g2, o2 + i * 13 + 11, none⟩) ((Below.refl wr.heap.size wr).alloc (Nat.le_refl _) o) hl2).trans (q2 11 (by decide))
      have yb11 := fun o p => (Below.cell (p := ⟨g2, o2 + i * 13 + 11, none⟩) (((Below.refl wr.heap.size wr).alloc (Nat.le_refl _) o).alloc (by simp) p) hl2).trans (q2 11 (by decide))
      have x12 := q1 12 (by decide)
      have xa12 := fun o => (Below.cell (p := ⟨g1, o1 + i * 13 + 12, none⟩) ((Below.refl wr.heap.size wr).alloc (Nat.le_refl _) o) hl1).trans (q1 12 (by decide))
      have xb12 := fun o p => (Below.cell (p := ⟨g1, o1 + i * 13 + 12, none⟩) (((Below.refl wr.heap.size wr).alloc (Nat.le_refl _) o).alloc (by simp) p) hl1).trans (q1 12 (by decide))
      have y12 := q2 12 (by decide)
      have ya12 := fun o => (Below.cell (p := ⟨g2, o2 + i * 13 + 12, none⟩) ((Below.refl wr.heap.size wr).alloc (Nat.le_refl _) o) hl2).trans (q2 12 (by decide))
      have yb12 := fun o p => (Below.cell (p := ⟨g2, o2 + i * 13 + 12, none⟩) (((Below.refl wr.heap.size wr).alloc (Nat.le_refl _) o).alloc (by simp) p) hl2).trans (q2 12 (by decide))
      simp only [stCells, List.getElem?_cons_succ, List.getElem?_cons_zero, Nat.add_zero] at x0 x1 x2 x3 x4 x5 x6 x7 x8 x9 x10 x11 x12 xa0 xa1 xa2 xa3 xa4 xa5 xa6 xa7 xa8 xa9 xa10 xa11 xa12 xb0 xb1 xb2 xb3 xb4 xb5 xb6 xb7 xb8 xb9 xb10 xb11 xb12 y0 y1 y2 y3 y4 y5 y6 y7 y8 y9 y10 y11 y12 ya0 ya1 ya2 ya3 ya4 ya5 ya6 ya7 ya8 ya9 ya10 ya11 ya12 yb0 yb1 yb2 yb3 yb4 yb5 yb6 yb7 yb8 yb9 yb10 yb11 yb12
      have NA := Lib.hid na
      have NB := Lib.hid nb
      have NC := Lib.hid nc
      have ND := Lib.hid nd
      clear na nb nc nd q1 q2 hx
      go_wp2_with fail
      go_region
      · go_wp2_with fail
        clear x0 x1 x2 x3 x4 x5 x6 x7 x8 x9 x10 x11 x12 xa0 xa1 xa2 xa3 xa4 xa5 xa6 xa7 xa8 xa9 xa10 xa11 xa12 xb0 xb1 xb2 xb3 xb4 xb5 xb6 xb7 xb8 xb9 xb10 xb11 xb12 y0 y1 y2 y3 y4 y5 y6 y7 y8 y9 y10 y11 y12 ya0 ya1 ya2 ya3 ya4 ya5 ya6 ya7 ya8 ya9 ya10 ya11 ya12 yb0 yb1 yb2 yb3 yb4 yb5 yb6 yb7 yb8 yb9 yb10 yb11 yb12
        have G0 : Hid (wr.grownBy (((wr.alloc (.cells #[.int .i64 kind, .string (bs name), .int .i64 A.k, .string A.s, .slice A.a A.n A.c, .int .i64 B.k, .string B.s, .slice B.a B.n B.c, .int .i64 rule, .int .i64 N, .int .i64 d, .int .i64 K, .bool snap] 73)).alloc (.cells #[.int .i64 kind, .string (bs name), .int .i64 C.k, .string C.s, .slice C.a C.n C.c, .int .i64 D.k, .string D.s, .slice D.a D.n D.c, .int .i64 rule, .int .i64 N, .int .i64 d, .int .i64 K, .bool snap] 73)).drew) none) := grown_trans (grown_trans (grown_alloc _ _ _) (grown_alloc _ _ _)) (grown_drew _ 1 _)
        have T1 : Hid (BlkS (((wr.alloc (.cells #[.int .i64 kind, .string (bs name), .int .i64 A.k, .string A.s, .slice A.a A.n A.c, .int .i64 B.k, .string B.s, .slice B.a B.n B.c, .int .i64 rule, .int .i64 N, .int .i64 d, .int .i64 K, .bool snap] 73)).alloc (.cells #[.int .i64 kind, .string (bs name), .int .i64 C.k, .string C.s, .slice C.a C.n C.c, .int .i64 D.k, .string D.s, .slice D.a D.n D.c, .int .i64 rule, .int .i64 N, .int .i64 d, .int .i64 K, .bool snap] 73)).drew) wr.heap.size (stCells ⟨kind, name, xa, xb, rule, N, d, K, snap⟩ A B)) := BlkS.grown (show BlkS (wr.alloc (.cells (stCells ⟨kind, name, xa, xb, rule, N, d, K, snap⟩ A B).toArray 73)) wr.heap.size _ from (MapKept.heap_alloc wr _).1) (grown_trans (grown_alloc (wr.alloc (.cells (stCells ⟨kind, name, xa, xb, rule, N, d, K, snap⟩ A B).toArray 73)) (.cells (stCells ⟨kind, name, xa, xb, rule, N, d, K, snap⟩ C D).toArray 73) none) (grown_drew _ 1 _)) (by simp)
        have e1 : (wr.alloc (.cells (stCells ⟨kind, name, xa, xb, rule, N, d, K, snap⟩ A B).toArray 73)).heap.size = wr.heap.size + 1 := by simp
        have T2 : Hid (BlkS (((wr.alloc (.cells #[.int .i64 kind, .string (bs name), .int .i64 A.k, .string A.s, .slice A.a A.n A.c, .int .i64 B.k, .string B.s, .slice B.a B.n B.c, .int .i64 rule, .int .i64 N, .int .i64 d, .int .i64 K, .bool snap] 73)).alloc (.cells #[.int .i64 kind, .string (bs name), .int .i64 C.k, .string C.s, .slice C.a C.n C.c, .int .i64 D.k, .string D.s, .slice D.a D.n D.c, .int .i64 rule, .int .i64 N, .int .i64 d, .int .i64 K, .bool snap] 73)).drew) (wr.heap.size + 1) (stCells ⟨kind, name, xa, xb, rule, N, d, K, snap⟩ C D)) := by
          have h2 : BlkS ((wr.alloc (.cells (stCells ⟨kind, name, xa, xb, rule, N, d, K, snap⟩ A B).toArray 73)).alloc (.cells (stCells ⟨kind, name, xa, xb, rule, N, d, K, snap⟩ C D).toArray 73)) (wr.alloc (.cells (stCells ⟨kind, name, xa, xb, rule, N, d, K, snap⟩ A B).toArray 73)).heap.size (stCells ⟨kind, name, xa, xb, rule, N, d, K, snap⟩ C D) := (MapKept.heap_alloc (wr.alloc (.cells (stCells ⟨kind, name, xa, xb, rule, N, d, K, snap⟩ A B).toArray 73)) (.cells (stCells ⟨kind, name, xa, xb, rule, N, d, K, snap⟩ C D).toArray 73)).1
          rw [e1] at h2
          exact h2
        clear e1
        generalize (((wr.alloc (.cells #[.int .i64 kind, .string (bs name), .int .i64 A.k, .string A.s, .slice A.a A.n A.c, .int .i64 B.k, .string B.s, .slice B.a B.n B.c, .int .i64 rule, .int .i64 N, .int .i64 d, .int .i64 K, .bool snap] 73)).alloc (.cells #[.int .i64 kind, .string (bs name), .int .i64 C.k, .string C.s, .slice C.a C.n C.c, .int .i64 D.k, .string D.s, .slice D.a D.n D.c, .int .i64 rule, .int .i64 N, .int .i64 d, .int .i64 K, .bool snap] 73)).drew) = w2 at *
        refine (same_any xa _ _ _ (NA.out.still G0.out) (NC.out.still G0.out)).mono ?_
        rintro e w3 ⟨rfl, hg3⟩
        have G1 := Lib.hid (grown_trans G0.out hg3)
        have P1 := Lib.hid (T1.out.grown hg3 (by simp))
        have P2 := Lib.hid (T2.out.grown hg3 (by simp))
        clear hg3 T1 T2 G0
        have x0 := P1.out.cell 0
        have y0 := P2.out.cell 0
        have x1 := P1.out.cell 1
        have y1 := P2.out.cell 1
        have x2 := P1.out.cell 2
        have y2 := P2.out.cell 2
        have x3 := P1.out.cell 3
        have y3 := P2.out.cell 3
        have x4 := P1.out.cell 4
        have y4 := P2.out.cell 4
        have x5 := P1.out.cell 5
        have y5 := P2.out.cell 5
        have x6 := P1.out.cell 6
        have y6 := P2.out.cell 6
        have x7 := P1.out.cell 7
        have y7 := P2.out.cell 7
        have x8 := P1.out.cell 8
        have y8 := P2.out.cell 8
        have x9 := P1.out.cell 9
        have y9 := P2.out.cell 9
        have x10 := P1.out.cell 10
        have y10 := P2.out.cell 10
        have x11 := P1.out.cell 11
        have y11 := P2.out.cell 11
        have x12 := P1.out.cell 12
        have y12 := P2.out.cell 12
        simp only [stCells, List.getElem?_cons_succ, List.getElem?_cons_zero] at x0 y0 x1 y1 x2 y2 x3 y3 x4 y4 x5 y5 x6 y6 x7 y7 x8 y8 x9 y9 x10 y10 x11 y11 x12 y12
        go_wp2_with fail
        refine (same_any xb _ _ _ (NB.out.still G1.out) (ND.out.still G1.out)).mono ?_
        rintro e w4 ⟨rfl, hg4⟩
        have G2 : Hid (w.grownBy w4 none) := grown_trans HG.out (grown_trans G1.out hg4)
        have Q1 := Lib.hid (P1.out.grown hg4 (by simp))
        have Q2 := Lib.hid (P2.out.grown hg4 (by simp))
        clear x0 y0 x1 y1 x2 y2 x3 y3 x4 y4 x5 y5 x6 y6 x7 y7 x8 y8 x9 y9 x10 y10 x11 y11 x12 y12 hg4 P1 P2 G1 HG NA NB NC ND
        have x0 := Q1.out.cell 0
        have y0 := Q2.out.cell 0
        have x1 := Q1.out.cell 1
        have y1 := Q2.out.cell 1
        have x2 := Q1.out.cell 2
        have y2 := Q2.out.cell 2
        have x3 := Q1.out.cell 3
        have y3 := Q2.out.cell 3
        have x4 := Q1.out.cell 4
        have y4 := Q2.out.cell 4
        have x5 := Q1.out.cell 5
        have y5 := Q2.out.cell 5
        have x6 := Q1.out.cell 6
        have y6 := Q2.out.cell 6
        have x7 := Q1.out.cell 7
        have y7 := Q2.out.cell 7
        have x8 := Q1.out.cell 8
        have y8 := Q2.out.cell 8
        have x9 := Q1.out.cell 9
        have y9 := Q2.out.cell 9
        have x10 := Q1.out.cell 10
        have y10 := Q2.out.cell 10
        have x11 := Q1.out.cell 11
        have y11 := Q2.out.cell 11
        have x12 := Q1.out.cell 12
        have y12 := Q2.out.cell 12
        simp only [stCells, List.getElem?_cons_succ, List.getElem?_cons_zero] at x0 y0 x1 y1 x2 y2 x3 y3 x4 y4 x5 y5 x6 y6 x7 y7 x8 y8 x9 y9 x10 y10 x11 y11 x12 y12
        go_wp2
        go_roundg (gk - 1)
        case measure => omega
        case rel => exact ⟨i + 1, by go_num, by omega, by omega, G2.out⟩
      · go_wp2_with fail
        clear x0 x1 x2 x3 x4 x5 x6 x7 x8 x9 x10 x11 x12 xa0 xa1 xa2 xa3 xa4 xa5 xa6 xa7 xa8 xa9 xa10 xa11 xa12 xb0 xb1 xb2 xb3 xb4 xb5 xb6 xb7 xb8 xb9 xb10 xb11 xb12 y0 y1 y2 y3 y4 y5 y6 y7 y8 y9 y10 y11 y12 ya0 ya1 ya2 ya3 ya4 ya5 ya6 ya7 ya8 ya9 ya10 ya11 ya12 yb0 yb1 yb2 yb3 yb4 yb5 yb6 yb7 yb8 yb9 yb10 yb11 yb12
        have G0 : Hid (wr.grownBy (((wr.alloc (.cells #[.int .i64 kind, .string (bs name), .int .i64 C.k, .string C.s, .slice C.a C.n C.c, .int .i64 D.k, .string D.s, .slice D.a D.n D.c, .int .i64 rule, .int .i64 N, .int .i64 d, .int .i64 K, .bool snap] 73)).alloc (.cells #[.int .i64 kind, .string (bs name), .int .i64 A.k, .string A.s, .slice A.a A.n A.c, .int .i64 B.k, .string B.s, .slice B.a B.n B.c, .int .i64 rule, .int .i64 N, .int .i64 d, .int .i64 K, .bool snap] 73)).drew) none) := grown_trans (grown_trans (grown_alloc _ _ _) (grown_alloc _ _ _)) (grown_drew _ 1 _)
        have T1 : Hid (BlkS (((wr.alloc (.cells #[.int .i64 kind, .string (bs name), .int .i64 C.k, .string C.s, .slice C.a C.n C.c, .int .i64 D.k, .string D.s, .slice D.a D.n D.c, .int .i64 rule, .int .i64 N, .int .i64 d, .int .i64 K, .bool snap] 73)).alloc (.cells #[.int .i64 kind, .string (bs name), .int .i64 A.k, .string A.s, .slice A.a A.n A.c, .int .i64 B.k, .string B.s, .slice B.a B.n B.c, .int .i64 rule, .int .i64 N, .int .i64 d, .int .i64 K, .bool snap] 73)).drew) wr.heap.size (stCells ⟨kind, name, xa, xb, rule, N, d, K, snap⟩ C D)) := BlkS.grown (show BlkS (wr.alloc (.cells (stCells ⟨kind, name, xa, xb, rule, N, d, K, snap⟩ C D).toArray 73)) wr.heap.size _ from (MapKept.heap_alloc wr _).1) (grown_trans (grown_alloc (wr.alloc (.cells (stCells ⟨kind, name, xa, xb, rule, N, d, K, snap⟩ C D).toArray 73)) (.cells (stCells ⟨kind, name, xa, xb, rule, N, d, K, snap⟩ A B).toArray 73) none) (grown_drew _ 1 _)) (by simp)
        have e1 : (wr.alloc (.cells (stCells ⟨kind, name, xa, xb, rule, N, d, K, snap⟩ C D).toArray 73)).heap.size = wr.heap.size + 1 := by simp
        have T2 : Hid (BlkS (((wr.alloc (.cells #[.int .i64 kind, .string (bs name), .int .i64 C.k, .string C.s, .slice C.a C.n C.c, .int .i64 D.k, .string D.s, .slice D.a D.n D.c, .int .i64 rule, .int .i64 N, .int .i64 d, .int .i64 K, .bool snap] 73)).alloc (.cells #[.int .i64 kind, .string (bs name), .int .i64 A.k, .string A.s, .slice A.a A.n A.c, .int .i64 B.k, .string B.s, .slice B.a B.n B.c, .int .i64 rule, .int .i64 N, .int .i64 d, .int .i64 K, .bool snap] 73)).drew) (wr.heap.size + 1) (stCells ⟨kind, name, xa, xb, rule, N, d, K, snap⟩ A B)) := by
          have h2 : BlkS ((wr.alloc (.cells (stCells ⟨kind, name, xa, xb, rule, N, d, K, snap⟩ C D).toArray 73)).alloc (.cells (stCells ⟨kind, name, xa, xb, rule, N, d, K, snap⟩ A B).toArray 73)) (wr.alloc (.cells (stCells ⟨kind, name, xa, xb, rule, N, d, K, snap⟩ C D).toArray 73)).heap.size (stCells ⟨kind, name, xa, xb, rule, N, d, K, snap⟩ A B) := (MapKept.heap_alloc (wr.alloc (.cells (stCells ⟨kind, name, xa, xb, rule, N, d, K, snap⟩ C D).toArray 73)) (.cells (stCells ⟨kind, name, xa, xb, rule, N, d, K, snap⟩ A B).toArray 73)).1
          rw [e1] at h2
          exact h2
        clear e1
        generalize (((wr.alloc (.cells #[.int .i64 kind, .string (bs name), .int .i64 C.k, .string C.s, .slice C.a C.n C.c, .int .i64 D.k, .string D.s, .slice D.a D.n D.c, .int .i64 rule, .int .i64 N, .int .i64 d, .int .i64 K, .bool snap] 73)).alloc (.cells #[.int .i64 kind, .string (bs name), .int .i64 A.k, .string A.s, .slice A.a A.n A.c, .int .i64 B.k, .string B.s, .slice B.a B.n B.c, .int .i64 rule, .int .i64 N, .int .i64 d, .int .i64 K, .bool snap] 73)).drew) = w2 at *
        refine (same_any xa _ _ _ (NA.out.still G0.out) (NC.out.still G0.out)).mono ?_
        rintro e w3 ⟨rfl, hg3⟩
        have G1 := Lib.hid (grown_trans G0.out hg3)
        have P1 := Lib.hid (T2.out.grown hg3 (by simp))
        have P2 := Lib.hid (T1.out.grown hg3 (by simp))
        clear hg3 T1 T2 G0
        have x0 := P1.out.cell 0
        have y0 := P2.out.cell 0
        have x1 := P1.out.cell 1
        have y1 := P2.out.cell 1
        have x2 := P1.out.cell 2
        have y2 := P2.out.cell 2
        have x3 := P1.out.cell 3
        have y3 := P2.out.cell 3
        have x4 := P1.out.cell 4
        have y4 := P2.out.cell 4
        have x5 := P1.out.cell 5
        have y5 := P2.out.cell 5
        have x6 := P1.out.cell 6
        have y6 := P2.out.cell 6
        have x7 := P1.out.cell 7
        have y7 := P2.out.cell 7
        have x8 := P1.out.cell 8
        have y8 := P2.out.cell 8
        have x9 := P1.out.cell 9
        have y9 := P2.out.cell 9
        have x10 := P1.out.cell 10
        have y10 := P2.out.cell 10
        have x11 := P1.out.cell 11
        have y11 := P2.out.cell 11
        have x12 := P1.out.cell 12
        have y12 := P2.out.cell 12
        simp only [stCells, List.getElem?_cons_succ, List.getElem?_cons_zero] at x0 y0 x1 y1 x2 y2 x3 y3 x4 y4 x5 y5 x6 y6 x7 y7 x8 y8 x9 y9 x10 y10 x11 y11 x12 y12
        go_wp2_with fail
        refine (same_any xb _ _ _ (NB.out.still G1.out) (ND.out.still G1.out)).mono ?_
        rintro e w4 ⟨rfl, hg4⟩
        have G2 : Hid (w.grownBy w4 none) := grown_trans HG.out (grown_trans G1.out hg4)
        have Q1 := Lib.hid (P1.out.grown hg4 (by simp))
        have Q2 := Lib.hid (P2.out.grown hg4 (by simp))
        clear x0 y0 x1 y1 x2 y2 x3 y3 x4 y4 x5 y5 x6 y6 x7 y7 x8 y8 x9 y9 x10 y10 x11 y11 x12 y12 hg4 P1 P2 G1 HG NA NB NC ND
        have x0 := Q1.out.cell 0
        have y0 := Q2.out.cell 0
        have x1 := Q1.out.cell 1
        have y1 := Q2.out.cell 1
        have x2 := Q1.out.cell 2
        have y2 := Q2.out.cell 2
        have x3 := Q1.out.cell 3
        have y3 := Q2.out.cell 3
        have x4 := Q1.out.cell 4
        have y4 := Q2.out.cell 4
        have x5 := Q1.out.cell 5
        have y5 := Q2.out.cell 5
        have x6 := Q1.out.cell 6
        have y6 := Q2.out.cell 6
        have x7 := Q1.out.cell 7
        have y7 := Q2.out.cell 7
        have x8 := Q1.out.cell 8
        have y8 := Q2.out.cell 8
        have x9 := Q1.out.cell 9
        have y9 := Q2.out.cell 9
        have x10 := Q1.out.cell 10
        have y10 := Q2.out.cell 10
        have x11 := Q1.out.cell 11
        have y11 := Q2.out.cell 11
        have x12 := Q1.out.cell 12
        have y12 := Q2.out.cell 12
        simp only [stCells, List.getElem?_cons_succ, List.getElem?_cons_zero] at x0 y0 x1 y1 x2 y2 x3 y3 x4 y4 x5 y5 x6 y6 x7 y7 x8 y8 x9 y9 x10 y10 x11 y11 x12 y12
        go_wp2
        go_roundg (gk - 1)
        case measure => omega
        case rel => exact ⟨i + 1, by go_num, by omega, by omega, G2.out⟩
    · have hd1 : decide (i < n) = false := by simp; omega
      have hd2 : decide ((i : Int) < (n : Int)) = false := by simp; omega
      go_wp2
      go_ret
      exact ⟨rfl, HG.out⟩
end Go.Proofs.YtgnjaneddidbbaaDoor
