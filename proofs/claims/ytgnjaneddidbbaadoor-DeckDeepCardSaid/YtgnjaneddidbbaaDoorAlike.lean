/-
  deck.alike and slices.EqualFunc at statements, of statements that are the same: true.
-/
import Derived.Test.YtgnjaneddidbbaaDoorLike
import Derived.Test.YtgnjaneddidbbaaDoorDeckX0
namespace Go.Proofs.YtgnjaneddidbbaaDoor
open Go Go.RowKit

set_option maxHeartbeats 2000000 in
set_option maxRecDepth 100000 in
theorem alike_any (kind : Int) (name : List UInt8) (xa xb : Nd) (rule n d k : Int) (snap : Bool) (A B C D : NV) (w : World) (ha : NdIs Any w xa A.val) (hb : NdIs Any w xb B.val) (hc : NdIs Any w xa C.val) (hd : NdIs Any w xb D.val) :
    Calls Tryd.prog 38 #[.agg #[.int .i64 kind, .string (bs name), .int .i64 A.k, .string A.s, .slice A.a A.n A.c, .int .i64 B.k, .string B.s, .slice B.a B.n B.c, .int .i64 rule, .int .i64 n, .int .i64 d, .int .i64 k, .bool snap],
      .agg #[.int .i64 kind, .string (bs name), .int .i64 C.k, .string C.s, .slice C.a C.n C.c, .int .i64 D.k, .string D.s, .slice D.a D.n D.c, .int .i64 rule, .int .i64 n, .int .i64 d, .int .i64 k, .bool snap]] w
      fun e w' => e = .returned (.bool true) ∧ w.grownBy w' none := by
  have g1 := grown_alloc w (.cells (stCells ⟨kind, name, xa, xb, rule, n, d, k, snap⟩ A B).toArray 73) none
  have g2 := grown_alloc (w.alloc (.cells (stCells ⟨kind, name, xa, xb, rule, n, d, k, snap⟩ A B).toArray 73)) (.cells (stCells ⟨kind, name, xa, xb, rule, n, d, k, snap⟩ C D).toArray 73) none
  have b1 : BlkS _ w.heap.size (stCells ⟨kind, name, xa, xb, rule, n, d, k, snap⟩ A B) := BlkS.grown (show BlkS (w.alloc (.cells (stCells ⟨kind, name, xa, xb, rule, n, d, k, snap⟩ A B).toArray 73)) w.heap.size _ from (MapKept.heap_alloc w _).1) g2 (by simp)
  have e1 : (w.alloc (.cells (stCells ⟨kind, name, xa, xb, rule, n, d, k, snap⟩ A B).toArray 73)).heap.size = w.heap.size + 1 := by simp
  have b2 : BlkS _ (w.alloc (.cells (stCells ⟨kind, name, xa, xb, rule, n, d, k, snap⟩ A B).toArray 73)).heap.size (stCells ⟨kind, name, xa, xb, rule, n, d, k, snap⟩ C D) := (MapKept.heap_alloc (w.alloc (.cells (stCells ⟨kind, name, xa, xb, rule, n, d, k, snap⟩ A B).toArray 73)) (.cells (stCells ⟨kind, name, xa, xb, rule, n, d, k, snap⟩ C D).toArray 73)).1
  rw [e1] at b2
  have HG : Hid (w.grownBy ((w.alloc (.cells #[.int .i64 kind, .string (bs name), .int .i64 A.k, .string A.s, .slice A.a A.n A.c, .int .i64 B.k, .string B.s, .slice B.a B.n B.c, .int .i64 rule, .int .i64 n, .int .i64 d, .int .i64 k, .bool snap] 73)).alloc (.cells #[.int .i64 kind, .string (bs name), .int .i64 C.k, .string C.s, .slice C.a C.n C.c, .int .i64 D.k, .string D.s, .slice D.a D.n D.c, .int .i64 rule, .int .i64 n, .int .i64 d, .int .i64 k, .bool snap] 73)) none) := grown_trans g1 g2
  have B1 : Hid (BlkS ((w.alloc (.cells #[.int .i64 kind, .string (bs name), .int .i64 A.k, .string A.s, .slice A.a A.n A.c, .int .i64 B.k, .string B.s, .slice B.a B.n B.c, .int .i64 rule, .int .i64 n, .int .i64 d, .int .i64 k, .bool snap] 73)).alloc (.cells #[.int .i64 kind, .string (bs name), .int .i64 C.k, .string C.s, .slice C.a C.n C.c, .int .i64 D.k, .string D.s, .slice D.a D.n D.c, .int .i64 rule, .int .i64 n, .int .i64 d, .int .i64 k, .bool snap] 73)) w.heap.size (stCells ⟨kind, name, xa, xb, rule, n, d, k, snap⟩ A B)) := b1
  have B2 : Hid (BlkS ((w.alloc (.cells #[.int .i64 kind, .string (bs name), .int .i64 A.k, .string A.s, .slice A.a A.n A.c, .int .i64 B.k, .string B.s, .slice B.a B.n B.c, .int .i64 rule, .int .i64 n, .int .i64 d, .int .i64 k, .bool snap] 73)).alloc (.cells #[.int .i64 kind, .string (bs name), .int .i64 C.k, .string C.s, .slice C.a C.n C.c, .int .i64 D.k, .string D.s, .slice D.a D.n D.c, .int .i64 rule, .int .i64 n, .int .i64 d, .int .i64 k, .bool snap] 73)) (w.heap.size + 1) (stCells ⟨kind, name, xa, xb, rule, n, d, k, snap⟩ C D)) := b2
  have NA := Lib.hid ha
  have NB := Lib.hid hb
  have NC := Lib.hid hc
  have ND := Lib.hid hd
  clear g1 g2 b1 b2 e1 ha hb hc hd
  have hs : ((bs name).toList == (bs name).toList) = true := by simp
  have x0 := B1.out.cell 0
  have y0 := B2.out.cell 0
  have x1 := B1.out.cell 1
  have y1 := B2.out.cell 1
  have x2 := B1.out.cell 2
  have y2 := B2.out.cell 2
  have x3 := B1.out.cell 3
  have y3 := B2.out.cell 3
  have x4 := B1.out.cell 4
  have y4 := B2.out.cell 4
  have x5 := B1.out.cell 5
  have y5 := B2.out.cell 5
  have x6 := B1.out.cell 6
  have y6 := B2.out.cell 6
  have x7 := B1.out.cell 7
  have y7 := B2.out.cell 7
  have x8 := B1.out.cell 8
  have y8 := B2.out.cell 8
  have x9 := B1.out.cell 9
  have y9 := B2.out.cell 9
  have x10 := B1.out.cell 10
  have y10 := B2.out.cell 10
  have x11 := B1.out.cell 11
  have y11 := B2.out.cell 11
  have x12 := B1.out.cell 12
  have y12 := B2.out.cell 12
  simp only [stCells, List.getElem?_cons_succ, List.getElem?_cons_zero] at x0 y0 x1 y1 x2 y2 x3 y3 x4 y4 x5 y5 x6 y6 x7 y7 x8 y8 x9 y9 x10 y10 x11 y11 x12 y12
  go_enter Tryd.func38, Tryd.ntmps38
  go_wp2_with fail
  refine (like_any xa _ _ _ (NA.out.still HG.out) (NC.out.still HG.out)).mono ?_
  rintro e w1 ⟨rfl, hg1⟩
  have G1 := Lib.hid (grown_trans HG.out hg1)
  have P1 := Lib.hid (B1.out.grown hg1 (by simp))
  have P2 := Lib.hid (B2.out.grown hg1 (by simp))
  clear x0 y0 x1 y1 x2 y2 x3 y3 x4 y4 x5 y5 x6 y6 x7 y7 x8 y8 x9 y9 x10 y10 x11 y11 x12 y12 hg1 B1 B2 HG
  have x0 := P1.out.cell 0
  have y0 := P2.out.cell 0
  have x1 := P1.out.cell 1
  have y1 := P2.out.cell 1
  have x2 := P1.out.cell 2
  have y2 := P2.out.cell 2
  have x3 := P1.out.cell 3
  have y3 := P2.out.cell 3
  have x4 := P1.out.cell 4
  have y4 := P2.out.cell 4
  have x5 := P1.out.cell 5
  have y5 := P2.out.cell 5
  have x6 := P1.out.cell 6
  have y6 := P2.out.cell 6
  have x7 := P1.out.cell 7
  have y7 := P2.out.cell 7
  have x8 := P1.out.cell 8
  have y8 := P2.out.cell 8
  have x9 := P1.out.cell 9
  have y9 := P2.out.cell 9
  have x10 := P1.out.cell 10
  have y10 := P2.out.cell 10
  have x11 := P1.out.cell 11
  have y11 := P2.out.cell 11
  have x12 := P1.out.cell 12
  have y12 := P2.out.cell 12
  simp only [stCells, List.getElem?_cons_succ, List.getElem?_cons_zero] at x0 y0 x1 y1 x2 y2 x3 y3 x4 y4 x5 y5 x6 y6 x7 y7 x8 y8 x9 y9 x10 y10 x11 y11 x12 y12
  go_wp2_with fail
  refine (like_any xb _ _ _ (NB.out.still G1.out) (ND.out.still G1.out)).mono ?_
  rintro e w2 ⟨rfl, hg2⟩
  have G2 := Lib.hid (grown_trans G1.out hg2)
  have Q1 := Lib.hid (P1.out.grown hg2 (by simp))
  have Q2 := Lib.hid (P2.out.grown hg2 (by simp))
  clear x0 y0 x1 y1 x2 y2 x3 y3 x4 y4 x5 y5 x6 y6 x7 y7 x8 y8 x9 y9 x10 y10 x11 y11 x12 y12 hg2 P1 P2 G1
  have x0 := Q1.out.cell 0
  have y0 := Q2.out.cell 0
  have x1 := Q1.out.cell 1
  have y1 := Q2.out.cell 1
  have x2 := Q1.out.cell 2
  have y2 := Q2.out.cell 2
  have x3 := Q1.out.cell 3
  have y3 := Q2.out.cell 3
  have x4 := Q1.out.cell 4
  have y4 := Q2.out.cell 4
  have x5 := Q1.out.cell 5
  have y5 := Q2.out.cell 5
  have x6 := Q1.out.cell 6
  have y6 := Q2.out.cell 6
  have x7 := Q1.out.cell 7
  have y7 := Q2.out.cell 7
  have x8 := Q1.out.cell 8
  have y8 := Q2.out.cell 8
  have x9 := Q1.out.cell 9
  have y9 := Q2.out.cell 9
  have x10 := Q1.out.cell 10
  have y10 := Q2.out.cell 10
  have x11 := Q1.out.cell 11
  have y11 := Q2.out.cell 11
  have x12 := Q1.out.cell 12
  have y12 := Q2.out.cell 12
  simp only [stCells, List.getElem?_cons_succ, List.getElem?_cons_zero] at x0 y0 x1 y1 x2 y2 x3 y3 x4 y4 x5 y5 x6 y6 x7 y7 x8 y8 x9 y9 x10 y10 x11 y11 x12 y12
  go_wp2
  go_ret
  exact ⟨rfl, G2.out⟩
end Go.Proofs.YtgnjaneddidbbaaDoor
