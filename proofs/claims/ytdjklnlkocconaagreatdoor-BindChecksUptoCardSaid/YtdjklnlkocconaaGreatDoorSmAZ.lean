/-
  deck.like and slices.EqualFunc at nodes, of two trees that are the same tree: true.
  A part out of a tree in memory.
  deck.alike and slices.EqualFunc at statements, of statements that are the same: true.
  slices.EqualFunc at statements, of statements that are the same: true.
-/
import Derived.Test.YtdjklnlkocconaaGreatDoorPaBZ
import Derived.Test.YtdjklnlkocconaaGreatDoorPaFZ
import Derived.Deep.LoopGhost
import Derived.LoopN
namespace Go.Proofs.YtdjklnlkocconaaGreatDoor
open Go Go.RowKit

def Any : Nat → Prop := fun _ => True

theorem NdIs.still {w w' : World} {n : Nd} {v : Value} (h : NdIs Any w n v) (hg : w.grownBy w' none) : NdIs Any w' n v :=
  NdIs.kept hg.size (fun g hl _ => ⟨hg.block g hl (by simp), trivial⟩) n v h
theorem NdIs.any {ok : Nat → Prop} {w : World} {n : Nd} {v : Value} (h : NdIs ok w n v) : NdIs Any w n v :=
  NdIs.kept (Nat.le_refl _) (fun _ _ _ => ⟨rfl, trivial⟩) n v h
theorem NdsIs.still {w w' : World} {l : List Nd} {g o : Nat} (h : NdsIs Any w g o l) (hl : g < w.heap.size) (hg : w.grownBy w' none) : NdsIs Any w' g o l :=
  NdsIs.kept hg.size (fun g hl _ => ⟨hg.block g hl (by simp), trivial⟩) l g o hl trivial h

/-- What like does at one tree twice. -/
def LikeC (n : Nd) : Prop := ∀ (v1 v2 : Value) (w : World), NdIs Any w n v1 → NdIs Any w n v2 →
  Calls Tryz.prog 86 #[v1, v2] w fun e w' => e = .returned (.bool true) ∧ w.grownBy w' none

theorem NdsIs.get {w : World} {g : Nat} : ∀ {l : List Nd} {o : Nat}, NdsIs Any w g o l → ∀ (k : Nat) (n : Nd), l[k]? = some n → ∃ v, At3 w g (o + k * 3) v ∧ NdIs Any w n v
  | [], _, _, k, n, hk => by simp at hk
  | x :: l, o, h, k, n, hk => by
    unfold NdsIs at h
    cases k with
    | zero =>
      obtain rfl : x = n := by simpa using hk
      obtain ⟨v, h1, h2⟩ := h.1
      exact ⟨v, by simpa using h1, h2⟩
    | succ k =>
      obtain ⟨v, h1, h2⟩ := NdsIs.get h.2 k n (by simpa using hk)
      refine ⟨v, ?_, h2⟩
      rw [show o + (k + 1) * 3 = o + 3 + k * 3 by omega]
      exact h1

theorem At3.cells3 {w : World} {g o : Nat} {k : Int} {s : ByteArray} {a : Option Addr} {m c : Nat} (h : At3 w g o (.agg #[.int .i64 k, .string s, .slice a m c])) : w.cell? ⟨g, o, none⟩ = some (.int .i64 k) ∧ w.cell? ⟨g, o + 1, none⟩ = some (.string s) ∧ w.cell? ⟨g, o + 2, none⟩ = some (.slice a m c) := by
  obtain ⟨x, y, z, he, h1, h2, h3⟩ := h
  cases he
  exact ⟨h1, h2, h3⟩

/-- The loop over two rows of nodes. -/
def EqAt (w : World) (n : Nat) (k : Nat) (u : Value) (wr : World) : Prop := ∃ i : Nat, u = .int .i64 i ∧ i ≤ n ∧ n < k + i ∧ w.grownBy wr none

set_option maxHeartbeats 2000000 in
set_option maxRecDepth 100000 in
theorem eqNodes (l : List Nd) (ih : ∀ x ∈ l, LikeC x) (g1 o1 c1 g2 o2 c2 : Nat) (w : World) (h1 : NdsIs Any w g1 o1 l) (h2 : NdsIs Any w g2 o2 l) (hl1 : g1 < w.heap.size) (hl2 : g2 < w.heap.size) (hn : l.length ≤ 9223372036854775807) :
    Calls Tryz.prog 111 #[.slice (some ⟨g1, o1, none⟩) l.length c1, .slice (some ⟨g2, o2, none⟩) l.length c2, .func (.func 86) #[] #[]] w fun e w' => e = .returned (.bool true) ∧ w.grownBy w' none := by
  have H1 := Lib.hid h1
  have H2 := Lib.hid h2
  clear h1 h2
  obtain ⟨n, hln⟩ : ∃ n, l.length = n := ⟨_, rfl⟩
  rw [hln] at hn ⊢
  have HLN := Lib.hid hln
  clear hln
  go_enter Tryz.func111, Tryz.ntmps111
  go_wp2_with fail
  go_loopg [17] (n + 1) (fun k u wr => Hid (EqAt w n k u wr))
  case atStart => exact ⟨0, rfl, Nat.zero_le _, by omega, grown_refl _ _⟩
  case round =>
    obtain ⟨i, rfl, hi, hk, hg⟩ := hrel.out
    have HG := Lib.hid hg
    clear hrel hg
    by_cases hlt : i < n
    · obtain ⟨x, hx⟩ : ∃ x, l[i]? = some x := ⟨l[i]'(by rw [HLN.out]; exact hlt), List.getElem?_eq_getElem _⟩
      have HX := Lib.hid hx
      obtain ⟨v1, a1, n1⟩ := (H1.out.still hl1 HG.out).get i x hx
      obtain ⟨v2, a2, n2⟩ := (H2.out.still hl2 HG.out).get i x hx
      obtain ⟨k1, s1, p1, m1, d1, rfl⟩ := n1.agg
      obtain ⟨k2, s2, p2, m2, d2, rfl⟩ := n2.agg
      obtain ⟨x0, x1, x2⟩ := a1.cells3
      obtain ⟨y0, y1, y2⟩ := a2.cells3
      have N1 := Lib.hid n1
      have N2 := Lib.hid n2
      clear n1 n2 a1 a2 hx
      have z0 : ∀ o, (wr.alloc o).cell? ⟨g2, o2 + i * 3, none⟩ = some (.int .i64 k2) := fun o => (Below.cell (p := ⟨g2, o2 + i * 3, none⟩) ((Below.refl wr.heap.size wr).alloc (Nat.le_refl _) o) (Nat.lt_of_lt_of_le hl2 HG.out.size)).trans y0
      have z1 : ∀ o, (wr.alloc o).cell? ⟨g2, o2 + i * 3 + 1, none⟩ = some (.string s2) := fun o => (Below.cell (p := ⟨g2, o2 + i * 3 + 1, none⟩) ((Below.refl wr.heap.size wr).alloc (Nat.le_refl _) o) (Nat.lt_of_lt_of_le hl2 HG.out.size)).trans y1
      have z2 : ∀ o, (wr.alloc o).cell? ⟨g2, o2 + i * 3 + 2, none⟩ = some (.slice p2 m2 d2) := fun o => (Below.cell (p := ⟨g2, o2 + i * 3 + 2, none⟩) ((Below.refl wr.heap.size wr).alloc (Nat.le_refl _) o) (Nat.lt_of_lt_of_le hl2 HG.out.size)).trans y2
      go_wp2_with fail
      have HA : Hid (wr.grownBy ((wr.alloc (.cells #[.int .i64 k1, .string s1, .slice p1 m1 d1] 37)).alloc (.cells #[.int .i64 k2, .string s2, .slice p2 m2 d2] 37)) none) := grown_trans (grown_alloc _ _ _) (grown_alloc _ _ _)
      refine (ih x (List.mem_of_getElem? HX.out) _ _ _ (N1.out.still HA.out) (N2.out.still HA.out)).mono ?_
      rintro e w3 ⟨rfl, hg3⟩
      have HG3 : Hid (w.grownBy w3 none) := grown_trans HG.out (grown_trans HA.out hg3)
      clear hg3 HA N1 N2 x0 x1 x2 y0 y1 y2 z0 z1 z2 HG
      go_wp2
      go_roundg (gk - 1)
      case measure => omega
      case rel => exact ⟨i + 1, by go_num, by omega, by omega, HG3.out⟩
    · go_wp2
      go_ret
      exact ⟨rfl, HG.out⟩

set_option maxHeartbeats 1000000 in
set_option maxRecDepth 100000 in
theorem eqNone (a1 a2 : Option Addr) (c1 c2 : Nat) (w : World) :
    Calls Tryz.prog 111 #[.slice a1 0 c1, .slice a2 0 c2, .func (.func 86) #[] #[]] w fun e w' => e = .returned (.bool true) ∧ w.grownBy w' none := by
  go_enter Tryz.func111, Tryz.ntmps111
  go_wp2_with fail
  refine wp_loop_rounds 1 ?_
  rw [rounds_succ]
  go_wp2
  go_ret
  exact ⟨rfl, grown_refl _ _⟩

set_option maxHeartbeats 2000000 in
set_option maxRecDepth 100000 in
theorem like_step (k : Int) (s : List UInt8) (l : List Nd) (ih : ∀ x ∈ l, LikeC x) : LikeC (.mk k s l) := by
  intro v1 v2 w h1 h2
  unfold NdIs at h1 h2
  obtain ⟨a1, c1, rfl, hl, h1⟩ := h1
  obtain ⟨a2, c2, rfl, _, h2⟩ := h2
  have HC : Hid (∀ w1, w.grownBy w1 none → Calls Tryz.prog 111 #[.slice a1 l.length c1, .slice a2 l.length c2, .func (.func 86) #[] #[]] w1 fun e w' => e = .returned (.bool true) ∧ w1.grownBy w' none) := by
    show ∀ _, _
    intro w1 hg
    rcases h1 with rfl | ⟨g1, o1, rfl, _, hl1, h1⟩
    · exact eqNone _ _ _ _ _
    · rcases h2 with rfl | ⟨g2, o2, rfl, _, hl2, h2⟩
      · exact eqNone _ _ _ _ _
      · exact eqNodes l ih g1 o1 c1 g2 o2 c2 w1 (h1.still hl1 hg) (h2.still hl2 hg) (Nat.lt_of_lt_of_le hl1 hg.size) (Nat.lt_of_lt_of_le hl2 hg.size) hl
  clear h1 h2
  have b1 := (Blk3.new w (.int .i64 k) (.string (bs s)) (.slice a1 l.length c1)).grown (grown_alloc _ (.cells #[.int .i64 k, .string (bs s), .slice a2 l.length c2] 37) none) (by simp)
  have b2 := Blk3.new_at (w.alloc (.cells #[.int .i64 k, .string (bs s), .slice a1 l.length c1] 37)) (.int .i64 k) (.string (bs s)) (.slice a2 l.length c2) (w.heap.size + 1) (by simp)
  obtain ⟨x0, x1, x2, _, _, _⟩ := b1.cells
  obtain ⟨y0, y1, y2, _, _, _⟩ := b2.cells
  have HA : Hid (w.grownBy ((w.alloc (.cells #[.int .i64 k, .string (bs s), .slice a1 l.length c1] 37)).alloc (.cells #[.int .i64 k, .string (bs s), .slice a2 l.length c2] 37)) none) := grown_trans (grown_alloc _ _ _) (grown_alloc _ _ _)
  clear b1 b2
  go_enter Tryz.func86, Tryz.ntmps86
  go_wp2_with fail
  refine (HC.out _ HA.out).mono ?_
  rintro e w3 ⟨rfl, hg⟩
  have HG : Hid (w.grownBy w3 none) := grown_trans HA.out hg
  clear hg HA HC x0 x1 x2 y0 y1 y2
  go_wp2
  go_ret
  exact ⟨rfl, HG.out⟩

theorem like_all (f : Nat) : ∀ n : Nd, SizeOf.sizeOf n ≤ f → LikeC n := by
  induction f with
  | zero => intro n h; cases n; simp at h
  | succ f ih =>
    intro n h
    cases n with
    | mk k s l =>
      refine like_step k s l fun x hx => ih x ?_
      have := List.sizeOf_lt_of_mem hx
      simp at h
      omega
theorem like_any (n : Nd) : LikeC n := like_all _ n (Nat.le_refl _)
end Go.Proofs.YtdjklnlkocconaaGreatDoor

namespace Go.Proofs.YtdjklnlkocconaaGreatDoor
open Go Go.RowKit

/-- A part out of a tree's row. -/
theorem NdIs.part {w : World} {l : List Nd} {a : Option Addr} (h : l = [] ∨ ∃ g o, a = some ⟨g, o, none⟩ ∧ Any g ∧ g < w.heap.size ∧ NdsIs Any w g o l) {i : Nat} {x : Nd} (hx : l[i]? = some x) :
    ∃ g o, a = some ⟨g, o, none⟩ ∧ ∀ w', w.grownBy w' none → ∃ (k : Int) (s : ByteArray) (p : Option Addr) (m c : Nat), (w'.cell? ⟨g, o + i * 3, none⟩ = some (.int .i64 k) ∧ w'.cell? ⟨g, o + i * 3 + 1, none⟩ = some (.string s) ∧ w'.cell? ⟨g, o + i * 3 + 2, none⟩ = some (.slice p m c)) ∧ NdIs Any w' x (.agg #[.int .i64 k, .string s, .slice p m c]) := by
  rcases h with rfl | ⟨g, o, rfl, _, hl, h⟩
  · simp at hx
  · refine ⟨g, o, rfl, fun w' hg => ?_⟩
    obtain ⟨v, h1, h2⟩ := (h.still hl hg).get i x hx
    obtain ⟨k, s, p, m, c, rfl⟩ := h2.agg
    exact ⟨k, s, p, m, c, h1.cells3, h2⟩
end Go.Proofs.YtdjklnlkocconaaGreatDoor

namespace Go.Proofs.YtdjklnlkocconaaGreatDoor
open Go Go.RowKit

set_option maxHeartbeats 2000000 in
set_option maxRecDepth 100000 in
theorem alike_any (kind : Int) (name : List UInt8) (xa xb : Nd) (rule n d k : Int) (snap : Bool) (A B C D : NV) (w : World) (ha : NdIs Any w xa A.val) (hb : NdIs Any w xb B.val) (hc : NdIs Any w xa C.val) (hd : NdIs Any w xb D.val) :
    Calls Tryz.prog 68 #[.agg #[.int .i64 kind, .string (bs name), .int .i64 A.k, .string A.s, .slice A.a A.n A.c, .int .i64 B.k, .string B.s, .slice B.a B.n B.c, .int .i64 rule, .int .i64 n, .int .i64 d, .int .i64 k, .bool snap],
      .agg #[.int .i64 kind, .string (bs name), .int .i64 C.k, .string C.s, .slice C.a C.n C.c, .int .i64 D.k, .string D.s, .slice D.a D.n D.c, .int .i64 rule, .int .i64 n, .int .i64 d, .int .i64 k, .bool snap]] w
      fun e w' => e = .returned (.bool true) ∧ w.grownBy w' none := by
  have g1 := grown_alloc w (.cells (stCells ⟨kind, name, xa, xb, rule, n, d, k, snap⟩ A B).toArray 39) none
  have g2 := grown_alloc (w.alloc (.cells (stCells ⟨kind, name, xa, xb, rule, n, d, k, snap⟩ A B).toArray 39)) (.cells (stCells ⟨kind, name, xa, xb, rule, n, d, k, snap⟩ C D).toArray 39) none
  have b1 : BlkS _ w.heap.size (stCells ⟨kind, name, xa, xb, rule, n, d, k, snap⟩ A B) := BlkS.grown (show BlkS (w.alloc (.cells (stCells ⟨kind, name, xa, xb, rule, n, d, k, snap⟩ A B).toArray 39)) w.heap.size _ from (MapKept.heap_alloc w _).1) g2 (by simp)
  have e1 : (w.alloc (.cells (stCells ⟨kind, name, xa, xb, rule, n, d, k, snap⟩ A B).toArray 39)).heap.size = w.heap.size + 1 := by simp
  have b2 : BlkS _ (w.alloc (.cells (stCells ⟨kind, name, xa, xb, rule, n, d, k, snap⟩ A B).toArray 39)).heap.size (stCells ⟨kind, name, xa, xb, rule, n, d, k, snap⟩ C D) := (MapKept.heap_alloc (w.alloc (.cells (stCells ⟨kind, name, xa, xb, rule, n, d, k, snap⟩ A B).toArray 39)) (.cells (stCells ⟨kind, name, xa, xb, rule, n, d, k, snap⟩ C D).toArray 39)).1
  rw [e1] at b2
  have HG : Hid (w.grownBy ((w.alloc (.cells #[.int .i64 kind, .string (bs name), .int .i64 A.k, .string A.s, .slice A.a A.n A.c, .int .i64 B.k, .string B.s, .slice B.a B.n B.c, .int .i64 rule, .int .i64 n, .int .i64 d, .int .i64 k, .bool snap] 39)).alloc (.cells #[.int .i64 kind, .string (bs name), .int .i64 C.k, .string C.s, .slice C.a C.n C.c, .int .i64 D.k, .string D.s, .slice D.a D.n D.c, .int .i64 rule, .int .i64 n, .int .i64 d, .int .i64 k, .bool snap] 39)) none) := grown_trans g1 g2
  have B1 : Hid (BlkS ((w.alloc (.cells #[.int .i64 kind, .string (bs name), .int .i64 A.k, .string A.s, .slice A.a A.n A.c, .int .i64 B.k, .string B.s, .slice B.a B.n B.c, .int .i64 rule, .int .i64 n, .int .i64 d, .int .i64 k, .bool snap] 39)).alloc (.cells #[.int .i64 kind, .string (bs name), .int .i64 C.k, .string C.s, .slice C.a C.n C.c, .int .i64 D.k, .string D.s, .slice D.a D.n D.c, .int .i64 rule, .int .i64 n, .int .i64 d, .int .i64 k, .bool snap] 39)) w.heap.size (stCells ⟨kind, name, xa, xb, rule, n, d, k, snap⟩ A B)) := b1
  have B2 : Hid (BlkS ((w.alloc (.cells #[.int .i64 kind, .string (bs name), .int .i64 A.k, .string A.s, .slice A.a A.n A.c, .int .i64 B.k, .string B.s, .slice B.a B.n B.c, .int .i64 rule, .int .i64 n, .int .i64 d, .int .i64 k, .bool snap] 39)).alloc (.cells #[.int .i64 kind, .string (bs name), .int .i64 C.k, .string C.s, .slice C.a C.n C.c, .int .i64 D.k, .string D.s, .slice D.a D.n D.c, .int .i64 rule, .int .i64 n, .int .i64 d, .int .i64 k, .bool snap] 39)) (w.heap.size + 1) (stCells ⟨kind, name, xa, xb, rule, n, d, k, snap⟩ C D)) := b2
  have NA := Lib.hid ha
  have NB := Lib.hid hb
  have NC := Lib.hid hc
  have ND := Lib.hid hd
  clear g1 g2 b1 b2 e1 ha hb hc hd
  have hs : ((bs name).toList == (bs name).toList) = true := by simp
  have x0 := B1.out.cell 0
  have y0 := B2.out.cell 0
  have x1 := B1.out.cell 1
  have y1 := B2.out.cell 1
  have x2 := B1.out.cell 2
  have y2 := B2.out.cell 2
  have x3 := B1.out.cell 3
  have y3 := B2.out.cell 3
  have x4 := B1.out.cell 4
  have y4 := B2.out.cell 4
  have x5 := B1.out.cell 5
  have y5 := B2.out.cell 5
  have x6 := B1.out.cell 6
  have y6 := B2.out.cell 6
  have x7 := B1.out.cell 7
  have y7 := B2.out.cell 7
  have x8 := B1.out.cell 8
  have y8 := B2.out.cell 8
  have x9 := B1.out.cell 9
  have y9 := B2.out.cell 9
  have x10 := B1.out.cell 10
  have y10 := B2.out.cell 10
  have x11 := B1.out.cell 11
  have y11 := B2.out.cell 11
  have x12 := B1.out.cell 12
  have y12 := B2.out.cell 12
  simp only [stCells, List.getElem?_cons_succ, List.getElem?_cons_zero] at x0 y0 x1 y1 x2 y2 x3 y3 x4 y4 x5 y5 x6 y6 x7 y7 x8 y8 x9 y9 x10 y10 x11 y11 x12 y12
  go_enter Tryz.func68, Tryz.ntmps68
  go_wp2_with fail
  refine (like_any xa _ _ _ (NA.out.still HG.out) (NC.out.still HG.out)).mono ?_
  rintro e w1 ⟨rfl, hg1⟩
  have G1 := Lib.hid (grown_trans HG.out hg1)
  have P1 := Lib.hid (B1.out.grown hg1 (by simp))
  have P2 := Lib.hid (B2.out.grown hg1 (by simp))
  clear x0 y0 x1 y1 x2 y2 x3 y3 x4 y4 x5 y5 x6 y6 x7 y7 x8 y8 x9 y9 x10 y10 x11 y11 x12 y12 hg1 B1 B2 HG
  have x0 := P1.out.cell 0
  have y0 := P2.out.cell 0
  have x1 := P1.out.cell 1
  have y1 := P2.out.cell 1
  have x2 := P1.out.cell 2
  have y2 := P2.out.cell 2
  have x3 := P1.out.cell 3
  have y3 := P2.out.cell 3
  have x4 := P1.out.cell 4
  have y4 := P2.out.cell 4
  have x5 := P1.out.cell 5
  have y5 := P2.out.cell 5
  have x6 := P1.out.cell 6
  have y6 := P2.out.cell 6
  have x7 := P1.out.cell 7
  have y7 := P2.out.cell 7
  have x8 := P1.out.cell 8
  have y8 := P2.out.cell 8
  have x9 := P1.out.cell 9
  have y9 := P2.out.cell 9
  have x10 := P1.out.cell 10
  have y10 := P2.out.cell 10
  have x11 := P1.out.cell 11
  have y11 := P2.out.cell 11
  have x12 := P1.out.cell 12
  have y12 := P2.out.cell 12
  simp only [stCells, List.getElem?_cons_succ, List.getElem?_cons_zero] at x0 y0 x1 y1 x2 y2 x3 y3 x4 y4 x5 y5 x6 y6 x7 y7 x8 y8 x9 y9 x10 y10 x11 y11 x12 y12
  go_wp2_with fail
  refine (like_any xb _ _ _ (NB.out.still G1.out) (ND.out.still G1.out)).mono ?_
  rintro e w2 ⟨rfl, hg2⟩
  have G2 := Lib.hid (grown_trans G1.out hg2)
  have Q1 := Lib.hid (P1.out.grown hg2 (by simp))
  have Q2 := Lib.hid (P2.out.grown hg2 (by simp))
  clear x0 y0 x1 y1 x2 y2 x3 y3 x4 y4 x5 y5 x6 y6 x7 y7 x8 y8 x9 y9 x10 y10 x11 y11 x12 y12 hg2 P1 P2 G1
  have x0 := Q1.out.cell 0
  have y0 := Q2.out.cell 0
  have x1 := Q1.out.cell 1
  have y1 := Q2.out.cell 1
  have x2 := Q1.out.cell 2
  have y2 := Q2.out.cell 2
  have x3 := Q1.out.cell 3
  have y3 := Q2.out.cell 3
  have x4 := Q1.out.cell 4
  have y4 := Q2.out.cell 4
  have x5 := Q1.out.cell 5
  have y5 := Q2.out.cell 5
  have x6 := Q1.out.cell 6
  have y6 := Q2.out.cell 6
  have x7 := Q1.out.cell 7
  have y7 := Q2.out.cell 7
  have x8 := Q1.out.cell 8
  have y8 := Q2.out.cell 8
  have x9 := Q1.out.cell 9
  have y9 := Q2.out.cell 9
  have x10 := Q1.out.cell 10
  have y10 := Q2.out.cell 10
  have x11 := Q1.out.cell 11
  have y11 := Q2.out.cell 11
  have x12 := Q1.out.cell 12
  have y12 := Q2.out.cell 12
  simp only [stCells, List.getElem?_cons_succ, List.getElem?_cons_zero] at x0 y0 x1 y1 x2 y2 x3 y3 x4 y4 x5 y5 x6 y6 x7 y7 x8 y8 x9 y9 x10 y10 x11 y11 x12 y12
  go_wp2
  go_ret
  exact ⟨rfl, G2.out⟩
end Go.Proofs.YtdjklnlkocconaaGreatDoor

namespace Go.Proofs.YtdjklnlkocconaaGreatDoor
open Go Go.RowKit

/-- A slice of statements in memory. -/
def StsIs (w : World) (v : Value) (l : List St) : Prop :=
  l.length ≤ 9223372036854775807 ∧ ∃ a cap, v = .slice a l.length cap ∧ (l = [] ∨ ∃ g o, a = some ⟨g, o, none⟩ ∧ g < w.heap.size ∧ ∃ cs, (∀ j u, cs[j]? = some u → w.cell? ⟨g, o + j, none⟩ = some u) ∧ StRow Any w l cs)

theorem StsIs.still {w w' : World} {v : Value} {l : List St} (h : StsIs w v l) (hg : w.grownBy w' none) : StsIs w' v l := by
  obtain ⟨h1, a, cap, rfl, h2⟩ := h
  refine ⟨h1, a, cap, rfl, ?_⟩
  rcases h2 with h2 | ⟨g, o, rfl, hl, cs, hc, hr⟩
  · exact .inl h2
  · exact .inr ⟨g, o, rfl, Nat.lt_of_lt_of_le hl hg.size, cs, fun j u hu => (World.cell?_of_block (a := ⟨g, o + j, none⟩) (hg.block g hl (by simp))).trans (hc j u hu), hr.kept hg.size (fun k hk _ => ⟨hg.block k hk (by simp), trivial⟩)⟩

theorem stCells_length (x : St) (A B : NV) : (stCells x A B).length = 13 := rfl
theorem StRow.get {ok : Nat → Prop} {w : World} : ∀ {l : List St} {cs : List Value}, StRow ok w l cs → ∀ (k : Nat) (x : St), l[k]? = some x → ∃ A B : NV, (∀ j, j < 13 → cs[k * 13 + j]? = (stCells x A B)[j]?) ∧ NdIs ok w x.a A.val ∧ NdIs ok w x.b B.val
  | [], _, _, k, x, hk => by simp at hk
  | y :: l, cs, h, k, x, hk => by
    obtain ⟨A, B, rest, rfl, ha, hb, hr⟩ := h
    cases k with
    | zero =>
      obtain rfl : y = x := by simpa using hk
      refine ⟨A, B, fun j hj => ?_, ha, hb⟩
      rw [Nat.zero_mul, Nat.zero_add, List.getElem?_append_left (by rw [stCells_length]; exact hj)]
    | succ k =>
      obtain ⟨A', B', h1, h2, h3⟩ := StRow.get hr k x (by simpa using hk)
      refine ⟨A', B', fun j hj => ?_, h2, h3⟩
      rw [List.getElem?_append_right (by rw [stCells_length]; omega), stCells_length, show (k + 1) * 13 + j - 13 = k * 13 + j by omega]
      exact h1 j hj

/-- A statement out of a slice of them. -/
theorem StsIs.get {w : World} {v : Value} {l : List St} (h : StsIs w v l) {k : Nat} {x : St} (hk : l[k]? = some x) : ∃ g o cap, v = .slice (some ⟨g, o, none⟩) l.length cap ∧ g < w.heap.size ∧ ∃ A B : NV, (∀ j, j < 13 → w.cell? ⟨g, o + k * 13 + j, none⟩ = (stCells x A B)[j]?) ∧ NdIs Any w x.a A.val ∧ NdIs Any w x.b B.val := by
  obtain ⟨_, a, cap, rfl, h2⟩ := h
  rcases h2 with rfl | ⟨g, o, rfl, hl, cs, hc, hr⟩
  · simp at hk
  · obtain ⟨A, B, h1, h3, h4⟩ := hr.get k x hk
    refine ⟨g, o, cap, rfl, hl, A, B, fun j hj => ?_, h3, h4⟩
    have h5 : (stCells x A B)[j]? = some ((stCells x A B)[j]'(by rw [stCells_length]; exact hj)) := List.getElem?_eq_getElem _
    rw [h5, Nat.add_assoc]
    exact hc _ _ ((h1 j hj).trans h5)

set_option maxHeartbeats 4000000 in
set_option maxRecDepth 100000 in
theorem eqStmts (l : List St) (v1 v2 : Value) (w : World) (h1 : StsIs w v1 l) (h2 : StsIs w v2 l) :
    Calls Tryz.prog 67 #[v1, v2, .func (.func 68) #[] #[]] w fun e w' => e = .returned (.bool true) ∧ w.grownBy w' none := by
  have H1 := Lib.hid h1
  have H2 := Lib.hid h2
  obtain ⟨hn, a1, c1, rfl, _⟩ := h1
  obtain ⟨_, a2, c2, rfl, _⟩ := h2
  obtain ⟨n, hln⟩ : ∃ n, l.length = n := ⟨_, rfl⟩
  rw [hln] at hn H1 H2 ⊢
  have HLN := Lib.hid hln
  clear hln
  go_enter Tryz.func67, Tryz.ntmps67
  go_wp2_with fail
  go_loopg [17] (n + 1) (fun k u wr => Hid (EqAt w n k u wr))
  case atStart => exact ⟨0, rfl, Nat.zero_le _, by omega, grown_refl _ _⟩
  case round =>
    obtain ⟨i, rfl, hi, hk, hg⟩ := hrel.out
    have HG := Lib.hid hg
    clear hrel hg
    by_cases hlt : i < n
    · obtain ⟨x, hx⟩ : ∃ x, l[i]? = some x := ⟨l[i]'(by rw [HLN.out]; exact hlt), List.getElem?_eq_getElem _⟩
      obtain ⟨g1, o1, cap1, e1, hl1, A, B, q1, na, nb⟩ := (H1.out.still HG.out).get hx
      obtain ⟨g2, o2, cap2, e2, hl2, C, D, q2, nc, nd⟩ := (H2.out.still HG.out).get hx
      cases e1
      cases e2
      obtain ⟨kind, name, xa, xb, rule, N, d, K, snap⟩ := x
      have x0 := q1 0 (by decide)
      have y0 := fun o => (Below.cell (p := ⟨g2, o2 + i * 13 + 0, none⟩) ((Below.refl wr.heap.size wr).alloc (Nat.le_refl _) o) hl2).trans (q2 0 (by decide))
      have x1 := q1 1 (by decide)
      have y1 := fun o => (Below.cell (p := ⟨g2, o2 + i * 13 + 1, none⟩) ((Below.refl wr.heap.size wr).alloc (Nat.le_refl _) o) hl2).trans (q2 1 (by decide))
      have x2 := q1 2 (by decide)
      have y2 := fun o => (Below.cell (p := ⟨g2, o2 + i * 13 + 2, none⟩) ((Below.refl wr.heap.size wr).alloc (Nat.le_refl _) o) hl2).trans (q2 2 (by decide))
      have x3 := q1 3 (by decide)
      have y3 := fun o => (Below.cell (p := ⟨g2, o2 + i * 13 + 3, none⟩) ((Below.refl wr.heap.size wr).alloc (Nat.le_refl _) o) hl2).trans (q2 3 (by decide))
      have x4 := q1 4 (by decide)
      have y4 := fun o => (Below.cell (p := ⟨g2, o2 + i * 13 + 4, none⟩) ((Below.refl wr.heap.size wr).alloc (Nat.le_refl _) o) hl2).trans (q2 4 (by decide))
      have x5 := q1 5 (by decide)
      have y5 := fun o => (Below.cell (p := ⟨g2, o2 + i * 13 + 5, none⟩) ((Below.refl wr.heap.size wr).alloc (Nat.le_refl _) o) hl2).trans (q2 5 (by decide))
      have x6 := q1 6 (by decide)
      have y6 := fun o => (Below.cell (p := ⟨g2, o2 + i * 13 + 6, none⟩) ((Below.refl wr.heap.size wr).alloc (Nat.le_refl _) o) hl2).trans (q2 6 (by decide))
      have x7 := q1 7 (by decide)
      have y7 := fun o => (Below.cell (p := ⟨g2, o2 + i * 13 + 7, none⟩) ((Below.refl wr.heap.size wr).alloc (Nat.le_refl _) o) hl2).trans (q2 7 (by decide))
      have x8 := q1 8 (by decide)
      have y8 := fun o => (Below.cell (p := ⟨g2, o2 + i * 13 + 8, none⟩) ((Below.refl wr.heap.size wr).alloc (Nat.le_refl _) o) hl2).trans (q2 8 (by decide))
      have x9 := q1 9 (by decide)
      have y9 := fun o => (Below.cell (p := ⟨g2, o2 + i * 13 + 9, none⟩) ((Below.refl wr.heap.size wr).alloc (Nat.le_refl _) o) hl2).trans (q2 9 (by decide))
      have x10 := q1 10 (by decide)
      have y10 := fun o => (Below.cell (p := ⟨g2, o2 + i * 13 + 10, none⟩) ((Below.refl wr.heap.size wr).alloc (Nat.le_refl _) o) hl2).trans (q2 10 (by decide))
      have x11 := q1 11 (by decide)
      have y11 := fun o => (Below.cell (p := ⟨g2, o2 + i * 13 + 11, none⟩) ((Below.refl wr.heap.size wr).alloc (Nat.le_refl _) o) hl2).trans (q2 11 (by decide))
      have x12 := q1 12 (by decide)
      have y12 := fun o => (Below.cell (p := ⟨g2, o2 + i * 13 + 12, none⟩) ((Below.refl wr.heap.size wr).alloc (Nat.le_refl _) o) hl2).trans (q2 12 (by decide))
      simp only [stCells, List.getElem?_cons_succ, List.getElem?_cons_zero, Nat.add_zero] at x0 y0 x1 y1 x2 y2 x3 y3 x4 y4 x5 y5 x6 y6 x7 y7 x8 y8 x9 y9 x10 y10 x11 y11 x12 y12
      have NA := Lib.hid na
      have NB := Lib.hid nb
      have NC := Lib.hid nc
      have ND := Lib.hid nd
      clear na nb nc nd q1 q2 hx
      go_wp2_with fail
      have HA : Hid (wr.grownBy ((wr.alloc (.cells #[.int .i64 kind, .string (bs name), .int .i64 A.k, .string A.s, .slice A.a A.n A.c, .int .i64 B.k, .string B.s, .slice B.a B.n B.c, .int .i64 rule, .int .i64 N, .int .i64 d, .int .i64 K, .bool snap] 39)).alloc (.cells #[.int .i64 kind, .string (bs name), .int .i64 C.k, .string C.s, .slice C.a C.n C.c, .int .i64 D.k, .string D.s, .slice D.a D.n D.c, .int .i64 rule, .int .i64 N, .int .i64 d, .int .i64 K, .bool snap] 39)) none) := grown_trans (grown_alloc _ _ _) (grown_alloc _ _ _)
      refine (alike_any kind name xa xb rule N d K snap A B C D _ (NA.out.still HA.out) (NB.out.still HA.out) (NC.out.still HA.out) (ND.out.still HA.out)).mono ?_
      rintro e w3 ⟨rfl, hg3⟩
      have HG3 : Hid (w.grownBy w3 none) := grown_trans HG.out (grown_trans HA.out hg3)
      clear hg3 HA NA NB NC ND HG x0 y0 x1 y1 x2 y2 x3 y3 x4 y4 x5 y5 x6 y6 x7 y7 x8 y8 x9 y9 x10 y10 x11 y11 x12 y12
      go_wp2
      go_roundg (gk - 1)
      case measure => omega
      case rel => exact ⟨i + 1, by go_num, by omega, by omega, HG3.out⟩
    · go_wp2
      go_ret
      exact ⟨rfl, HG.out⟩
end Go.Proofs.YtdjklnlkocconaaGreatDoor
