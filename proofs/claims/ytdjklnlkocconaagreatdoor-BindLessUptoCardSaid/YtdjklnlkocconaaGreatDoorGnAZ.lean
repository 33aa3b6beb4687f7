/-
  deck.like and slices.EqualFunc at nodes, of any two trees: are they the same?
  deck.alike at any two statements: are they the same?
-/
import Derived.Test.YtdjklnlkocconaaGreatDoorSmAZ
import Derived.Test.YtdjklnlkocconaaGreatDoorPlainZ
namespace Go.Proofs.YtdjklnlkocconaaGreatDoor
open Go Go.RowKit

/-- What like does at two trees. -/
def LikeG (n : Nd) : Prop := ∀ (m : Nd) (v1 v2 : Value) (w : World), NdIs Any w n v1 → NdIs Any w m v2 →
  Calls Tryz.prog 86 #[v1, v2] w fun e w' => e = .returned (.bool (Nd.same n m)) ∧ w.grownBy w' none

/-- The loop over two rows of nodes, the same so far. -/
def EqG (w : World) (l m : List Nd) (R : Bool) (n : Nat) (k : Nat) (u : Value) (wr : World) : Prop := ∃ i : Nat, u = .int .i64 i ∧ i ≤ n ∧ n < k + i ∧ w.grownBy wr none ∧ Nd.sames (l.drop i) (m.drop i) = R

theorem getElem_drop {α : Type} {l : List α} {i : Nat} {x : α} (h : l[i]? = some x) : l.drop i = x :: l.drop (i + 1) := by
  obtain ⟨hi, e⟩ := List.getElem?_eq_some_iff.1 h
  rw [List.drop_eq_getElem_cons hi, e]

theorem eq_bytes {s t : List UInt8} {b : Bool} (h : (s == t) = b) : ((bs s).toList == (bs t).toList) = b := by rw [bs_toList, bs_toList]; exact h

set_option maxHeartbeats 2000000 in
set_option maxRecDepth 100000 in
theorem eqNodesG (l m : List Nd) (ih : ∀ x ∈ l, LikeG x) (g1 o1 c1 g2 o2 c2 : Nat) (w : World) (h1 : NdsIs Any w g1 o1 l) (h2 : NdsIs Any w g2 o2 m) (hl1 : g1 < w.heap.size) (hl2 : g2 < w.heap.size) (hn : l.length ≤ 9223372036854775807) (hlm : l.length = m.length) :
    Calls Tryz.prog 111 #[.slice (some ⟨g1, o1, none⟩) l.length c1, .slice (some ⟨g2, o2, none⟩) m.length c2, .func (.func 86) #[] #[]] w fun e w' => e = .returned (.bool (Nd.sames l m)) ∧ w.grownBy w' none := by
  have H1 := Lib.hid h1
  have H2 := Lib.hid h2
  clear h1 h2
  obtain ⟨n, hln⟩ : ∃ n, l.length = n := ⟨_, rfl⟩
  rw [← hlm]
  rw [hln] at hn hlm ⊢
  have HLN : Hid (l.length = n ∧ m.length = n) := ⟨hln, hlm.symm⟩
  clear hln hlm
  obtain ⟨R, hR⟩ : ∃ R, Nd.sames l m = R := ⟨_, rfl⟩
  have HA0 : Hid (EqG w l m R n (n + 1) (.int .i64 0) w) := ⟨0, rfl, Nat.zero_le _, by omega, grown_refl _ _, hR⟩
  rw [hR]
  clear hR
  go_enter Tryz.func111, Tryz.ntmps111
  go_wp2_with fail
  go_loopg [17] (n + 1) (fun k u wr => Hid (EqG w l m R n k u wr))
  case atStart => exact HA0
  case round =>
    obtain ⟨i, rfl, hi, hk, hg, hs⟩ := hrel.out
    have HG := Lib.hid hg
    have HS := Lib.hid hs
    clear hrel hg hs
    by_cases hlt : i < n
    · obtain ⟨x, hx⟩ : ∃ x, l[i]? = some x := ⟨l[i]'(by rw [HLN.out.1]; exact hlt), List.getElem?_eq_getElem _⟩
      obtain ⟨y, hy⟩ : ∃ y, m[i]? = some y := ⟨m[i]'(by rw [HLN.out.2]; exact hlt), List.getElem?_eq_getElem _⟩
      have HX := Lib.hid hx
      obtain ⟨v1, a1, n1⟩ := (H1.out.still hl1 HG.out).get i x hx
      obtain ⟨v2, a2, n2⟩ := (H2.out.still hl2 HG.out).get i y hy
      obtain ⟨k1, s1, p1, m1, d1, rfl⟩ := n1.agg
      obtain ⟨k2, s2, p2, m2, d2, rfl⟩ := n2.agg
      obtain ⟨x0, x1, x2⟩ := a1.cells3
      obtain ⟨y0, y1, y2⟩ := a2.cells3
      have N1 := Lib.hid n1
      have N2 := Lib.hid n2
      obtain ⟨b, hb⟩ : ∃ b, Nd.same x y = b := ⟨_, rfl⟩
      have HB := Lib.hid hb
      have hs2 := HS.out
      rw [getElem_drop hx, getElem_drop hy, Nd.sames, hb] at hs2
      have HS2 := Lib.hid hs2
      clear n1 n2 a1 a2 hx hy hs2 HS hb
      have z0 : ∀ o, (wr.alloc o).cell? ⟨g2, o2 + i * 3, none⟩ = some (.int .i64 k2) := fun o => (Below.cell (p := ⟨g2, o2 + i * 3, none⟩) ((Below.refl wr.heap.size wr).alloc (Nat.le_refl _) o) (Nat.lt_of_lt_of_le hl2 HG.out.size)).trans y0
      have z1 : ∀ o, (wr.alloc o).cell? ⟨g2, o2 + i * 3 + 1, none⟩ = some (.string s2) := fun o => (Below.cell (p := ⟨g2, o2 + i * 3 + 1, none⟩) ((Below.refl wr.heap.size wr).alloc (Nat.le_refl _) o) (Nat.lt_of_lt_of_le hl2 HG.out.size)).trans y1
      have z2 : ∀ o, (wr.alloc o).cell? ⟨g2, o2 + i * 3 + 2, none⟩ = some (.slice p2 m2 d2) := fun o => (Below.cell (p := ⟨g2, o2 + i * 3 + 2, none⟩) ((Below.refl wr.heap.size wr).alloc (Nat.le_refl _) o) (Nat.lt_of_lt_of_le hl2 HG.out.size)).trans y2
      go_wp2_with fail
      have HA : Hid (wr.grownBy ((wr.alloc (.cells #[.int .i64 k1, .string s1, .slice p1 m1 d1] 37)).alloc (.cells #[.int .i64 k2, .string s2, .slice p2 m2 d2] 37)) none) := grown_trans (grown_alloc _ _ _) (grown_alloc _ _ _)
      refine (ih x (List.mem_of_getElem? HX.out) y _ _ _ (N1.out.still HA.out) (N2.out.still HA.out)).mono ?_
      rintro e w3 ⟨he, hg3⟩
      rw [HB.out] at he
      subst he
      have HG3 : Hid (w.grownBy w3 none) := grown_trans HG.out (grown_trans HA.out hg3)
      clear hg3 HA N1 N2 x0 x1 x2 y0 y1 y2 z0 z1 z2 HG HB
      cases b with
      | true =>
        have HS3 : Hid (Nd.sames (l.drop (i + 1)) (m.drop (i + 1)) = R) := by have h := HS2.out; rw [Bool.true_and] at h; exact h
        clear HS2
        go_wp2
        go_roundg (gk - 1)
        case measure => omega
        case rel => exact ⟨i + 1, by go_num, by omega, by omega, HG3.out, HS3.out⟩
      | false =>
        obtain rfl : R = false := by have h := HS2.out; rw [Bool.false_and] at h; exact h.symm
        clear HS2
        go_wp2
        go_ret
        exact ⟨rfl, HG3.out⟩
    · have hin : i = n := by omega
      subst hin
      obtain rfl : R = true := by
        have h := HS.out
        rw [List.drop_eq_nil_of_le (by rw [HLN.out.1]; exact Nat.le_refl _), List.drop_eq_nil_of_le (by rw [HLN.out.2]; exact Nat.le_refl _), Nd.sames] at h
        exact h.symm
      clear HS
      go_wp2
      go_ret
      exact ⟨rfl, HG.out⟩

set_option maxHeartbeats 1000000 in
set_option maxRecDepth 100000 in
theorem eqLen (a1 a2 : Option Addr) (n1 n2 c1 c2 : Nat) (w : World) (h : n1 ≠ n2) :
    Calls Tryz.prog 111 #[.slice a1 n1 c1, .slice a2 n2 c2, .func (.func 86) #[] #[]] w fun e w' => e = .returned (.bool false) ∧ w.grownBy w' none := by
  have hd : ((n1 : Int) != (n2 : Int)) = true := by simp; omega
  clear h
  go_enter Tryz.func111, Tryz.ntmps111
  go_wp2
  go_ret
  exact ⟨rfl, grown_refl _ _⟩

theorem sames_len : ∀ (l m : List Nd), Nd.sames l m = true → l.length = m.length
  | [], [], _ => rfl
  | [], _ :: _, h => by simp [Nd.sames] at h
  | _ :: _, [], h => by simp [Nd.sames] at h
  | a :: l, b :: m, h => by
    simp only [Nd.sames, Bool.and_eq_true] at h
    rw [List.length_cons, List.length_cons, sames_len l m h.2]

set_option maxHeartbeats 2000000 in
set_option maxRecDepth 100000 in
theorem like_stepG (k : Int) (s : List UInt8) (l : List Nd) (ih : ∀ x ∈ l, LikeG x) : LikeG (.mk k s l) := by
  intro n v1 v2 w h1 h2
  obtain ⟨k', s', m⟩ := n
  unfold NdIs at h1 h2
  obtain ⟨a1, c1, rfl, hl, h1⟩ := h1
  obtain ⟨a2, c2, rfl, _, h2⟩ := h2
  have HC : Hid (∀ w1, w.grownBy w1 none → Calls Tryz.prog 111 #[.slice a1 l.length c1, .slice a2 m.length c2, .func (.func 86) #[] #[]] w1 fun e w' => e = .returned (.bool (Nd.sames l m)) ∧ w1.grownBy w' none) := by
    show ∀ _, _
    intro w1 hg
    by_cases hlm : l.length = m.length
    · rcases h1 with rfl | ⟨g1, o1, rfl, _, hl1, h1⟩
      · obtain rfl : m = [] := List.length_eq_zero_iff.1 hlm.symm
        exact eqNone _ _ _ _ _
      · rcases h2 with rfl | ⟨g2, o2, rfl, _, hl2, h2⟩
        · obtain rfl : l = [] := List.length_eq_zero_iff.1 hlm
          exact eqNone _ _ _ _ _
        · exact eqNodesG l m ih g1 o1 c1 g2 o2 c2 w1 (h1.still hl1 hg) (h2.still hl2 hg) (Nat.lt_of_lt_of_le hl1 hg.size) (Nat.lt_of_lt_of_le hl2 hg.size) hl hlm
    · have : Nd.sames l m = false := by
        cases h : Nd.sames l m with
        | false => rfl
        | true => exact absurd (sames_len l m h) hlm
      rw [this]
      exact eqLen _ _ _ _ _ _ _ hlm
  clear h1 h2
  have b1 := (Blk3.new w (.int .i64 k) (.string (bs s)) (.slice a1 l.length c1)).grown (grown_alloc _ (.cells #[.int .i64 k', .string (bs s'), .slice a2 m.length c2] 37) none) (by simp)
  have b2 := Blk3.new_at (w.alloc (.cells #[.int .i64 k, .string (bs s), .slice a1 l.length c1] 37)) (.int .i64 k') (.string (bs s')) (.slice a2 m.length c2) (w.heap.size + 1) (by simp)
  obtain ⟨x0, x1, x2, _, _, _⟩ := b1.cells
  obtain ⟨y0, y1, y2, _, _, _⟩ := b2.cells
  have HA : Hid (w.grownBy ((w.alloc (.cells #[.int .i64 k, .string (bs s), .slice a1 l.length c1] 37)).alloc (.cells #[.int .i64 k', .string (bs s'), .slice a2 m.length c2] 37)) none) := grown_trans (grown_alloc _ _ _) (grown_alloc _ _ _)
  clear b1 b2 hl
  rw [Nd.same]
  by_cases hk : k = k'
  · subst hk
    rw [show (k == k) = true by simp, Bool.true_and]
    cases hs : (s == s') with
    | true =>
      have hs2 := eq_bytes hs
      rw [Bool.true_and]
      clear hs
      go_enter Tryz.func86, Tryz.ntmps86
      go_wp2_with fail
      refine (HC.out _ HA.out).mono ?_
      rintro e w3 ⟨rfl, hg⟩
      have HG : Hid (w.grownBy w3 none) := grown_trans HA.out hg
      clear hg HA HC x0 x1 x2 y0 y1 y2
      go_wp2
      go_ret
      exact ⟨rfl, HG.out⟩
    | false =>
      have hs2 := eq_bytes hs
      rw [Bool.false_and]
      clear hs HC
      go_enter Tryz.func86, Tryz.ntmps86
      go_wp2
      go_ret
      exact ⟨rfl, HA.out⟩
  · have hk2 : (k == k') = false := by simpa using hk
    rw [hk2, Bool.false_and]
    clear HC hk
    go_enter Tryz.func86, Tryz.ntmps86
    go_wp2
    go_ret
    exact ⟨rfl, HA.out⟩

theorem like_allG (f : Nat) : ∀ n : Nd, SizeOf.sizeOf n ≤ f → LikeG n := by
  induction f with
  | zero => intro n h; cases n; simp at h
  | succ f ih =>
    intro n h
    cases n with
    | mk k s l =>
      refine like_stepG k s l fun x hx => ih x ?_
      have := List.sizeOf_lt_of_mem hx
      simp at h
      omega
theorem likeG (n : Nd) : LikeG n := like_allG _ n (Nat.le_refl _)
end Go.Proofs.YtdjklnlkocconaaGreatDoor

namespace Go.Proofs.YtdjklnlkocconaaGreatDoor
open Go Go.RowKit

set_option maxHeartbeats 4000000 in
set_option maxRecDepth 100000 in
theorem alikeG (kind kind' : Int) (name name' : List UInt8) (xa xb xc xd : Nd) (rule n d k rule' n' d' k' : Int) (snap snap' : Bool) (A B C D : NV) (w : World) (ha : NdIs Any w xa A.val) (hb : NdIs Any w xb B.val) (hc : NdIs Any w xc C.val) (hd : NdIs Any w xd D.val) :
    Calls Tryz.prog 68 #[.agg #[.int .i64 kind, .string (bs name), .int .i64 A.k, .string A.s, .slice A.a A.n A.c, .int .i64 B.k, .string B.s, .slice B.a B.n B.c, .int .i64 rule, .int .i64 n, .int .i64 d, .int .i64 k, .bool snap],
      .agg #[.int .i64 kind', .string (bs name'), .int .i64 C.k, .string C.s, .slice C.a C.n C.c, .int .i64 D.k, .string D.s, .slice D.a D.n D.c, .int .i64 rule', .int .i64 n', .int .i64 d', .int .i64 k', .bool snap']] w
      fun e w' => e = .returned (.bool (St.same ⟨kind, name, xa, xb, rule, n, d, k, snap⟩ ⟨kind', name', xc, xd, rule', n', d', k', snap'⟩)) ∧ w.grownBy w' none := by
  have g1 := grown_alloc w (.cells (stCells ⟨kind, name, xa, xb, rule, n, d, k, snap⟩ A B).toArray 39) none
  have g2 := grown_alloc (w.alloc (.cells (stCells ⟨kind, name, xa, xb, rule, n, d, k, snap⟩ A B).toArray 39)) (.cells (stCells ⟨kind', name', xc, xd, rule', n', d', k', snap'⟩ C D).toArray 39) none
  have b1 : BlkS _ w.heap.size (stCells ⟨kind, name, xa, xb, rule, n, d, k, snap⟩ A B) := BlkS.grown (show BlkS (w.alloc (.cells (stCells ⟨kind, name, xa, xb, rule, n, d, k, snap⟩ A B).toArray 39)) w.heap.size _ from (MapKept.heap_alloc w _).1) g2 (by simp)
  have e1 : (w.alloc (.cells (stCells ⟨kind, name, xa, xb, rule, n, d, k, snap⟩ A B).toArray 39)).heap.size = w.heap.size + 1 := by simp
  have b2 : BlkS _ (w.alloc (.cells (stCells ⟨kind, name, xa, xb, rule, n, d, k, snap⟩ A B).toArray 39)).heap.size (stCells ⟨kind', name', xc, xd, rule', n', d', k', snap'⟩ C D) := (MapKept.heap_alloc (w.alloc (.cells (stCells ⟨kind, name, xa, xb, rule, n, d, k, snap⟩ A B).toArray 39)) (.cells (stCells ⟨kind', name', xc, xd, rule', n', d', k', snap'⟩ C D).toArray 39)).1
  rw [e1] at b2
  have HG : Hid (w.grownBy ((w.alloc (.cells #[.int .i64 kind, .string (bs name), .int .i64 A.k, .string A.s, .slice A.a A.n A.c, .int .i64 B.k, .string B.s, .slice B.a B.n B.c, .int .i64 rule, .int .i64 n, .int .i64 d, .int .i64 k, .bool snap] 39)).alloc (.cells #[.int .i64 kind', .string (bs name'), .int .i64 C.k, .string C.s, .slice C.a C.n C.c, .int .i64 D.k, .string D.s, .slice D.a D.n D.c, .int .i64 rule', .int .i64 n', .int .i64 d', .int .i64 k', .bool snap'] 39)) none) := grown_trans g1 g2
  have B1 : Hid (BlkS ((w.alloc (.cells #[.int .i64 kind, .string (bs name), .int .i64 A.k, .string A.s, .slice A.a A.n A.c, .int .i64 B.k, .string B.s, .slice B.a B.n B.c, .int .i64 rule, .int .i64 n, .int .i64 d, .int .i64 k, .bool snap] 39)).alloc (.cells #[.int .i64 kind', .string (bs name'), .int .i64 C.k, .string C.s, .slice C.a C.n C.c, .int .i64 D.k, .string D.s, .slice D.a D.n D.c, .int .i64 rule', .int .i64 n', .int .i64 d', .int .i64 k', .bool snap'] 39)) w.heap.size (stCells ⟨kind, name, xa, xb, rule, n, d, k, snap⟩ A B)) := b1
  have B2 : Hid (BlkS ((w.alloc (.cells #[.int .i64 kind, .string (bs name), .int .i64 A.k, .string A.s, .slice A.a A.n A.c, .int .i64 B.k, .string B.s, .slice B.a B.n B.c, .int .i64 rule, .int .i64 n, .int .i64 d, .int .i64 k, .bool snap] 39)).alloc (.cells #[.int .i64 kind', .string (bs name'), .int .i64 C.k, .string C.s, .slice C.a C.n C.c, .int .i64 D.k, .string D.s, .slice D.a D.n D.c, .int .i64 rule', .int .i64 n', .int .i64 d', .int .i64 k', .bool snap'] 39)) (w.heap.size + 1) (stCells ⟨kind', name', xc, xd, rule', n', d', k', snap'⟩ C D)) := b2
  have NA := Lib.hid ha
  have NB := Lib.hid hb
  have NC := Lib.hid hc
  have ND := Lib.hid hd
  clear g1 g2 b1 b2 e1 ha hb hc hd
  have x0 := B1.out.cell 0
  have y0 := B2.out.cell 0
  have x1 := B1.out.cell 1
  have y1 := B2.out.cell 1
  have x2 := B1.out.cell 2
  have y2 := B2.out.cell 2
  have x3 := B1.out.cell 3
  have y3 := B2.out.cell 3
  have x4 := B1.out.cell 4
  have y4 := B2.out.cell 4
  have x5 := B1.out.cell 5
  have y5 := B2.out.cell 5
  have x6 := B1.out.cell 6
  have y6 := B2.out.cell 6
  have x7 := B1.out.cell 7
  have y7 := B2.out.cell 7
  have x8 := B1.out.cell 8
  have y8 := B2.out.cell 8
  have x9 := B1.out.cell 9
  have y9 := B2.out.cell 9
  have x10 := B1.out.cell 10
  have y10 := B2.out.cell 10
  have x11 := B1.out.cell 11
  have y11 := B2.out.cell 11
  have x12 := B1.out.cell 12
  have y12 := B2.out.cell 12
  simp only [stCells, List.getElem?_cons_succ, List.getElem?_cons_zero] at x0 y0 x1 y1 x2 y2 x3 y3 x4 y4 x5 y5 x6 y6 x7 y7 x8 y8 x9 y9 x10 y10 x11 y11 x12 y12
  by_cases h1 : kind = kind'
  case neg =>
    have q1 : (kind == kind') = false := by simpa using h1
    clear NA NB NC ND B1 B2
    go_enter Tryz.func68, Tryz.ntmps68
    go_wp2
    go_ret
    exact ⟨by simp [St.same, q1], HG.out⟩
  subst h1
  cases h2 : (name == name') with
  | false =>
    have q2 := eq_bytes h2
    clear NA NB NC ND B1 B2
    go_enter Tryz.func68, Tryz.ntmps68
    go_wp2
    go_ret
    exact ⟨by simp [St.same, h2], HG.out⟩
  | true =>
    have q2 := eq_bytes h2
    have HQ2 := Lib.hid h2
    clear h2
    go_enter Tryz.func68, Tryz.ntmps68
    obtain ⟨p, hp⟩ : ∃ p, Nd.same xa xc = p := ⟨_, rfl⟩
    have HP := Lib.hid hp
    clear hp
    go_wp2_with fail
    refine (likeG xa xc _ _ _ (NA.out.still HG.out) (NC.out.still HG.out)).mono ?_
    rintro e w1 ⟨he, hg1⟩
    rw [HP.out] at he
    subst he
    have G1 := Lib.hid (grown_trans HG.out hg1)
    have P1 := Lib.hid (B1.out.grown hg1 (by simp))
    have P2 := Lib.hid (B2.out.grown hg1 (by simp))
    clear x0 y0 x1 y1 x2 y2 x3 y3 x4 y4 x5 y5 x6 y6 x7 y7 x8 y8 x9 y9 x10 y10 x11 y11 x12 y12 hg1 B1 B2 HG q2
    cases p with
    | false =>
      clear NA NB NC ND P1 P2
      go_wp2
      go_ret
      exact ⟨by simp [St.same, HP.out], G1.out⟩
    | true =>
      have x0 := P1.out.cell 0
      have y0 := P2.out.cell 0
      have x1 := P1.out.cell 1
      have y1 := P2.out.cell 1
      have x2 := P1.out.cell 2
      have y2 := P2.out.cell 2
      have x3 := P1.out.cell 3
      have y3 := P2.out.cell 3
      have x4 := P1.out.cell 4
      have y4 := P2.out.cell 4
      have x5 := P1.out.cell 5
      have y5 := P2.out.cell 5
      have x6 := P1.out.cell 6
      have y6 := P2.out.cell 6
      have x7 := P1.out.cell 7
      have y7 := P2.out.cell 7
      have x8 := P1.out.cell 8
      have y8 := P2.out.cell 8
      have x9 := P1.out.cell 9
      have y9 := P2.out.cell 9
      have x10 := P1.out.cell 10
      have y10 := P2.out.cell 10
      have x11 := P1.out.cell 11
      have y11 := P2.out.cell 11
      have x12 := P1.out.cell 12
      have y12 := P2.out.cell 12
      simp only [stCells, List.getElem?_cons_succ, List.getElem?_cons_zero] at x0 y0 x1 y1 x2 y2 x3 y3 x4 y4 x5 y5 x6 y6 x7 y7 x8 y8 x9 y9 x10 y10 x11 y11 x12 y12
      obtain ⟨q, hq⟩ : ∃ q, Nd.same xb xd = q := ⟨_, rfl⟩
      have HQ := Lib.hid hq
      clear hq
      go_wp2_with fail
      refine (likeG xb xd _ _ _ (NB.out.still G1.out) (ND.out.still G1.out)).mono ?_
      rintro e w2 ⟨he, hg2⟩
      rw [HQ.out] at he
      subst he
      have G2 := Lib.hid (grown_trans G1.out hg2)
      have Q1 := Lib.hid (P1.out.grown hg2 (by simp))
      have Q2 := Lib.hid (P2.out.grown hg2 (by simp))
      clear x0 y0 x1 y1 x2 y2 x3 y3 x4 y4 x5 y5 x6 y6 x7 y7 x8 y8 x9 y9 x10 y10 x11 y11 x12 y12 hg2 P1 P2 G1 NA NB NC ND
      cases q with
      | false =>
        clear Q1 Q2
        go_wp2
        go_ret
        exact ⟨by simp [St.same, HQ.out], G2.out⟩
      | true =>
        have x0 := Q1.out.cell 0
        have y0 := Q2.out.cell 0
        have x1 := Q1.out.cell 1
        have y1 := Q2.out.cell 1
        have x2 := Q1.out.cell 2
        have y2 := Q2.out.cell 2
        have x3 := Q1.out.cell 3
        have y3 := Q2.out.cell 3
        have x4 := Q1.out.cell 4
        have y4 := Q2.out.cell 4
        have x5 := Q1.out.cell 5
        have y5 := Q2.out.cell 5
        have x6 := Q1.out.cell 6
        have y6 := Q2.out.cell 6
        have x7 := Q1.out.cell 7
        have y7 := Q2.out.cell 7
        have x8 := Q1.out.cell 8
        have y8 := Q2.out.cell 8
        have x9 := Q1.out.cell 9
        have y9 := Q2.out.cell 9
        have x10 := Q1.out.cell 10
        have y10 := Q2.out.cell 10
        have x11 := Q1.out.cell 11
        have y11 := Q2.out.cell 11
        have x12 := Q1.out.cell 12
        have y12 := Q2.out.cell 12
        simp only [stCells, List.getElem?_cons_succ, List.getElem?_cons_zero] at x0 y0 x1 y1 x2 y2 x3 y3 x4 y4 x5 y5 x6 y6 x7 y7 x8 y8 x9 y9 x10 y10 x11 y11 x12 y12
        clear Q1 Q2
        by_cases h3 : rule = rule'
        case neg =>
          have q3 : (rule == rule') = false := by simpa using h3
          go_wp2
          go_ret
          exact ⟨by simp [St.same, q3], G2.out⟩
        subst h3
        by_cases h4 : n = n'
        case neg =>
          have q4 : (n == n') = false := by simpa using h4
          go_wp2
          go_ret
          exact ⟨by simp [St.same, q4], G2.out⟩
        subst h4
        by_cases h5 : d = d'
        case neg =>
          have q5 : (d == d') = false := by simpa using h5
          go_wp2
          go_ret
          exact ⟨by simp [St.same, q5], G2.out⟩
        subst h5
        by_cases h6 : k = k'
        case neg =>
          have q6 : (k == k') = false := by simpa using h6
          go_wp2
          go_ret
          exact ⟨by simp [St.same, q6], G2.out⟩
        subst h6
        cases snap <;> cases snap'
        all_goals
          go_wp2
          go_ret
          exact ⟨by simp [St.same, HQ2.out, HP.out, HQ.out], G2.out⟩
end Go.Proofs.YtdjklnlkocconaaGreatDoor
