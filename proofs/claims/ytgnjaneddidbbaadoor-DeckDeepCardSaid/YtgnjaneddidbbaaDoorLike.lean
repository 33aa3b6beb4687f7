/-
  deck.like and slices.EqualFunc at nodes, of two trees that are the same tree: true.
-/
import Derived.Test.YtgnjaneddidbbaaDoorDeckJ
import Derived.Deep.LoopGhost
import Derived.LoopN
namespace Go.Proofs.YtgnjaneddidbbaaDoor
open Go Go.RowKit

def Any : Nat → Prop := fun _ => True

theorem NdIs.still {w w' : World} {n : Nd} {v : Value} (h : NdIs Any w n v) (hg : w.grownBy w' none) : NdIs Any w' n v :=
  NdIs.kept hg.size (fun g hl _ => ⟨hg.block g hl (by simp), trivial⟩) n v h
theorem NdIs.any {ok : Nat → Prop} {w : World} {n : Nd} {v : Value} (h : NdIs ok w n v) : NdIs Any w n v :=
  NdIs.kept (Nat.le_refl _) (fun _ _ _ => ⟨rfl, trivial⟩) n v h
theorem NdsIs.still {w w' : World} {l : List Nd} {g o : Nat} (h : NdsIs Any w g o l) (hl : g < w.heap.size) (hg : w.grownBy w' none) : NdsIs Any w' g o l :=
  NdsIs.kept hg.size (fun g hl _ => ⟨hg.block g hl (by simp), trivial⟩) l g o hl trivial h

/-- What like does at one tree twice. -/
def LikeC (n : Nd) : Prop := ∀ (v1 v2 : Value) (w : World), NdIs Any w n v1 → NdIs Any w n v2 →
  Calls Tryd.prog 68 #[v1, v2] w fun e w' => e = .returned (.bool true) ∧ w.grownBy w' none

theorem NdsIs.get {w : World} {g : Nat} : ∀ {l : List Nd} {o : Nat}, NdsIs Any w g o l → ∀ (k : Nat) (n : Nd), l[k]? = some n → ∃ v, At3 w g (o + k * 3) v ∧ NdIs Any w n v
  | [], _, _, k, n, hk => by simp at hk
  | x :: l, o, h, k, n, hk => by
    unfold NdsIs at h
    cases k with
    | zero =>
      obtain rfl : x = n := by simpa using hk
      obtain ⟨v, h1, h2⟩ := h.1
      exact ⟨v, by simpa using h1, h2⟩
    | succ k =>
      obtain ⟨v, h1, h2⟩ := NdsIs.get h.2 k n (by simpa using hk)
      refine ⟨v, ?_, h2⟩
      rw [show o + (k + 1) * 3 = o + 3 + k * 3 by omega]
      exact h1

theorem At3.cells3 {w : World} {g o : Nat} {k : Int} {s : ByteArray} {a : Option Addr} {m c : Nat} (h : At3 w g o (.agg #[.int .i64 k, .string s, .slice a m c])) : w.cell? ⟨g, o, none⟩ = some (.int .i64 k) ∧ w.cell? ⟨g, o + 1, none⟩ = some (.string s) ∧ w.cell? ⟨g, o + 2, none⟩ = some (.slice a m c) := by
  obtain ⟨x, y, z, he, h1, h2, h3⟩ := h
  cases he
  exact ⟨h1, h2, h3⟩

/-- The loop over two rows of nodes. -/
def EqAt (w : World) (n : Nat) (k : Nat) (u : Value) (wr : World) : Prop := ∃ i : Nat, u = .int .i64 i ∧ i ≤ n ∧ n < k + i ∧ w.grownBy wr none

set_option maxHeartbeats 2000000 in
set_option maxRecDepth 100000 in
theorem eqNodes (l : List Nd) (ih : ∀ x ∈ l, LikeC x) (g1 o1 c1 g2 o2 c2 : Nat) (w : World) (h1 : NdsIs Any w g1 o1 l) (h2 : NdsIs Any w g2 o2 l) (hl1 : g1 < w.heap.size) (hl2 : g2 < w.heap.size) (hn : l.length ≤ 9223372036854775807) :
    Calls Tryd.prog 88 #[.slice (some ⟨g1, o1, none⟩) l.length c1, .slice (some ⟨g2, o2, none⟩) l.length c2, .func (.func 68) #[] #[]] w fun e w' => e = .returned (.bool true) ∧ w.grownBy w' none := by
  have H1 := Lib.hid h1
  have H2 := Lib.hid h2
  clear h1 h2
  obtain ⟨n, hln⟩ : ∃ n, l.length = n := ⟨_, rfl⟩
  rw [hln] at hn ⊢
  have HLN := Lib.hid hln
  clear hln
  go_enter Tryd.func88, Tryd.ntmps88
  go_wp2_with fail
  go_loopg [17] (n + 1) (fun k u wr => Hid (EqAt w n k u wr))
  case atStart => exact ⟨0, rfl, Nat.zero_le _, by omega, grown_refl _ _⟩
  case round =>
    obtain ⟨i, rfl, hi, hk, hg⟩ := hrel.out
    have HG := Lib.hid hg
    clear hrel hg
    by_cases hlt : i < n
    · obtain ⟨x, hx⟩ : ∃ x, l[i]? = some x := ⟨l[i]'(by rw [HLN.out]; exact hlt), List.getElem?_eq_getElem _⟩
      have HX := Lib.hid hx
      obtain ⟨v1, a1, n1⟩ := (H1.out.still hl1 HG.out).get i x hx
      obtain ⟨v2, a2, n2⟩ := (H2.out.still hl2 HG.out).get i x hx
      obtain ⟨k1, s1, p1, m1, d1, rfl⟩ := n1.agg
      obtain ⟨k2, s2, p2, m2, d2, rfl⟩ := n2.agg
      obtain ⟨x0, x1, x2⟩ := a1.cells3
      obtain ⟨y0, y1, y2⟩ := a2.cells3
      have N1 := Lib.hid n1
      have N2 := Lib.hid n2
      clear n1 n2 a1 a2 hx
      have z0 : ∀ o, (wr.alloc o).cell? ⟨g2, o2 + i * 3, none⟩ = some (.int .i64 k2) := fun o => (Below.cell (p := ⟨g2, o2 + i * 3, none⟩) ((Below.refl wr.heap.size wr).alloc (Nat.le_refl _) o) (Nat.lt_of_lt_of_le hl2 HG.out.size)).trans y0
      have z1 : ∀ o, (wr.alloc o).cell? ⟨g2, o2 + i * 3 + 1, none⟩ = some (.string s2) := fun o => (Below.cell (p := ⟨g2, o2 + i * 3 + 1, none⟩) ((Below.refl wr.heap.size wr).alloc (Nat.le_refl _) o) (Nat.lt_of_lt_of_le hl2 HG.out.size)).trans y1
      have z2 : ∀ o, (wr.alloc o).cell? ⟨g2, o2 + i * 3 + 2, none⟩ = some (.slice p2 m2 d2) := fun o => (Below.cell (p := ⟨g2, o2 + i * 3 + 2, none⟩) ((Below.refl wr.heap.size wr).alloc (Nat.le_refl _) o) (Nat.lt_of_lt_of_le hl2 HG.out.size)).trans y2
      go_wp2_with fail
      have HA : Hid (wr.grownBy ((wr.alloc (.cells #[.int .i64 k1, .string s1, .slice p1 m1 d1] 71)).alloc (.cells #[.int .i64 k2, .string s2, .slice p2 m2 d2] 71)) none) := grown_trans (grown_alloc _ _ _) (grown_alloc _ _ _)
      refine (ih x (List.mem_of_getElem? HX.out) _ _ _ (N1.out.still HA.out) (N2.out.still HA.out)).mono ?_
      rintro e w3 ⟨rfl, hg3⟩
      have HG3 : Hid (w.grownBy w3 none) := grown_trans HG.out (grown_trans HA.out hg3)
      clear hg3 HA N1 N2 x0 x1 x2 y0 y1 y2 z0 z1 z2 HG
      go_wp2
      go_roundg (gk - 1)
      case measure => omega
      case rel => exact ⟨i + 1, by go_num, by omega, by omega, HG3.out⟩
    · go_wp2
      go_ret
      exact ⟨rfl, HG.out⟩

set_option maxHeartbeats 1000000 in
set_option maxRecDepth 100000 in
theorem eqNone (a1 a2 : Option Addr) (c1 c2 : Nat) (w : World) :
    Calls Tryd.prog 88 #[.slice a1 0 c1, .slice a2 0 c2, .func (.func 68) #[] #[]] w fun e w' => e = .returned (.bool true) ∧ w.grownBy w' none := by
  go_enter Tryd.func88, Tryd.ntmps88
  go_wp2_with fail
  refine wp_loop_rounds 1 ?_
  rw [rounds_succ]
  go_wp2
  go_ret
  exact ⟨rfl, grown_refl _ _⟩

set_option maxHeartbeats 2000000 in
set_option maxRecDepth 100000 in
theorem like_step (k : Int) (s : List UInt8) (l : List Nd) (ih : ∀ x ∈ l, LikeC x) : LikeC (.mk k s l) := by
  intro v1 v2 w h1 h2
  unfold NdIs at h1 h2
  obtain ⟨a1, c1, rfl, hl, h1⟩ := h1
  obtain ⟨a2, c2, rfl, _, h2⟩ := h2
  have HC : Hid (∀ w1, w.grownBy w1 none → Calls Tryd.prog 88 #[.slice a1 l.length c1, .slice a2 l.length c2, .func (.func 68) #[] #[]] w1 fun e w' => e = .returned (.bool true) ∧ w1.grownBy w' none) := by
    show ∀ _, _
    intro w1 hg
    rcases h1 with rfl | ⟨g1, o1, rfl, _, hl1, h1⟩
    · exact eqNone _ _ _ _ _
    · rcases h2 with rfl | ⟨g2, o2, rfl, _, hl2, h2⟩
      · exact eqNone _ _ _ _ _
      · exact eqNodes l ih g1 o1 c1 g2 o2 c2 w1 (h1.still hl1 hg) (h2.still hl2 hg) (Nat.lt_of_lt_of_le hl1 hg.size) (Nat.lt_of_lt_of_le hl2 hg.size) hl
  clear h1 h2
  have b1 := (Blk3.new w (.int .i64 k) (.string (bs s)) (.slice a1 l.length c1)).grown (grown_alloc _ (.cells #[.int .i64 k, .string (bs s), .slice a2 l.length c2] 71) none) (by simp)
  have b2 := Blk3.new_at (w.alloc (.cells #[.int .i64 k, .string (bs s), .slice a1 l.length c1] 71)) (.int .i64 k) (.string (bs s)) (.slice a2 l.length c2) (w.heap.size + 1) (by simp)
  obtain ⟨x0, x1, x2, _, _, _⟩ := b1.cells
  obtain ⟨y0, y1, y2, _, _, _⟩ := b2.cells
  have HA : Hid (w.grownBy ((w.alloc (.cells #[.int .i64 k, .string (bs s), .slice a1 l.length c1] 71)).alloc (.cells #[.int .i64 k, .string (bs s), .slice a2 l.length c2] 71)) none) := grown_trans (grown_alloc _ _ _) (grown_alloc _ _ _)
  clear b1 b2
  go_enter Tryd.func68, Tryd.ntmps68
  go_wp2_with fail
  refine (HC.out _ HA.out).mono ?_
  rintro e w3 ⟨rfl, hg⟩
  have HG : Hid (w.grownBy w3 none) := grown_trans HA.out hg
  clear hg HA HC x0 x1 x2 y0 y1 y2
  go_wp2
  go_ret
  exact ⟨rfl, HG.out⟩

theorem like_all (f : Nat) : ∀ n : Nd, SizeOf.sizeOf n ≤ f → LikeC n := by
  induction f with
  | zero => intro n h; cases n; simp at h
  | succ f ih =>
    intro n h
    cases n with
    | mk k s l =>
      refine like_step k s l fun x hx => ih x ?_
      have := List.sizeOf_lt_of_mem hx
      simp at h
      omega
theorem like_any (n : Nd) : LikeC n := like_all _ n (Nat.le_refl _)
end Go.Proofs.YtgnjaneddidbbaaDoor
