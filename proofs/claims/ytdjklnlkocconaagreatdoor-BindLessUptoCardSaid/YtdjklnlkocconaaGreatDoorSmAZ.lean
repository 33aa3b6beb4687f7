/-
  deck.like and slices.EqualFunc at nodes, of two trees that are the same tree: true.
  A part out of a tree in memory.
  deck.alike and slices.EqualFunc at statements, of statements that are the same: true.
  slices.EqualFunc at statements, of statements that are the same: true.
-/
import Derived.Test.YtdjklnlkocconaaGreatDoorPaBZ
import Derived.Test.YtdjklnlkocconaaGreatDoorPaFZ
import Derived.Deep.LoopGhost
import Derived.LoopN
namespace Go.Proofs.YtdjklnlkocconaaGreatDoor
open Go Go.RowKit

def Any : Nat → Prop := fun _ => True

theorem NdIs.still {w w' : World} {n : Nd} {v : Value} (h : NdIs Any w n v) (hg : w.grownBy w' none) : NdIs Any w' n v :=
  NdIs.kept hg.size (fun g hl _ => ⟨hg.block g hl (by simp), trivial⟩) n v h
theorem NdIs.any {ok : Nat → Prop} {w : World} {n : Nd} {v : Value} (h : NdIs ok w n v) : NdIs Any w n v :=
  NdIs.kept (Nat.le_refl _) (fun _ _ _ => ⟨rfl, trivial⟩) n v h
theorem NdsIs.still {w w' : World} {l : List Nd} {g o : Nat} (h : NdsIs Any w g o l) (hl : g < w.heap.size) (hg : w.grownBy w' none) : NdsIs Any w' g o l :=
  NdsIs.kept hg.size (fun g hl _ => ⟨hg.block g hl (by simp), trivial⟩) l g o hl trivial h

/-- What like does at one tree twice. -/
def LikeC (n : Nd) : Prop := ∀ (v1 v2 : Value) (w : World), NdIs Any w n v1 → NdIs Any w n v2 →
  Calls Tryz.prog 86 #[v1, v2] w fun e w' => e = .returned (.bool true) ∧ w.grownBy w' none

theorem NdsIs.get {w : World} {g : Nat} : ∀ {l : List Nd} {o : Nat}, NdsIs Any w g o l → ∀ (k : Nat) (n : Nd), l[k]? = some n → ∃ v, At3 w g (o + k * 3) v ∧ NdIs Any w n v
  | [], _, _, k, n, hk => by simp at hk
  | x :: l, o, h, k, n, hk => by
    unfold NdsIs at h
    cases k with
    | zero =>
      obtain rfl : x = n := by simpa using hk
      obtain ⟨v, h1, h2⟩ := h.1
      exact ⟨v, by simpa using h1, h2⟩
    | succ k =>
      obtain ⟨v, h1, h2⟩ := NdsIs.get h.2 k n (by simpa using hk)
      refine ⟨v, ?_, h2⟩
      rw [show o + (k + 1) * 3 = o + 3 + k * 3 by omega]
      exact h1

theorem At3.cells3 {w : World} {g o : Nat} {k : Int} {s : ByteArray} {a : Option Addr} {m c : Nat} (h : At3 w g o (.agg #[.int .i64 k, .string s, .slice a m c])) : w.cell? ⟨g, o, none⟩ = some (.int .i64 k) ∧ w.cell? ⟨g, o + 1, none⟩ = some (.string s) ∧ w.cell? ⟨g, o + 2, none⟩ = some (.slice a m c) := by
  obtain ⟨x, y, z, he, h1, h2, h3⟩ := h
  cases he
  exact ⟨h1, h2, h3⟩

/-- The loop over two rows of nodes. -/
def EqAt (w : World) (n : Nat) (k : Nat) (u : Value) (wr : World) : Prop := ∃ i : Nat, u = .int .i64 i ∧ i ≤ n ∧ n < k + i ∧ w.grownBy wr none

set_option maxHeartbeats 1000000 in
set_option maxRecDepth 100000 in
theorem eqNone (a1 a2 : Option Addr) (c1 c2 : Nat) (w : World) :
    Calls Tryz.prog 111 #[.slice a1 0 c1, .slice a2 0 c2, .func (.func 86) #[] #[]] w fun e w' => e = .returned (.bool true) ∧ w.grownBy w' none := by
  go_enter Tryz.func111, Tryz.ntmps111
  go_wp2_with fail
  refine wp_loop_rounds 1 ?_
  rw [rounds_succ]
  go_wp2
  go_ret
  exact ⟨rfl, grown_refl _ _⟩

end Go.Proofs.YtdjklnlkocconaaGreatDoor

namespace Go.Proofs.YtdjklnlkocconaaGreatDoor
open Go Go.RowKit

/-- A part out of a tree's row. -/
theorem NdIs.part {w : World} {l : List Nd} {a : Option Addr} (h : l = [] ∨ ∃ g o, a = some ⟨g, o, none⟩ ∧ Any g ∧ g < w.heap.size ∧ NdsIs Any w g o l) {i : Nat} {x : Nd} (hx : l[i]? = some x) :
    ∃ g o, a = some ⟨g, o, none⟩ ∧ ∀ w', w.grownBy w' none → ∃ (k : Int) (s : ByteArray) (p : Option Addr) (m c : Nat), (w'.cell? ⟨g, o + i * 3, none⟩ = some (.int .i64 k) ∧ w'.cell? ⟨g, o + i * 3 + 1, none⟩ = some (.string s) ∧ w'.cell? ⟨g, o + i * 3 + 2, none⟩ = some (.slice p m c)) ∧ NdIs Any w' x (.agg #[.int .i64 k, .string s, .slice p m c]) := by
  rcases h with rfl | ⟨g, o, rfl, _, hl, h⟩
  · simp at hx
  · refine ⟨g, o, rfl, fun w' hg => ?_⟩
    obtain ⟨v, h1, h2⟩ := (h.still hl hg).get i x hx
    obtain ⟨k, s, p, m, c, rfl⟩ := h2.agg
    exact ⟨k, s, p, m, c, h1.cells3, h2⟩
end Go.Proofs.YtdjklnlkocconaaGreatDoor

namespace Go.Proofs.YtdjklnlkocconaaGreatDoor
open Go Go.RowKit
end Go.Proofs.YtdjklnlkocconaaGreatDoor

namespace Go.Proofs.YtdjklnlkocconaaGreatDoor
open Go Go.RowKit

/-- A slice of statements in memory. -/
def StsIs (w : World) (v : Value) (l : List St) : Prop :=
  l.length ≤ 9223372036854775807 ∧ ∃ a cap, v = .slice a l.length cap ∧ (l = [] ∨ ∃ g o, a = some ⟨g, o, none⟩ ∧ g < w.heap.size ∧ ∃ cs, (∀ j u, cs[j]? = some u → w.cell? ⟨g, o + j, none⟩ = some u) ∧ StRow Any w l cs)

theorem StsIs.still {w w' : World} {v : Value} {l : List St} (h : StsIs w v l) (hg : w.grownBy w' none) : StsIs w' v l := by
  obtain ⟨h1, a, cap, rfl, h2⟩ := h
  refine ⟨h1, a, cap, rfl, ?_⟩
  rcases h2 with h2 | ⟨g, o, rfl, hl, cs, hc, hr⟩
  · exact .inl h2
  · exact .inr ⟨g, o, rfl, Nat.lt_of_lt_of_le hl hg.size, cs, fun j u hu => (World.cell?_of_block (a := ⟨g, o + j, none⟩) (hg.block g hl (by simp))).trans (hc j u hu), hr.kept hg.size (fun k hk _ => ⟨hg.block k hk (by simp), trivial⟩)⟩

theorem stCells_length (x : St) (A B : NV) : (stCells x A B).length = 13 := rfl
theorem StRow.get {ok : Nat → Prop} {w : World} : ∀ {l : List St} {cs : List Value}, StRow ok w l cs → ∀ (k : Nat) (x : St), l[k]? = some x → ∃ A B : NV, (∀ j, j < 13 → cs[k * 13 + j]? = (stCells x A B)[j]?) ∧ NdIs ok w x.a A.val ∧ NdIs ok w x.b B.val
  | [], _, _, k, x, hk => by simp at hk
  | y :: l, cs, h, k, x, hk => by
    obtain ⟨A, B, rest, rfl, ha, hb, hr⟩ := h
    cases k with
    | zero =>
      obtain rfl : y = x := by simpa using hk
      refine ⟨A, B, fun j hj => ?_, ha, hb⟩
      rw [Nat.zero_mul, Nat.zero_add, List.getElem?_append_left (by rw [stCells_length]; exact hj)]
    | succ k =>
      obtain ⟨A', B', h1, h2, h3⟩ := StRow.get hr k x (by simpa using hk)
      refine ⟨A', B', fun j hj => ?_, h2, h3⟩
      rw [List.getElem?_append_right (by rw [stCells_length]; omega), stCells_length, show (k + 1) * 13 + j - 13 = k * 13 + j by omega]
      exact h1 j hj

/-- A statement out of a slice of them. -/
theorem StsIs.get {w : World} {v : Value} {l : List St} (h : StsIs w v l) {k : Nat} {x : St} (hk : l[k]? = some x) : ∃ g o cap, v = .slice (some ⟨g, o, none⟩) l.length cap ∧ g < w.heap.size ∧ ∃ A B : NV, (∀ j, j < 13 → w.cell? ⟨g, o + k * 13 + j, none⟩ = (stCells x A B)[j]?) ∧ NdIs Any w x.a A.val ∧ NdIs Any w x.b B.val := by
  obtain ⟨_, a, cap, rfl, h2⟩ := h
  rcases h2 with rfl | ⟨g, o, rfl, hl, cs, hc, hr⟩
  · simp at hk
  · obtain ⟨A, B, h1, h3, h4⟩ := hr.get k x hk
    refine ⟨g, o, cap, rfl, hl, A, B, fun j hj => ?_, h3, h4⟩
    have h5 : (stCells x A B)[j]? = some ((stCells x A B)[j]'(by rw [stCells_length]; exact hj)) := List.getElem?_eq_getElem _
    rw [h5, Nat.add_assoc]
    exact hc _ _ ((h1 j hj).trans h5)

end Go.Proofs.YtdjklnlkocconaaGreatDoor
