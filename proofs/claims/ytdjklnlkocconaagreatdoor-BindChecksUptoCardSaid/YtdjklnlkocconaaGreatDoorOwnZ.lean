/-
  Statements in rows of the call's own: put together, cut off, read.
-/
import Derived.Test.YtdjklnlkocconaaGreatDoorLnBZ
import Derived.Test.YtdjklnlkocconaaGreatDoorSmAZ
namespace Go.Proofs.YtdjklnlkocconaaGreatDoor
open Go Go.RowKit
theorem StRow.length {ok : Nat → Prop} {w : World} : ∀ {l : List St} {cs : List Value}, StRow ok w l cs → cs.length = l.length * 13
  | [], _, h => by rw [show _ = [] from h]; rfl
  | _ :: _, _, ⟨A, B, rest, h1, _, _, h4⟩ => by rw [h1, List.length_append, stCells_length, StRow.length h4, List.length_cons]; omega
theorem StRow.one {ok : Nat → Prop} {w : World} : ∀ {l : List St} {cs : List Value}, StRow ok w l cs → ∀ u ∈ cs, u.oneCell' = true
  | [], _, h => by rw [show _ = [] from h]; intro u hu; cases hu
  | x :: _, _, ⟨A, B, rest, h1, _, _, h4⟩ => by
    rw [h1]
    intro u hu
    rcases List.mem_append.1 hu with hu | hu
    · exact stCells_one x A B u hu
    · exact StRow.one h4 u hu

theorem StRow.take {ok : Nat → Prop} {w : World} : ∀ {l : List St} {cs : List Value} (n : Nat), StRow ok w l cs → StRow ok w (l.take n) (cs.take (n * 13))
  | [], _, n, h => by rw [show _ = [] from h]; simp [StRow]
  | x :: l, _, 0, _ => by simp [StRow]
  | x :: l, _, n + 1, ⟨A, B, rest, h1, h2, h3, h4⟩ => by
    refine ⟨A, B, rest.take (n * 13), ?_, h2, h3, StRow.take n h4⟩
    rw [h1, show (n + 1) * 13 = (stCells x A B).length + n * 13 by rw [stCells_length]; omega, List.take_length_add_append]
/-- The first statements of a row. -/
theorem StsIs.first {w : World} {a : Option Addr} {c : Nat} {l : List St} (h : StsIs w (.slice a l.length c) l) (n : Nat) (hn : n ≤ l.length) : StsIs w (.slice a n c) (l.take n) := by
  obtain ⟨h1, a', c', e, h2⟩ := h
  cases e
  have hlen : (l.take n).length = n := by rw [List.length_take]; omega
  refine ⟨by omega, a, c, by rw [hlen], ?_⟩
  rcases h2 with rfl | ⟨g, o, rfl, hg, cs, hc, hr⟩
  · exact .inl (by simp)
  · refine .inr ⟨g, o, rfl, hg, cs.take (n * 13), fun j u hu => hc j u ?_, hr.take n⟩
    rw [List.getElem?_take] at hu
    split at hu
    · exact hu
    · cases hu

/-- Statements of a call's own, in a later world. -/
structure Own (w : World) (B : Nat) (v : Value) (l : List St) (cs : List Value) : Prop where
  own : w.ownsRow B 39 13 v l.length cs
  row : StRow Any w l cs

theorem Own.later {w w' : World} {B : Nat} {v : Value} {l : List St} {cs : List Value} (h : Own w B v l cs) (hb : Below w.heap.size w w') : Own w' B v l cs :=
  ⟨owns_below h.own hb, h.row.kept hb.size (fun g hg ho => ⟨hb.block g hg, ho⟩)⟩

theorem Own.shape {w : World} {B : Nat} {v : Value} {l : List St} {cs : List Value} (h : Own w B v l cs) : ∃ a c, v = .slice a l.length c ∧ l.length ≤ c := by
  obtain ⟨_, ⟨h0, hn⟩ | ⟨g, cap, cur, rfl, _, _, hc, _⟩⟩ := h.own
  · exact ⟨none, 0, by rw [h0, hn], by omega⟩
  · exact ⟨_, cap, rfl, hc⟩
end Go.Proofs.YtdjklnlkocconaaGreatDoor
