/-
  Statements in rows of the call's own: put together, cut off, read.
-/
import Derived.Test.YtdjklnlkocconaaGreatDoorLnBZ
import Derived.Test.YtdjklnlkocconaaGreatDoorSmAZ
namespace Go.Proofs.YtdjklnlkocconaaGreatDoor
open Go Go.RowKit

theorem StRow.app {ok : Nat → Prop} {w : World} {m : List St} {cm : List Value} (hm : StRow ok w m cm) : ∀ {l : List St} {cs : List Value}, StRow ok w l cs → StRow ok w (l ++ m) (cs ++ cm)
  | [], _, h => by rw [show _ = [] from h]; exact hm
  | _ :: _, _, ⟨A, B, rest, h1, h2, h3, h4⟩ => ⟨A, B, rest ++ cm, by rw [h1, List.append_assoc], h2, h3, StRow.app hm h4⟩
theorem StRow.length {ok : Nat → Prop} {w : World} : ∀ {l : List St} {cs : List Value}, StRow ok w l cs → cs.length = l.length * 13
  | [], _, h => by rw [show _ = [] from h]; rfl
  | _ :: _, _, ⟨A, B, rest, h1, _, _, h4⟩ => by rw [h1, List.length_append, stCells_length, StRow.length h4, List.length_cons]; omega
theorem StRow.one {ok : Nat → Prop} {w : World} : ∀ {l : List St} {cs : List Value}, StRow ok w l cs → ∀ u ∈ cs, u.oneCell' = true
  | [], _, h => by rw [show _ = [] from h]; intro u hu; cases hu
  | x :: _, _, ⟨A, B, rest, h1, _, _, h4⟩ => by
    rw [h1]
    intro u hu
    rcases List.mem_append.1 hu with hu | hu
    · exact stCells_one x A B u hu
    · exact StRow.one h4 u hu

theorem StRow.take {ok : Nat → Prop} {w : World} : ∀ {l : List St} {cs : List Value} (n : Nat), StRow ok w l cs → StRow ok w (l.take n) (cs.take (n * 13))
  | [], _, n, h => by rw [show _ = [] from h]; simp [StRow]
  | x :: l, _, 0, _ => by simp [StRow]
  | x :: l, _, n + 1, ⟨A, B, rest, h1, h2, h3, h4⟩ => by
    refine ⟨A, B, rest.take (n * 13), ?_, h2, h3, StRow.take n h4⟩
    rw [h1, show (n + 1) * 13 = (stCells x A B).length + n * 13 by rw [stCells_length]; omega, List.take_length_add_append]
/-- The first statements of a row. -/
theorem StsIs.first {w : World} {a : Option Addr} {c : Nat} {l : List St} (h : StsIs w (.slice a l.length c) l) (n : Nat) (hn : n ≤ l.length) : StsIs w (.slice a n c) (l.take n) := by
  obtain ⟨h1, a', c', e, h2⟩ := h
  cases e
  have hlen : (l.take n).length = n := by rw [List.length_take]; omega
  refine ⟨by omega, a, c, by rw [hlen], ?_⟩
  rcases h2 with rfl | ⟨g, o, rfl, hg, cs, hc, hr⟩
  · exact .inl (by simp)
  · refine .inr ⟨g, o, rfl, hg, cs.take (n * 13), fun j u hu => hc j u ?_, hr.take n⟩
    rw [List.getElem?_take] at hu
    split at hu
    · exact hu
    · cases hu

/-- Statements of a call's own, in a later world. -/
structure Own (w : World) (B : Nat) (v : Value) (l : List St) (cs : List Value) : Prop where
  own : w.ownsRow B 39 13 v l.length cs
  row : StRow Any w l cs

theorem Own.later {w w' : World} {B : Nat} {v : Value} {l : List St} {cs : List Value} (h : Own w B v l cs) (hb : Below w.heap.size w w') : Own w' B v l cs :=
  ⟨owns_below h.own hb, h.row.kept hb.size (fun g hg ho => ⟨hb.block g hg, ho⟩)⟩

theorem owns_fresh (w : World) {B : Nat} (hB : B ≤ w.heap.size) : (w.alloc (.cells #[] 39)).ownsRow B 39 13 (.slice (some ⟨w.heap.size, 0, none⟩) 0 0) 0 [] :=
  ⟨rfl, .inr ⟨w.heap.size, 0, #[], rfl, hB, (MapKept.heap_alloc w _).1, Nat.le_refl _, Nat.zero_le _, rfl, rfl⟩⟩

theorem u64_small (n : Int) (h0 : 0 ≤ n) (h1 : n ≤ 1000000) : IntKind.u64.wrap n = n := by
  show n % 18446744073709551616 = n
  omega
theorem u64_nonneg (n : Int) : 0 ≤ IntKind.u64.wrap n := by
  show 0 ≤ n % 18446744073709551616
  omega
theorem cut_at (cut : Int) (N : Nat) (h0 : N ≠ 0) (h1 : N ≤ 1000000) : ∃ q : Nat, wrap64 ((IntKind.u64.wrap cut).tmod (IntKind.u64.wrap (N : Int))) = q ∧ q < N := by
  have h := u64_nonneg cut
  rw [u64_small (N : Int) (by omega) (by omega), Int.tmod_eq_emod_of_nonneg h]
  have h2 := Int.emod_nonneg (IntKind.u64.wrap cut) (show (N : Int) ≠ 0 by omega)
  have h3 := Int.emod_lt_of_pos (IntKind.u64.wrap cut) (show (0 : Int) < N by omega)
  generalize IntKind.u64.wrap cut % (N : Int) = x at *
  refine ⟨x.toNat, ?_, by omega⟩
  unfold wrap64
  omega

theorem Own.shape {w : World} {B : Nat} {v : Value} {l : List St} {cs : List Value} (h : Own w B v l cs) : ∃ a c, v = .slice a l.length c ∧ l.length ≤ c := by
  obtain ⟨_, ⟨h0, hn⟩ | ⟨g, cap, cur, rfl, _, _, hc, _⟩⟩ := h.own
  · exact ⟨none, 0, by rw [h0, hn], by omega⟩
  · exact ⟨_, cap, rfl, hc⟩
end Go.Proofs.YtdjklnlkocconaaGreatDoor
