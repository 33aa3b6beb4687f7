/-
  The reference's Print: small laws, the plain law. No walk.
-/
import Derived.Test.YtdjklnlkocconaaGreatDoorPlBZ
namespace Go.Proofs.YtdjklnlkocconaaGreatDoor

/-- The reference's Print, in plain Lean: from the statements l on, behind the text acc. -/
def refP : List St → List UInt8 → Option (List UInt8)
  | [], acc => some acc
  | x :: r, acc => if fitB x = true then (if 65536 < (acc ++ lineP x).length then none else refP r (acc ++ lineP x)) else none

theorem refP_some (l : List St) : ∀ (acc t : List UInt8), acc.length ≤ 65536 → (refP l acc = some t ↔ (∀ x ∈ l, fitB x = true) ∧ (acc ++ l.flatMap lineP).length ≤ 65536 ∧ t = acc ++ l.flatMap lineP) := by
  induction l with
  | nil =>
    intro acc t ha
    simp only [refP, List.flatMap_nil, List.append_nil]
    constructor
    · intro h; cases h; exact ⟨fun x hx => (by cases hx), ha, rfl⟩
    · rintro ⟨_, _, rfl⟩; rfl
  | cons x l ih =>
    intro acc t ha
    rw [refP, List.flatMap_cons, ← List.append_assoc]
    by_cases hx : fitB x = true
    · rw [if_pos hx]
      by_cases hb : 65536 < (acc ++ lineP x).length
      · rw [if_pos hb]
        constructor
        · intro h; cases h
        · rintro ⟨_, h, _⟩
          rw [List.length_append] at h
          omega
      · rw [if_neg hb, ih _ t (by omega)]
        constructor
        · rintro ⟨h1, h2, h3⟩
          refine ⟨fun y hy => ?_, h2, h3⟩
          rcases List.mem_cons.1 hy with rfl | hy
          · exact hx
          · exact h1 y hy
        · rintro ⟨h1, h2, h3⟩
          exact ⟨fun y hy => h1 y (by simp [hy]), h2, h3⟩
    · rw [if_neg hx]
      constructor
      · intro h; cases h
      · rintro ⟨h1, _⟩
        exact absurd (h1 x (by simp)) hx

/-- The two Prints are one. -/
theorem printS_refP (l : List St) : printS l = if 1000 < l.length then none else refP l [] := by
  have key : ∀ t, printS l = some t ↔ (if 1000 < l.length then none else refP l []) = some t := by
    intro t
    rw [printS_iff]
    by_cases h : 1000 < l.length
    · rw [if_pos h]
      constructor
      · rintro ⟨_, h2, _⟩; omega
      · intro h; cases h
    · rw [if_neg h, refP_some l [] t (by simp), List.nil_append]
      exact ⟨fun ⟨h1, _, h3, h4⟩ => ⟨h1, h3, h4⟩, fun ⟨h1, h3, h4⟩ => ⟨h1, by omega, h3, h4⟩⟩
  cases h1 : printS l with
  | some t => exact ((key t).1 h1).symm
  | none =>
    cases h2 : (if 1000 < l.length then none else refP l []) with
    | none => rfl
    | some t => rw [(key t).2 h2] at h1; cases h1
end Go.Proofs.YtdjklnlkocconaaGreatDoor
