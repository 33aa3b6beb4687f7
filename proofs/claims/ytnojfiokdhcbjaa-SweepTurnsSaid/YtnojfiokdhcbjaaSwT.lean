/-
  SweepTurns, in plain Lean: the pairs of boxes that meet, the other way round and at a greater distance.
-/
import Derived.Test.YtnojfiokdhcbjaaSwP
namespace Go.Proofs.Ytnojfiokdhcbjaa
open Go

/-- Two segments' boxes meet, the first one's grown by a distance. -/
def nearB (s t : Sg) (d : Rat) : Bool := meets (boxS s d 0 false) (boxS t 0 0 true)
theorem near_box (s t : Sg) (d : Rat) (i j : Nat) (a b : Bool) : meets (boxS s d i a) (boxS t 0 j b) = nearB s t d := rfl
theorem near_comm (s t : Sg) (d : Rat) : nearB s t d = nearB t s d := by
  rw [Bool.eq_iff_iff]
  unfold nearB meets passes hits boxS
  simp only [Bool.and_eq_true, Bool.not_eq_true', decide_eq_false_iff_not]
  constructor <;> (rintro ⟨⟨h1, h2⟩, h3, h4⟩; refine ⟨⟨?_, ?_⟩, ?_, ?_⟩ <;> grind)
theorem near_mono {s t : Sg} {d e : Rat} (h : d ≤ e) (hn : nearB s t d = true) : nearB s t e = true := by
  revert hn
  unfold nearB meets passes hits boxS
  simp only [Bool.and_eq_true, Bool.not_eq_true', decide_eq_false_iff_not]
  rintro ⟨⟨h1, h2⟩, h3, h4⟩
  refine ⟨⟨?_, ?_⟩, ?_, ?_⟩ <;> grind
theorem boxesL_iff {ss : List Sg} {dl : Rat} {b : Bool} {x : Bx} : x ∈ boxesL ss dl b ↔ ∃ i s, ss[i]? = some s ∧ x = boxS s dl i b := by
  constructor
  · intro h
    obtain ⟨i, s, h1, -, h2⟩ := boxesL_at h
    exact ⟨i, s, h1, h2⟩
  · rintro ⟨i, s, h1, rfl⟩
    exact boxesL_get h1
theorem pairs_iff {ss ts : List Sg} {d : Rat} {p : Nat × Nat} : p ∈ pairsS (boxesL ss d false) (boxesL ts 0 true) ↔ ∃ s t, ss[p.1]? = some s ∧ ts[p.2]? = some t ∧ nearB s t d = true := by
  rw [pairsS_mem]
  constructor
  · rintro ⟨x, y, hx, hy, hm, rfl⟩
    obtain ⟨i, s, h1, rfl⟩ := boxesL_iff.1 hx
    obtain ⟨j, t, h2, rfl⟩ := boxesL_iff.1 hy
    exact ⟨s, t, h1, h2, hm⟩
  · rintro ⟨s, t, h1, h2, h3⟩
    exact ⟨_, _, boxesL_iff.2 ⟨p.1, s, h1, rfl⟩, boxesL_iff.2 ⟨p.2, t, h2, rfl⟩, h3, rfl⟩
theorem pairs_turn {ss ts : List Sg} {d : Rat} {p : Nat × Nat} (h : p ∈ pairsS (boxesL ss d false) (boxesL ts 0 true)) : (p.2, p.1) ∈ pairsS (boxesL ts d false) (boxesL ss 0 true) := by
  obtain ⟨s, t, h1, h2, h3⟩ := pairs_iff.1 h
  exact pairs_iff.2 ⟨t, s, h2, h1, by rw [near_comm]; exact h3⟩
theorem pairs_more {ss ts : List Sg} {d e : Rat} (hd : d ≤ e) {p : Nat × Nat} (h : p ∈ pairsS (boxesL ss d false) (boxesL ts 0 true)) : p ∈ pairsS (boxesL ss e false) (boxesL ts 0 true) := by
  obtain ⟨s, t, h1, h2, h3⟩ := pairs_iff.1 h
  exact pairs_iff.2 ⟨s, t, h1, h2, near_mono hd h3⟩
theorem pairs_nodup (ss ts : List Sg) (d : Rat) : (pairsS (boxesL ss d false) (boxesL ts 0 true)).Nodup := by
  refine (pairsS_sorted (boxesL_order ss d false) (boxesL_order ts 0 true)).imp ?_
  rintro p q h rfl
  exact ltP_irrefl _ h
theorem pairs_len (ss ts : List Sg) (d : Rat) : (pairsS (boxesL ss d false) (boxesL ts 0 true)).length = (pairsS (boxesL ts d false) (boxesL ss 0 true)).length := by
  have hn : ((pairsS (boxesL ss d false) (boxesL ts 0 true)).map fun p => (p.2, p.1)).Nodup := by
    unfold List.Nodup
    rw [List.pairwise_map]
    refine (pairs_nodup ss ts d).imp ?_
    intro p q h e
    exact h (by injection e with e1 e2; exact Prod.ext e2 e1)
  have hp := (List.perm_ext_iff_of_nodup hn (pairs_nodup ts ss d)).2 (fun p => by
    rw [List.mem_map]
    constructor
    · rintro ⟨q, hq, rfl⟩
      exact pairs_turn hq
    · intro h
      exact ⟨(p.2, p.1), pairs_turn h, rfl⟩)
  rw [← hp.length_eq, List.length_map]
/-- Each pair's places are below the lists' lengths. -/
theorem pairs_lt {ss ts : List Sg} {d : Rat} {p : Nat × Nat} (h : p ∈ pairsS (boxesL ss d false) (boxesL ts 0 true)) : p.1 < ss.length ∧ p.2 < ts.length := by
  obtain ⟨s, t, h1, h2, -⟩ := pairs_iff.1 h
  exact ⟨(List.getElem?_eq_some_iff.1 h1).1, (List.getElem?_eq_some_iff.1 h2).1⟩
end Go.Proofs.Ytnojfiokdhcbjaa
