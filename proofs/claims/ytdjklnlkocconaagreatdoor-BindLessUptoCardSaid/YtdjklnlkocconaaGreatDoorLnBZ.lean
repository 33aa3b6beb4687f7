/-
  deck.line at every statement that is some deck's; deck.Print of what was parsed.
-/
import Derived.Test.YtdjklnlkocconaaGreatDoorDeckLetZ
import Derived.Test.YtdjklnlkocconaaGreatDoorLnAZ
import Derived.Test.YtdjklnlkocconaaGreatDoorLine3Z
import Derived.Test.YtdjklnlkocconaaGreatDoorPlBZ
namespace Go.Proofs.YtdjklnlkocconaaGreatDoor
open Go Go.RowKit

theorem lineC_any (x : St) (hr : Rng x.n ∧ Rng x.d ∧ Rng x.k) : LineC x := by
  obtain ⟨kind, name, xa, xb, rule, n, d, k, snap⟩ := x
  have hrn : Hid (Rng n ∧ Rng d ∧ Rng k) := hr
  by_cases hk : kind < 1 ∨ 5 < kind
  · intro A B b acc w hw h6 hg ha hb hl
    have e : lineP ⟨kind, name, xa, xb, rule, n, d, k, snap⟩ = [] := by simp [lineP, hk]
    rw [e, List.append_nil]
    exact line_kind0 kind name xa xb rule n d k snap A B b acc w hw h6 hg ha hb hk
  · obtain rfl | rfl | rfl | rfl | rfl : kind = 1 ∨ kind = 2 ∨ kind = 3 ∨ kind = 4 ∨ kind = 5 := by omega
    · intro A B b acc w hw h6 hg ha hb hl
      refine line_input name xa xb rule n d k snap A B b acc _ w hw h6 hg ha hb hrn ?_ hl
      show _ = _
      simp [lineP, stWord, numT]
    · exact lineC_let name xa xb rule n d k snap ⟨hr.1, hr.2.2⟩
    · intro A B b acc w hw h6 hg ha hb hl
      by_cases hrl : rule < 1 ∨ 6 < rule
      · refine line_check0 name xa xb rule n d k snap A B b acc _ w hw h6 hg ha hb hrn hrl ?_ hl
        show _ = _
        simp [lineP, stWord, hrl]
      · obtain rfl | rfl | rfl | rfl | rfl | rfl : rule = 1 ∨ rule = 2 ∨ rule = 3 ∨ rule = 4 ∨ rule = 5 ∨ rule = 6 := by omega
        · refine line_check1 name xa xb n d k snap A B b acc _ w hw h6 hg ha hb hrn ?_ hl
          show _ = _
          simp [lineP, stWord, numT]
        · refine line_check2 name xa xb n d k snap A B b acc _ w hw h6 hg ha hb hrn ?_ hl
          show _ = _
          simp [lineP, stWord, numT]
        · refine line_check3 name xa xb n d k snap A B b acc _ w hw h6 hg ha hb hrn ?_ hl
          show _ = _
          simp [lineP, stWord, numT]
        · refine line_check4 name xa xb n d k snap A B b acc _ w hw h6 hg ha hb hrn ?_ hl
          show _ = _
          simp [lineP, stWord, numT]
        · refine line_check5 name xa xb n d k snap A B b acc _ w hw h6 hg ha hb hrn ?_ hl
          show _ = _
          simp [lineP, stWord, numT]
        · refine line_check6 name xa xb n d k snap A B b acc _ w hw h6 hg ha hb hrn ?_ hl
          show _ = _
          simp [lineP, stWord, numT]
    · intro A B b acc w hw h6 hg ha hb hl
      by_cases hd1 : d = 1
      · subst hd1
        refine line_small1 name xa xb rule n 1 k snap A B b acc _ w hw h6 hg ha hb hrn (by decide) ?_ hl
        show _ = _
        simp [lineP, stWord, numT]
      · refine line_small2 name xa xb rule n d k snap A B b acc _ w hw h6 hg ha hb hrn (by simpa using hd1) ?_ hl
        show _ = _
        simp [lineP, stWord, numT, hd1]
    · intro A B b acc w hw h6 hg ha hb hl
      cases snap with
      | false =>
        refine line_write1 name xa xb rule n d k false A B b acc _ w hw h6 hg ha hb hrn rfl ?_ hl
        show _ = _
        simp [lineP, stWord, numT]
      | true =>
        refine line_write2 name xa xb rule n d k true A B b acc _ w hw h6 hg ha hb hrn rfl ?_ hl
        show _ = _
        simp [lineP, stWord, numT]

/-- The numbers of a statement that is some deck's. -/
theorem fit_rng (x : St) (hx : fitB x = true) : Rng x.n ∧ Rng x.d ∧ Rng x.k := by
  unfold fitB at hx
  rw [Bool.and_eq_true] at hx
  obtain ⟨_, hx⟩ := hx
  unfold Rng
  repeat' split at hx
  all_goals try simp only [Bool.and_eq_true, layersB, decide_eq_true_eq, beq_iff_eq] at hx
  · omega
  · omega
  · omega
  · omega
  · omega
  · cases hx

theorem lineC_fit (x : St) (hx : fitB x = true) : LineC x := lineC_any x (fit_rng x hx)

end Go.Proofs.YtdjklnlkocconaaGreatDoor
