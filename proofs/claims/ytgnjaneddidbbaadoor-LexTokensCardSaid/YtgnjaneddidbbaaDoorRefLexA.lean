/-
  The reference's sort of a byte: the walk.
-/
import Derived.Test.YtgnjaneddidbbaaDoorLexA
namespace Go.Proofs.YtgnjaneddidbbaaDoor
open Go Go.RowKit

def sortV (c : Int) : Int := if blankB c then 0 else if smallB c then 1 else if digitB c then 2 else if c = 95 then 3 else if signB c then 4 else if c = 35 then 5 else 6

set_option maxHeartbeats 4000000 in
theorem sort_any (c : Int) (w : World) :
    Calls Tryd.prog 28 #[.int .u8 c] w fun e w' => e = .returned (.int .i64 (sortV c)) ∧ w = w' := by
  by_cases hl : c = 32 ∨ c = 9 ∨ c = 10 ∨ c = 13 ∨ c = 95 ∨ c = 40 ∨ c = 41 ∨ c = 44 ∨ c = 61 ∨ c = 47 ∨ c = 59 ∨ c = 35
  · rcases hl with rfl | rfl | rfl | rfl | rfl | rfl | rfl | rfl | rfl | rfl | rfl | rfl
    all_goals
      go_enter Tryd.func28, Tryd.ntmps28
      go_wp2
      go_ret
      exact ⟨rfl, rfl⟩
  · have e1 : (c == 32) = false := by simp; omega
    have e2 : (c == 9) = false := by simp; omega
    have e3 : (c == 10) = false := by simp; omega
    have e4 : (c == 13) = false := by simp; omega
    have e5 : (c == 95) = false := by simp; omega
    have e6 : (c == 40) = false := by simp; omega
    have e7 : (c == 41) = false := by simp; omega
    have e8 : (c == 44) = false := by simp; omega
    have e9 : (c == 61) = false := by simp; omega
    have e10 : (c == 47) = false := by simp; omega
    have e11 : (c == 59) = false := by simp; omega
    have e12 : (c == 35) = false := by simp; omega
    have hv : sortV c = if 97 ≤ c ∧ c ≤ 122 then 1 else if 48 ≤ c ∧ c ≤ 57 then 2 else 6 := by
      have h1 : blankB c = false := by simp only [blankB, decide_eq_false_iff_not]; omega
      have h2 : signB c = false := by simp only [signB, decide_eq_false_iff_not]; omega
      have h3 : c ≠ 95 := by omega
      have h4 : c ≠ 35 := by omega
      simp [sortV, h1, h2, h3, h4, smallB, digitB]
    have HV := Lib.hid hv
    clear hv hl
    by_cases h1 : 97 ≤ c
    · by_cases h2 : c ≤ 122
      all_goals
        go_enter Tryd.func28, Tryd.ntmps28
        go_wp2
        go_ret
        exact ⟨ret_int (by rw [HV.out]; (repeat' split) <;> first | rfl | (exfalso; omega)), rfl⟩
    · by_cases h2 : 48 ≤ c
      · by_cases h3 : c ≤ 57
        all_goals
          go_enter Tryd.func28, Tryd.ntmps28
          go_wp2
          go_ret
          exact ⟨ret_int (by rw [HV.out]; (repeat' split) <;> first | rfl | (exfalso; omega)), rfl⟩
      · go_enter Tryd.func28, Tryd.ntmps28
        go_wp2
        go_ret
        exact ⟨ret_int (by rw [HV.out]; (repeat' split) <;> first | rfl | (exfalso; omega)), rfl⟩

theorem sortV_word (c : Int) : wordB c = true → 1 ≤ sortV c ∧ sortV c ≤ 3 := by
  intro h
  simp only [wordB, smallB, digitB, Bool.or_eq_true, decide_eq_true_eq] at h
  have h1 : blankB c = false := by simp only [blankB, decide_eq_false_iff_not]; omega
  unfold sortV
  rw [if_neg (by rw [h1]; decide)]
  by_cases h2 : smallB c = true
  · rw [if_pos h2]; decide
  · rw [if_neg h2]
    by_cases h3 : digitB c = true
    · rw [if_pos h3]; decide
    · rw [if_neg h3]
      simp only [smallB, digitB, decide_eq_true_eq] at h2 h3
      rw [if_pos (by omega)]; decide

theorem sortV_noword (c : Int) : wordB c = false → sortV c < 1 ∨ 3 < sortV c := by
  intro h
  simp only [wordB, Bool.or_eq_false_iff, decide_eq_false_iff_not] at h
  unfold sortV
  by_cases h1 : blankB c = true
  · rw [if_pos h1]; decide
  · rw [if_neg h1, if_neg (by rw [h.1.1]; decide), if_neg (by rw [h.1.2]; decide), if_neg h.2]
    by_cases h2 : signB c = true
    · rw [if_pos h2]; decide
    · rw [if_neg h2]
      by_cases h3 : c = 35
      · rw [if_pos h3]; decide
      · rw [if_neg h3]; decide

theorem sortV_digit (c : Int) : (sortV c == 2) = digitB c := by
  cases h : digitB c
  · simp only [beq_eq_false_iff_ne, ne_eq]
    unfold sortV
    repeat' split
    all_goals simp_all
  · simp only [beq_iff_eq]
    simp only [digitB, decide_eq_true_eq] at h
    have h1 : blankB c = false := by simp only [blankB, decide_eq_false_iff_not]; omega
    have h2 : smallB c = false := by simp only [smallB, decide_eq_false_iff_not]; omega
    unfold sortV
    rw [if_neg (by rw [h1]; decide), if_neg (by rw [h2]; decide), if_pos (by simp only [digitB, decide_eq_true_eq]; omega)]
end Go.Proofs.YtgnjaneddidbbaaDoor
