/-
  The reference's words: ruleOf, kindOf, operator, taken: the walks. Printed by wip/gen_refwords.py.
-/
import Derived.Test.YtdjklnlkocconaaGreatDoorPlainZ
import Derived.Test.YtdjklnlkocconaaGreatDoorPaBZ
namespace Go.Proofs.YtdjklnlkocconaaGreatDoor
open Go Go.RowKit

theorem bs_is {x y : List UInt8} (h : x = y) : ((bs x).toList == y) = true := by rw [bs_toList, h]; simp
theorem bs_not {x y : List UInt8} (h : ¬ x = y) : ((bs x).toList == y) = false := by rw [bs_toList, beq_eq_false_iff_ne]; exact h
def ruleV (x : List UInt8) : Int := if x = w_width then 1 else if x = w_space then 2 else if x = w_notch then 3 else if x = w_apart then 4 else if x = w_around then 5 else if x = w_over then 6 else 0
def kindV (x : List UInt8) : Int := if x = w_input then 1 else if x = w_let then 2 else if x = w_check then 3 else if x = w_small then 4 else if x = w_write then 5 else 0
def operV (x : List UInt8) : Int × Int := if x = w_and then (4, 2) else if x = w_or then (5, 1) else if x = w_not then (6, 1) else if x = w_xor then (7, 1) else (0, 0)
set_option maxHeartbeats 4000000 in
set_option maxRecDepth 100000 in
theorem ruleOf_any (x : List UInt8) (w : World) :
    Calls Tryz.prog 73 #[.string (bs x)] w fun e w' => e = .returned (.int .i64 (ruleV x)) ∧ w = w' := by
  by_cases h0 : x = w_width
  · have HV : Hid (ruleV x = 1) := by show _ = _; rw [ruleV, if_pos h0]
    have e0 : ((bs x).toList == [119, 105, 100, 116, 104]) = true := bs_is h0
    clear h0
    go_enter Tryz.func73, Tryz.ntmps73
    go_wp2
    go_ret
    exact ⟨by first | exact ret_int HV.out.symm | (rw [HV.out]; try rfl), rfl⟩
  · skip
    by_cases h1 : x = w_space
    · have HV : Hid (ruleV x = 2) := by show _ = _; rw [ruleV, if_neg h0, if_pos h1]
      have e0 : ((bs x).toList == [119, 105, 100, 116, 104]) = false := bs_not h0
      have e1 : ((bs x).toList == [115, 112, 97, 99, 101]) = true := bs_is h1
      clear h0 h1
      go_enter Tryz.func73, Tryz.ntmps73
      go_wp2
      go_ret
      exact ⟨by first | exact ret_int HV.out.symm | (rw [HV.out]; try rfl), rfl⟩
    · skip
      by_cases h2 : x = w_notch
      · have HV : Hid (ruleV x = 3) := by show _ = _; rw [ruleV, if_neg h0, if_neg h1, if_pos h2]
        have e0 : ((bs x).toList == [119, 105, 100, 116, 104]) = false := bs_not h0
        have e1 : ((bs x).toList == [115, 112, 97, 99, 101]) = false := bs_not h1
        have e2 : ((bs x).toList == [110, 111, 116, 99, 104]) = true := bs_is h2
        clear h0 h1 h2
        go_enter Tryz.func73, Tryz.ntmps73
        go_wp2
        go_ret
        exact ⟨by first | exact ret_int HV.out.symm | (rw [HV.out]; try rfl), rfl⟩
      · skip
        by_cases h3 : x = w_apart
        · have HV : Hid (ruleV x = 4) := by show _ = _; rw [ruleV, if_neg h0, if_neg h1, if_neg h2, if_pos h3]
          have e0 : ((bs x).toList == [119, 105, 100, 116, 104]) = false := bs_not h0
          have e1 : ((bs x).toList == [115, 112, 97, 99, 101]) = false := bs_not h1
          have e2 : ((bs x).toList == [110, 111, 116, 99, 104]) = false := bs_not h2
          have e3 : ((bs x).toList == [97, 112, 97, 114, 116]) = true := bs_is h3
          clear h0 h1 h2 h3
          go_enter Tryz.func73, Tryz.ntmps73
          go_wp2
          go_ret
          exact ⟨by first | exact ret_int HV.out.symm | (rw [HV.out]; try rfl), rfl⟩
        · skip
          by_cases h4 : x = w_around
          · have HV : Hid (ruleV x = 5) := by show _ = _; rw [ruleV, if_neg h0, if_neg h1, if_neg h2, if_neg h3, if_pos h4]
            have e0 : ((bs x).toList == [119, 105, 100, 116, 104]) = false := bs_not h0
            have e1 : ((bs x).toList == [115, 112, 97, 99, 101]) = false := bs_not h1
            have e2 : ((bs x).toList == [110, 111, 116, 99, 104]) = false := bs_not h2
            have e3 : ((bs x).toList == [97, 112, 97, 114, 116]) = false := bs_not h3
            have e4 : ((bs x).toList == [97, 114, 111, 117, 110, 100]) = true := bs_is h4
            clear h0 h1 h2 h3 h4
            go_enter Tryz.func73, Tryz.ntmps73
            go_wp2
            go_ret
            exact ⟨by first | exact ret_int HV.out.symm | (rw [HV.out]; try rfl), rfl⟩
          · skip
            by_cases h5 : x = w_over
            · have HV : Hid (ruleV x = 6) := by show _ = _; rw [ruleV, if_neg h0, if_neg h1, if_neg h2, if_neg h3, if_neg h4, if_pos h5]
              have e0 : ((bs x).toList == [119, 105, 100, 116, 104]) = false := bs_not h0
              have e1 : ((bs x).toList == [115, 112, 97, 99, 101]) = false := bs_not h1
              have e2 : ((bs x).toList == [110, 111, 116, 99, 104]) = false := bs_not h2
              have e3 : ((bs x).toList == [97, 112, 97, 114, 116]) = false := bs_not h3
              have e4 : ((bs x).toList == [97, 114, 111, 117, 110, 100]) = false := bs_not h4
              have e5 : ((bs x).toList == [111, 118, 101, 114]) = true := bs_is h5
              clear h0 h1 h2 h3 h4 h5
              go_enter Tryz.func73, Tryz.ntmps73
              go_wp2
              go_ret
              exact ⟨by first | exact ret_int HV.out.symm | (rw [HV.out]; try rfl), rfl⟩
            · skip
              have HV : Hid (ruleV x = 0) := by show _ = _; rw [ruleV, if_neg h0, if_neg h1, if_neg h2, if_neg h3, if_neg h4, if_neg h5]
              have e0 : ((bs x).toList == [119, 105, 100, 116, 104]) = false := bs_not h0
              have e1 : ((bs x).toList == [115, 112, 97, 99, 101]) = false := bs_not h1
              have e2 : ((bs x).toList == [110, 111, 116, 99, 104]) = false := bs_not h2
              have e3 : ((bs x).toList == [97, 112, 97, 114, 116]) = false := bs_not h3
              have e4 : ((bs x).toList == [97, 114, 111, 117, 110, 100]) = false := bs_not h4
              have e5 : ((bs x).toList == [111, 118, 101, 114]) = false := bs_not h5
              clear h0 h1 h2 h3 h4 h5
              go_enter Tryz.func73, Tryz.ntmps73
              go_wp2
              go_ret
              exact ⟨by first | exact ret_int HV.out.symm | (rw [HV.out]; try rfl), rfl⟩

set_option maxHeartbeats 4000000 in
set_option maxRecDepth 100000 in
theorem rkindOf_any (x : List UInt8) (w : World) :
    Calls Tryz.prog 113 #[.string (bs x)] w fun e w' => e = .returned (.int .i64 (kindV x)) ∧ w = w' := by
  by_cases h0 : x = w_input
  · have HV : Hid (kindV x = 1) := by show _ = _; rw [kindV, if_pos h0]
    have e0 : ((bs x).toList == [105, 110, 112, 117, 116]) = true := bs_is h0
    clear h0
    go_enter Tryz.func113, Tryz.ntmps113
    go_wp2
    go_ret
    exact ⟨by first | exact ret_int HV.out.symm | (rw [HV.out]; try rfl), rfl⟩
  · skip
    by_cases h1 : x = w_let
    · have HV : Hid (kindV x = 2) := by show _ = _; rw [kindV, if_neg h0, if_pos h1]
      have e0 : ((bs x).toList == [105, 110, 112, 117, 116]) = false := bs_not h0
      have e1 : ((bs x).toList == [108, 101, 116]) = true := bs_is h1
      clear h0 h1
      go_enter Tryz.func113, Tryz.ntmps113
      go_wp2
      go_ret
      exact ⟨by first | exact ret_int HV.out.symm | (rw [HV.out]; try rfl), rfl⟩
    · skip
      by_cases h2 : x = w_check
      · have HV : Hid (kindV x = 3) := by show _ = _; rw [kindV, if_neg h0, if_neg h1, if_pos h2]
        have e0 : ((bs x).toList == [105, 110, 112, 117, 116]) = false := bs_not h0
        have e1 : ((bs x).toList == [108, 101, 116]) = false := bs_not h1
        have e2 : ((bs x).toList == [99, 104, 101, 99, 107]) = true := bs_is h2
        clear h0 h1 h2
        go_enter Tryz.func113, Tryz.ntmps113
        go_wp2
        go_ret
        exact ⟨by first | exact ret_int HV.out.symm | (rw [HV.out]; try rfl), rfl⟩
      · skip
        by_cases h3 : x = w_small
        · have HV : Hid (kindV x = 4) := by show _ = _; rw [kindV, if_neg h0, if_neg h1, if_neg h2, if_pos h3]
          have e0 : ((bs x).toList == [105, 110, 112, 117, 116]) = false := bs_not h0
          have e1 : ((bs x).toList == [108, 101, 116]) = false := bs_not h1
          have e2 : ((bs x).toList == [99, 104, 101, 99, 107]) = false := bs_not h2
          have e3 : ((bs x).toList == [115, 109, 97, 108, 108]) = true := bs_is h3
          clear h0 h1 h2 h3
          go_enter Tryz.func113, Tryz.ntmps113
          go_wp2
          go_ret
          exact ⟨by first | exact ret_int HV.out.symm | (rw [HV.out]; try rfl), rfl⟩
        · skip
          by_cases h4 : x = w_write
          · have HV : Hid (kindV x = 5) := by show _ = _; rw [kindV, if_neg h0, if_neg h1, if_neg h2, if_neg h3, if_pos h4]
            have e0 : ((bs x).toList == [105, 110, 112, 117, 116]) = false := bs_not h0
            have e1 : ((bs x).toList == [108, 101, 116]) = false := bs_not h1
            have e2 : ((bs x).toList == [99, 104, 101, 99, 107]) = false := bs_not h2
            have e3 : ((bs x).toList == [115, 109, 97, 108, 108]) = false := bs_not h3
            have e4 : ((bs x).toList == [119, 114, 105, 116, 101]) = true := bs_is h4
            clear h0 h1 h2 h3 h4
            go_enter Tryz.func113, Tryz.ntmps113
            go_wp2
            go_ret
            exact ⟨by first | exact ret_int HV.out.symm | (rw [HV.out]; try rfl), rfl⟩
          · skip
            have HV : Hid (kindV x = 0) := by show _ = _; rw [kindV, if_neg h0, if_neg h1, if_neg h2, if_neg h3, if_neg h4]
            have e0 : ((bs x).toList == [105, 110, 112, 117, 116]) = false := bs_not h0
            have e1 : ((bs x).toList == [108, 101, 116]) = false := bs_not h1
            have e2 : ((bs x).toList == [99, 104, 101, 99, 107]) = false := bs_not h2
            have e3 : ((bs x).toList == [115, 109, 97, 108, 108]) = false := bs_not h3
            have e4 : ((bs x).toList == [119, 114, 105, 116, 101]) = false := bs_not h4
            clear h0 h1 h2 h3 h4
            go_enter Tryz.func113, Tryz.ntmps113
            go_wp2
            go_ret
            exact ⟨by first | exact ret_int HV.out.symm | (rw [HV.out]; try rfl), rfl⟩

set_option maxHeartbeats 4000000 in
set_option maxRecDepth 100000 in
theorem operator_any (x : List UInt8) (w : World) :
    Calls Tryz.prog 72 #[.string (bs x)] w fun e w' => e = .returned (.tuple #[.int .i64 (operV x).1, .int .i64 (operV x).2]) ∧ w = w' := by
  by_cases h0 : x = w_and
  · have HV : Hid (operV x = (4, 2)) := by show _ = _; rw [operV, if_pos h0]
    have e0 : ((bs x).toList == [97, 110, 100]) = true := bs_is h0
    clear h0
    go_enter Tryz.func72, Tryz.ntmps72
    go_wp2
    go_ret2
    exact ⟨by first | exact ret_int HV.out.symm | (rw [HV.out]; try rfl), rfl⟩
  · skip
    by_cases h1 : x = w_or
    · have HV : Hid (operV x = (5, 1)) := by show _ = _; rw [operV, if_neg h0, if_pos h1]
      have e0 : ((bs x).toList == [97, 110, 100]) = false := bs_not h0
      have e1 : ((bs x).toList == [111, 114]) = true := bs_is h1
      clear h0 h1
      go_enter Tryz.func72, Tryz.ntmps72
      go_wp2
      go_ret2
      exact ⟨by first | exact ret_int HV.out.symm | (rw [HV.out]; try rfl), rfl⟩
    · skip
      by_cases h2 : x = w_not
      · have HV : Hid (operV x = (6, 1)) := by show _ = _; rw [operV, if_neg h0, if_neg h1, if_pos h2]
        have e0 : ((bs x).toList == [97, 110, 100]) = false := bs_not h0
        have e1 : ((bs x).toList == [111, 114]) = false := bs_not h1
        have e2 : ((bs x).toList == [110, 111, 116]) = true := bs_is h2
        clear h0 h1 h2
        go_enter Tryz.func72, Tryz.ntmps72
        go_wp2
        go_ret2
        exact ⟨by first | exact ret_int HV.out.symm | (rw [HV.out]; try rfl), rfl⟩
      · skip
        by_cases h3 : x = w_xor
        · have HV : Hid (operV x = (7, 1)) := by show _ = _; rw [operV, if_neg h0, if_neg h1, if_neg h2, if_pos h3]
          have e0 : ((bs x).toList == [97, 110, 100]) = false := bs_not h0
          have e1 : ((bs x).toList == [111, 114]) = false := bs_not h1
          have e2 : ((bs x).toList == [110, 111, 116]) = false := bs_not h2
          have e3 : ((bs x).toList == [120, 111, 114]) = true := bs_is h3
          clear h0 h1 h2 h3
          go_enter Tryz.func72, Tryz.ntmps72
          go_wp2
          go_ret2
          exact ⟨by first | exact ret_int HV.out.symm | (rw [HV.out]; try rfl), rfl⟩
        · skip
          have HV : Hid (operV x = (0, 0)) := by show _ = _; rw [operV, if_neg h0, if_neg h1, if_neg h2, if_neg h3]
          have e0 : ((bs x).toList == [97, 110, 100]) = false := bs_not h0
          have e1 : ((bs x).toList == [111, 114]) = false := bs_not h1
          have e2 : ((bs x).toList == [110, 111, 116]) = false := bs_not h2
          have e3 : ((bs x).toList == [120, 111, 114]) = false := bs_not h3
          clear h0 h1 h2 h3
          go_enter Tryz.func72, Tryz.ntmps72
          go_wp2
          go_ret2
          exact ⟨by first | exact ret_int HV.out.symm | (rw [HV.out]; try rfl), rfl⟩

set_option maxHeartbeats 4000000 in
set_option maxRecDepth 100000 in
theorem rtaken_any (x : List UInt8) (w : World) :
    Calls Tryz.prog 88 #[.string (bs x)] w fun e w' => e = .returned (.bool (decide (0 < (operV x).1) || decide (0 < ruleV x) || decide (0 < kindV x) || (x == w_snap) || (x == w_empty) || (x == w_boxes))) ∧ w = w' := by
  obtain ⟨o, HO⟩ : ∃ o, Hid (operV x = o) := ⟨_, rfl⟩
  obtain ⟨r, HR⟩ : ∃ o, Hid (ruleV x = o) := ⟨_, rfl⟩
  obtain ⟨k, HK⟩ : ∃ o, Hid (kindV x = o) := ⟨_, rfl⟩
  obtain ⟨b1, HB1⟩ : ∃ o, Hid ((x == w_snap) = o) := ⟨_, rfl⟩
  obtain ⟨b2, HB2⟩ : ∃ o, Hid ((x == w_empty) = o) := ⟨_, rfl⟩
  obtain ⟨b3, HB3⟩ : ∃ o, Hid ((x == w_boxes) = o) := ⟨_, rfl⟩
  have hop := operator_any x
  have hru := ruleOf_any x
  have hki := rkindOf_any x
  rw [HO.out] at hop ⊢
  rw [HR.out] at hru ⊢
  rw [HK.out] at hki ⊢
  rw [HB1.out, HB2.out, HB3.out]
  have e1 : ((bs x).toList == [115, 110, 97, 112]) = b1 := by rw [bs_toList]; exact HB1.out
  have e2 : ((bs x).toList == [101, 109, 112, 116, 121]) = b2 := by rw [bs_toList]; exact HB2.out
  have e3 : ((bs x).toList == [98, 111, 120, 101, 115]) = b3 := by rw [bs_toList]; exact HB3.out
  have HOP := Lib.hid hop
  have HRU := Lib.hid hru
  have HKI := Lib.hid hki
  clear hop hru hki HO HR HK HB1 HB2 HB3
  obtain ⟨o1, o2⟩ := o
  by_cases q1 : 0 < o1
  · go_enter Tryz.func88, Tryz.ntmps88
    go_wp2_with (first
      | (go_at_call 72; refine (HOP.out _).mono ?_; rintro e w' ⟨rfl, rfl⟩)
      | (go_at_call 73; refine (HRU.out _).mono ?_; rintro e w' ⟨rfl, rfl⟩)
      | (go_at_call 113; refine (HKI.out _).mono ?_; rintro e w' ⟨rfl, rfl⟩))
    go_ret
    exact ⟨ret_bool (by simp [*]), rfl⟩
  by_cases q2 : 0 < r
  · go_enter Tryz.func88, Tryz.ntmps88
    go_wp2_with (first
      | (go_at_call 72; refine (HOP.out _).mono ?_; rintro e w' ⟨rfl, rfl⟩)
      | (go_at_call 73; refine (HRU.out _).mono ?_; rintro e w' ⟨rfl, rfl⟩)
      | (go_at_call 113; refine (HKI.out _).mono ?_; rintro e w' ⟨rfl, rfl⟩))
    go_ret
    exact ⟨ret_bool (by simp [*]), rfl⟩
  by_cases q3 : 0 < k
  · go_enter Tryz.func88, Tryz.ntmps88
    go_wp2_with (first
      | (go_at_call 72; refine (HOP.out _).mono ?_; rintro e w' ⟨rfl, rfl⟩)
      | (go_at_call 73; refine (HRU.out _).mono ?_; rintro e w' ⟨rfl, rfl⟩)
      | (go_at_call 113; refine (HKI.out _).mono ?_; rintro e w' ⟨rfl, rfl⟩))
    go_ret
    exact ⟨ret_bool (by simp [*]), rfl⟩
  cases b1 <;> cases b2 <;> cases b3
  all_goals
    go_enter Tryz.func88, Tryz.ntmps88
    go_wp2_with (first
      | (go_at_call 72; refine (HOP.out _).mono ?_; rintro e w' ⟨rfl, rfl⟩)
      | (go_at_call 73; refine (HRU.out _).mono ?_; rintro e w' ⟨rfl, rfl⟩)
      | (go_at_call 113; refine (HKI.out _).mono ?_; rintro e w' ⟨rfl, rfl⟩))
    go_ret
    exact ⟨ret_bool (by simp [*]), rfl⟩

/-- The two programs' grammars hold the same words taken. -/
theorem taken_same (x : List UInt8) : (decide (0 < (operV x).1) || decide (0 < ruleV x) || decide (0 < kindV x) || (x == w_snap) || (x == w_empty) || (x == w_boxes)) = takenL.contains x := by
  by_cases h : x ∈ takenL
  · have h2 : takenL.contains x = true := by simpa using h
    rw [h2]
    simp only [takenL, List.mem_cons, List.not_mem_nil, or_false] at h
    rcases h with rfl | rfl | rfl | rfl | rfl | rfl | rfl | rfl | rfl | rfl | rfl | rfl | rfl | rfl | rfl | rfl | rfl | rfl <;> decide
  · have h2 : takenL.contains x = false := by simpa using h
    rw [h2]
    simp only [takenL, List.mem_cons, List.not_mem_nil, or_false, not_or] at h
    simp [operV, ruleV, kindV, h]
end Go.Proofs.YtdjklnlkocconaaGreatDoor
