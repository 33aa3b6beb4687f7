/-
  The reference's words: ruleOf, kindOf, operator, taken: the walks. Printed by wip/gen_refwords.py.
  The reference's reader: word, take: the walks.
  The reference's reader: take: the walk.
  The reference's reader: name: the walk.
  The reference's reader: number: the walk.
  The reference's reader: number at a token that is there; the reader's state, and its small functions whatever the state.
  The reference's reader: its state, and its small functions whatever the state. No walk.
-/
import Derived.Test.YtgnjaneddidbbaaDoorPlainZ
import Derived.Test.YtgnjaneddidbbaaDoorPaBZ
namespace Go.Proofs.YtgnjaneddidbbaaDoor
open Go Go.RowKit

theorem bs_is {x y : List UInt8} (h : x = y) : ((bs x).toList == y) = true := by rw [bs_toList, h]; simp
theorem bs_not {x y : List UInt8} (h : ¬ x = y) : ((bs x).toList == y) = false := by rw [bs_toList, beq_eq_false_iff_ne]; exact h
def ruleV (x : List UInt8) : Int := if x = w_width then 1 else if x = w_space then 2 else if x = w_notch then 3 else if x = w_apart then 4 else if x = w_around then 5 else if x = w_over then 6 else 0
def kindV (x : List UInt8) : Int := if x = w_input then 1 else if x = w_let then 2 else if x = w_check then 3 else if x = w_small then 4 else if x = w_write then 5 else 0
def operV (x : List UInt8) : Int × Int := if x = w_and then (4, 2) else if x = w_or then (5, 1) else if x = w_not then (6, 1) else if x = w_xor then (7, 1) else (0, 0)
set_option maxHeartbeats 4000000 in
set_option maxRecDepth 100000 in
theorem ruleOf_any (x : List UInt8) (w : World) :
    Calls Tryd.prog 62 #[.string (bs x)] w fun e w' => e = .returned (.int .i64 (ruleV x)) ∧ w = w' := by
  by_cases h0 : x = w_width
  · have HV : Hid (ruleV x = 1) := by show _ = _; rw [ruleV, if_pos h0]
    have e0 : ((bs x).toList == [119, 105, 100, 116, 104]) = true := bs_is h0
    clear h0
    go_enter Tryd.func62, Tryd.ntmps62
    go_wp2
    go_ret
    exact ⟨by first | exact ret_int HV.out.symm | (rw [HV.out]; try rfl), rfl⟩
  · skip
    by_cases h1 : x = w_space
    · have HV : Hid (ruleV x = 2) := by show _ = _; rw [ruleV, if_neg h0, if_pos h1]
      have e0 : ((bs x).toList == [119, 105, 100, 116, 104]) = false := bs_not h0
      have e1 : ((bs x).toList == [115, 112, 97, 99, 101]) = true := bs_is h1
      clear h0 h1
      go_enter Tryd.func62, Tryd.ntmps62
      go_wp2
      go_ret
      exact ⟨by first | exact ret_int HV.out.symm | (rw [HV.out]; try rfl), rfl⟩
    · skip
      by_cases h2 : x = w_notch
      · have HV : Hid (ruleV x = 3) := by show _ = _; rw [ruleV, if_neg h0, if_neg h1, if_pos h2]
        have e0 : ((bs x).toList == [119, 105, 100, 116, 104]) = false := bs_not h0
        have e1 : ((bs x).toList == [115, 112, 97, 99, 101]) = false := bs_not h1
        have e2 : ((bs x).toList == [110, 111, 116, 99, 104]) = true := bs_is h2
        clear h0 h1 h2
        go_enter Tryd.func62, Tryd.ntmps62
        go_wp2
        go_ret
        exact ⟨by first | exact ret_int HV.out.symm | (rw [HV.out]; try rfl), rfl⟩
      · skip
        by_cases h3 : x = w_apart
        · have HV : Hid (ruleV x = 4) := by show _ = _; rw [ruleV, if_neg h0, if_neg h1, if_neg h2, if_pos h3]
          have e0 : ((bs x).toList == [119, 105, 100, 116, 104]) = false := bs_not h0
          have e1 : ((bs x).toList == [115, 112, 97, 99, 101]) = false := bs_not h1
          have e2 : ((bs x).toList == [110, 111, 116, 99, 104]) = false := bs_not h2
          have e3 : ((bs x).toList == [97, 112, 97, 114, 116]) = true := bs_is h3
          clear h0 h1 h2 h3
          go_enter Tryd.func62, Tryd.ntmps62
          go_wp2
          go_ret
          exact ⟨by first | exact ret_int HV.out.symm | (rw [HV.out]; try rfl), rfl⟩
        · skip
          by_cases h4 : x = w_around
          · have HV : Hid (ruleV x = 5) := by show _ = _; rw [ruleV, if_neg h0, if_neg h1, if_neg h2, if_neg h3, if_pos h4]
            have e0 : ((bs x).toList == [119, 105, 100, 116, 104]) = false := bs_not h0
            have e1 : ((bs x).toList == [115, 112, 97, 99, 101]) = false := bs_not h1
            have e2 : ((bs x).toList == [110, 111, 116, 99, 104]) = false := bs_not h2
            have e3 : ((bs x).toList == [97, 112, 97, 114, 116]) = false := bs_not h3
            have e4 : ((bs x).toList == [97, 114, 111, 117, 110, 100]) = true := bs_is h4
            clear h0 h1 h2 h3 h4
            go_enter Tryd.func62, Tryd.ntmps62
            go_wp2
            go_ret
            exact ⟨by first | exact ret_int HV.out.symm | (rw [HV.out]; try rfl), rfl⟩
          · skip
            by_cases h5 : x = w_over
            · have HV : Hid (ruleV x = 6) := by show _ = _; rw [ruleV, if_neg h0, if_neg h1, if_neg h2, if_neg h3, if_neg h4, if_pos h5]
              have e0 : ((bs x).toList == [119, 105, 100, 116, 104]) = false := bs_not h0
              have e1 : ((bs x).toList == [115, 112, 97, 99, 101]) = false := bs_not h1
              have e2 : ((bs x).toList == [110, 111, 116, 99, 104]) = false := bs_not h2
              have e3 : ((bs x).toList == [97, 112, 97, 114, 116]) = false := bs_not h3
              have e4 : ((bs x).toList == [97, 114, 111, 117, 110, 100]) = false := bs_not h4
              have e5 : ((bs x).toList == [111, 118, 101, 114]) = true := bs_is h5
              clear h0 h1 h2 h3 h4 h5
              go_enter Tryd.func62, Tryd.ntmps62
              go_wp2
              go_ret
              exact ⟨by first | exact ret_int HV.out.symm | (rw [HV.out]; try rfl), rfl⟩
            · skip
              have HV : Hid (ruleV x = 0) := by show _ = _; rw [ruleV, if_neg h0, if_neg h1, if_neg h2, if_neg h3, if_neg h4, if_neg h5]
              have e0 : ((bs x).toList == [119, 105, 100, 116, 104]) = false := bs_not h0
              have e1 : ((bs x).toList == [115, 112, 97, 99, 101]) = false := bs_not h1
              have e2 : ((bs x).toList == [110, 111, 116, 99, 104]) = false := bs_not h2
              have e3 : ((bs x).toList == [97, 112, 97, 114, 116]) = false := bs_not h3
              have e4 : ((bs x).toList == [97, 114, 111, 117, 110, 100]) = false := bs_not h4
              have e5 : ((bs x).toList == [111, 118, 101, 114]) = false := bs_not h5
              clear h0 h1 h2 h3 h4 h5
              go_enter Tryd.func62, Tryd.ntmps62
              go_wp2
              go_ret
              exact ⟨by first | exact ret_int HV.out.symm | (rw [HV.out]; try rfl), rfl⟩

set_option maxHeartbeats 4000000 in
set_option maxRecDepth 100000 in
theorem rkindOf_any (x : List UInt8) (w : World) :
    Calls Tryd.prog 58 #[.string (bs x)] w fun e w' => e = .returned (.int .i64 (kindV x)) ∧ w = w' := by
  by_cases h0 : x = w_input
  · have HV : Hid (kindV x = 1) := by show _ = _; rw [kindV, if_pos h0]
    have e0 : ((bs x).toList == [105, 110, 112, 117, 116]) = true := bs_is h0
    clear h0
    go_enter Tryd.func58, Tryd.ntmps58
    go_wp2
    go_ret
    exact ⟨by first | exact ret_int HV.out.symm | (rw [HV.out]; try rfl), rfl⟩
  · skip
    by_cases h1 : x = w_let
    · have HV : Hid (kindV x = 2) := by show _ = _; rw [kindV, if_neg h0, if_pos h1]
      have e0 : ((bs x).toList == [105, 110, 112, 117, 116]) = false := bs_not h0
      have e1 : ((bs x).toList == [108, 101, 116]) = true := bs_is h1
      clear h0 h1
      go_enter Tryd.func58, Tryd.ntmps58
      go_wp2
      go_ret
      exact ⟨by first | exact ret_int HV.out.symm | (rw [HV.out]; try rfl), rfl⟩
    · skip
      by_cases h2 : x = w_check
      · have HV : Hid (kindV x = 3) := by show _ = _; rw [kindV, if_neg h0, if_neg h1, if_pos h2]
        have e0 : ((bs x).toList == [105, 110, 112, 117, 116]) = false := bs_not h0
        have e1 : ((bs x).toList == [108, 101, 116]) = false := bs_not h1
        have e2 : ((bs x).toList == [99, 104, 101, 99, 107]) = true := bs_is h2
        clear h0 h1 h2
        go_enter Tryd.func58, Tryd.ntmps58
        go_wp2
        go_ret
        exact ⟨by first | exact ret_int HV.out.symm | (rw [HV.out]; try rfl), rfl⟩
      · skip
        by_cases h3 : x = w_small
        · have HV : Hid (kindV x = 4) := by show _ = _; rw [kindV, if_neg h0, if_neg h1, if_neg h2, if_pos h3]
          have e0 : ((bs x).toList == [105, 110, 112, 117, 116]) = false := bs_not h0
          have e1 : ((bs x).toList == [108, 101, 116]) = false := bs_not h1
          have e2 : ((bs x).toList == [99, 104, 101, 99, 107]) = false := bs_not h2
          have e3 : ((bs x).toList == [115, 109, 97, 108, 108]) = true := bs_is h3
          clear h0 h1 h2 h3
          go_enter Tryd.func58, Tryd.ntmps58
          go_wp2
          go_ret
          exact ⟨by first | exact ret_int HV.out.symm | (rw [HV.out]; try rfl), rfl⟩
        · skip
          by_cases h4 : x = w_write
          · have HV : Hid (kindV x = 5) := by show _ = _; rw [kindV, if_neg h0, if_neg h1, if_neg h2, if_neg h3, if_pos h4]
            have e0 : ((bs x).toList == [105, 110, 112, 117, 116]) = false := bs_not h0
            have e1 : ((bs x).toList == [108, 101, 116]) = false := bs_not h1
            have e2 : ((bs x).toList == [99, 104, 101, 99, 107]) = false := bs_not h2
            have e3 : ((bs x).toList == [115, 109, 97, 108, 108]) = false := bs_not h3
            have e4 : ((bs x).toList == [119, 114, 105, 116, 101]) = true := bs_is h4
            clear h0 h1 h2 h3 h4
            go_enter Tryd.func58, Tryd.ntmps58
            go_wp2
            go_ret
            exact ⟨by first | exact ret_int HV.out.symm | (rw [HV.out]; try rfl), rfl⟩
          · skip
            have HV : Hid (kindV x = 0) := by show _ = _; rw [kindV, if_neg h0, if_neg h1, if_neg h2, if_neg h3, if_neg h4]
            have e0 : ((bs x).toList == [105, 110, 112, 117, 116]) = false := bs_not h0
            have e1 : ((bs x).toList == [108, 101, 116]) = false := bs_not h1
            have e2 : ((bs x).toList == [99, 104, 101, 99, 107]) = false := bs_not h2
            have e3 : ((bs x).toList == [115, 109, 97, 108, 108]) = false := bs_not h3
            have e4 : ((bs x).toList == [119, 114, 105, 116, 101]) = false := bs_not h4
            clear h0 h1 h2 h3 h4
            go_enter Tryd.func58, Tryd.ntmps58
            go_wp2
            go_ret
            exact ⟨by first | exact ret_int HV.out.symm | (rw [HV.out]; try rfl), rfl⟩

set_option maxHeartbeats 4000000 in
set_option maxRecDepth 100000 in
theorem operator_any (x : List UInt8) (w : World) :
    Calls Tryd.prog 72 #[.string (bs x)] w fun e w' => e = .returned (.tuple #[.int .i64 (operV x).1, .int .i64 (operV x).2]) ∧ w = w' := by
  by_cases h0 : x = w_and
  · have HV : Hid (operV x = (4, 2)) := by show _ = _; rw [operV, if_pos h0]
    have e0 : ((bs x).toList == [97, 110, 100]) = true := bs_is h0
    clear h0
    go_enter Tryd.func72, Tryd.ntmps72
    go_wp2
    go_ret2
    exact ⟨by first | exact ret_int HV.out.symm | (rw [HV.out]; try rfl), rfl⟩
  · skip
    by_cases h1 : x = w_or
    · have HV : Hid (operV x = (5, 1)) := by show _ = _; rw [operV, if_neg h0, if_pos h1]
      have e0 : ((bs x).toList == [97, 110, 100]) = false := bs_not h0
      have e1 : ((bs x).toList == [111, 114]) = true := bs_is h1
      clear h0 h1
      go_enter Tryd.func72, Tryd.ntmps72
      go_wp2
      go_ret2
      exact ⟨by first | exact ret_int HV.out.symm | (rw [HV.out]; try rfl), rfl⟩
    · skip
      by_cases h2 : x = w_not
      · have HV : Hid (operV x = (6, 1)) := by show _ = _; rw [operV, if_neg h0, if_neg h1, if_pos h2]
        have e0 : ((bs x).toList == [97, 110, 100]) = false := bs_not h0
        have e1 : ((bs x).toList == [111, 114]) = false := bs_not h1
        have e2 : ((bs x).toList == [110, 111, 116]) = true := bs_is h2
        clear h0 h1 h2
        go_enter Tryd.func72, Tryd.ntmps72
        go_wp2
        go_ret2
        exact ⟨by first | exact ret_int HV.out.symm | (rw [HV.out]; try rfl), rfl⟩
      · skip
        by_cases h3 : x = w_xor
        · have HV : Hid (operV x = (7, 1)) := by show _ = _; rw [operV, if_neg h0, if_neg h1, if_neg h2, if_pos h3]
          have e0 : ((bs x).toList == [97, 110, 100]) = false := bs_not h0
          have e1 : ((bs x).toList == [111, 114]) = false := bs_not h1
          have e2 : ((bs x).toList == [110, 111, 116]) = false := bs_not h2
          have e3 : ((bs x).toList == [120, 111, 114]) = true := bs_is h3
          clear h0 h1 h2 h3
          go_enter Tryd.func72, Tryd.ntmps72
          go_wp2
          go_ret2
          exact ⟨by first | exact ret_int HV.out.symm | (rw [HV.out]; try rfl), rfl⟩
        · skip
          have HV : Hid (operV x = (0, 0)) := by show _ = _; rw [operV, if_neg h0, if_neg h1, if_neg h2, if_neg h3]
          have e0 : ((bs x).toList == [97, 110, 100]) = false := bs_not h0
          have e1 : ((bs x).toList == [111, 114]) = false := bs_not h1
          have e2 : ((bs x).toList == [110, 111, 116]) = false := bs_not h2
          have e3 : ((bs x).toList == [120, 111, 114]) = false := bs_not h3
          clear h0 h1 h2 h3
          go_enter Tryd.func72, Tryd.ntmps72
          go_wp2
          go_ret2
          exact ⟨by first | exact ret_int HV.out.symm | (rw [HV.out]; try rfl), rfl⟩

set_option maxHeartbeats 4000000 in
set_option maxRecDepth 100000 in
theorem rtaken_any (x : List UInt8) (w : World) :
    Calls Tryd.prog 84 #[.string (bs x)] w fun e w' => e = .returned (.bool (decide (0 < (operV x).1) || decide (0 < ruleV x) || decide (0 < kindV x) || (x == w_snap) || (x == w_empty) || (x == w_boxes))) ∧ w = w' := by
  obtain ⟨o, HO⟩ : ∃ o, Hid (operV x = o) := ⟨_, rfl⟩
  obtain ⟨r, HR⟩ : ∃ o, Hid (ruleV x = o) := ⟨_, rfl⟩
  obtain ⟨k, HK⟩ : ∃ o, Hid (kindV x = o) := ⟨_, rfl⟩
  obtain ⟨b1, HB1⟩ : ∃ o, Hid ((x == w_snap) = o) := ⟨_, rfl⟩
  obtain ⟨b2, HB2⟩ : ∃ o, Hid ((x == w_empty) = o) := ⟨_, rfl⟩
  obtain ⟨b3, HB3⟩ : ∃ o, Hid ((x == w_boxes) = o) := ⟨_, rfl⟩
  have hop := operator_any x
  have hru := ruleOf_any x
  have hki := rkindOf_any x
  rw [HO.out] at hop ⊢
  rw [HR.out] at hru ⊢
  rw [HK.out] at hki ⊢
  rw [HB1.out, HB2.out, HB3.out]
  have e1 : ((bs x).toList == [115, 110, 97, 112]) = b1 := by rw [bs_toList]; exact HB1.out
  have e2 : ((bs x).toList == [101, 109, 112, 116, 121]) = b2 := by rw [bs_toList]; exact HB2.out
  have e3 : ((bs x).toList == [98, 111, 120, 101, 115]) = b3 := by rw [bs_toList]; exact HB3.out
  have HOP := Lib.hid hop
  have HRU := Lib.hid hru
  have HKI := Lib.hid hki
  clear hop hru hki HO HR HK HB1 HB2 HB3
  obtain ⟨o1, o2⟩ := o
  by_cases q1 : 0 < o1
  · go_enter Tryd.func84, Tryd.ntmps84
    go_wp2_with (first
      | (go_at_call 72; refine (HOP.out _).mono ?_; rintro e w' ⟨rfl, rfl⟩)
      | (go_at_call 62; refine (HRU.out _).mono ?_; rintro e w' ⟨rfl, rfl⟩)
      | (go_at_call 58; refine (HKI.out _).mono ?_; rintro e w' ⟨rfl, rfl⟩))
    go_ret
    exact ⟨ret_bool (by simp [*]), rfl⟩
  by_cases q2 : 0 < r
  · go_enter Tryd.func84, Tryd.ntmps84
    go_wp2_with (first
      | (go_at_call 72; refine (HOP.out _).mono ?_; rintro e w' ⟨rfl, rfl⟩)
      | (go_at_call 62; refine (HRU.out _).mono ?_; rintro e w' ⟨rfl, rfl⟩)
      | (go_at_call 58; refine (HKI.out _).mono ?_; rintro e w' ⟨rfl, rfl⟩))
    go_ret
    exact ⟨ret_bool (by simp [*]), rfl⟩
  by_cases q3 : 0 < k
  · go_enter Tryd.func84, Tryd.ntmps84
    go_wp2_with (first
      | (go_at_call 72; refine (HOP.out _).mono ?_; rintro e w' ⟨rfl, rfl⟩)
      | (go_at_call 62; refine (HRU.out _).mono ?_; rintro e w' ⟨rfl, rfl⟩)
      | (go_at_call 58; refine (HKI.out _).mono ?_; rintro e w' ⟨rfl, rfl⟩))
    go_ret
    exact ⟨ret_bool (by simp [*]), rfl⟩
  cases b1 <;> cases b2 <;> cases b3
  all_goals
    go_enter Tryd.func84, Tryd.ntmps84
    go_wp2_with (first
      | (go_at_call 72; refine (HOP.out _).mono ?_; rintro e w' ⟨rfl, rfl⟩)
      | (go_at_call 62; refine (HRU.out _).mono ?_; rintro e w' ⟨rfl, rfl⟩)
      | (go_at_call 58; refine (HKI.out _).mono ?_; rintro e w' ⟨rfl, rfl⟩))
    go_ret
    exact ⟨ret_bool (by simp [*]), rfl⟩

/-- The two programs' grammars hold the same words taken. -/
theorem taken_same (x : List UInt8) : (decide (0 < (operV x).1) || decide (0 < ruleV x) || decide (0 < kindV x) || (x == w_snap) || (x == w_empty) || (x == w_boxes)) = takenL.contains x := by
  by_cases h : x ∈ takenL
  · have h2 : takenL.contains x = true := by simpa using h
    rw [h2]
    simp only [takenL, List.mem_cons, List.not_mem_nil, or_false] at h
    rcases h with rfl | rfl | rfl | rfl | rfl | rfl | rfl | rfl | rfl | rfl | rfl | rfl | rfl | rfl | rfl | rfl | rfl | rfl <;> decide
  · have h2 : takenL.contains x = false := by simpa using h
    rw [h2]
    simp only [takenL, List.mem_cons, List.not_mem_nil, or_false, not_or] at h
    simp [operV, ruleV, kindV, h]
end Go.Proofs.YtgnjaneddidbbaaDoor

namespace Go.Proofs.YtgnjaneddidbbaaDoor
open Go Go.RowKit

/-- The reader's own cells: the row, the place, did it meet a token that does not fit. -/
def RS (w : World) (b : Nat) (lv : Value) (k : Int) (bad : Bool) : Prop :=
  w.heap[b]? = some (.cells #[lv, .int .i64 k, .bool bad] 77 (0, 0))

theorem RS.cells {w : World} {b : Nat} {lv : Value} {k : Int} {bad : Bool} (h : RS w b lv k bad) : w.cell? ⟨b, 0, none⟩ = some lv ∧ w.cell? ⟨b, 1, none⟩ = some (.int .i64 k) ∧ w.cell? ⟨b, 2, none⟩ = some (.bool bad) ∧
    w.frozen? ⟨b, 1, none⟩ = false ∧ w.frozen? ⟨b, 2, none⟩ = false := by
  unfold RS at h
  refine ⟨?_, ?_, ?_, ?_, ?_⟩ <;> simp [World.cell?, World.frozen?, h]

/-- The next token's text, if it is a word or a sign and nothing went wrong. -/
def wordR (ts : List Tok) (k : Nat) (bad : Bool) : List UInt8 :=
  if bad then [] else match ts[k]? with | some t => if t.kind = 2 then [] else t.text | none => []

set_option maxHeartbeats 1000000 in
set_option maxRecDepth 100000 in
theorem word_bad (b : Nat) (k : Int) (lv : Value) (w : World) (hs : RS w b lv k true) :
    Calls Tryd.prog 59 #[.pointer (some ⟨b, 0, none⟩)] w fun e w' => e = .returned (.string (bs [])) ∧ ∃ q, w' = w.drewN q := by
  obtain ⟨c0, c1, c2, _, _⟩ := hs.cells
  clear hs
  go_enter Tryd.func59, Tryd.ntmps59
  go_wp2_with fail
  go_quiet (fail)
  go_wp2
  go_ret
  exact ⟨rfl, _, rfl⟩

set_option maxHeartbeats 1000000 in
set_option maxRecDepth 100000 in
theorem word_out (b n cap k : Nat) (a : Option Addr) (w : World) (hs : RS w b (.slice a n cap) k false) (hk : n ≤ k) :
    Calls Tryd.prog 59 #[.pointer (some ⟨b, 0, none⟩)] w fun e w' => e = .returned (.string (bs [])) ∧ ∃ q, w' = w.drewN q := by
  obtain ⟨c0, c1, c2, _, _⟩ := hs.cells
  have hd1 : decide (n ≤ k) = true := by simp; omega
  have hd2 : decide ((n : Int) ≤ (k : Int)) = true := by simp; omega
  clear hs
  go_enter Tryd.func59, Tryd.ntmps59
  go_wp2_with fail
  go_quiet (fail)
  go_wp2
  go_ret
  exact ⟨rfl, _, rfl⟩

set_option maxHeartbeats 1000000 in
set_option maxRecDepth 100000 in
theorem word_in (b g n cap k : Nat) (t : Tok) (w : World) (hs : RS w b (.slice (some ⟨g, 0, none⟩) n cap) k false) (hk : k < n)
    (h0 : w.cell? ⟨g, k * 4, none⟩ = some (.int .i64 t.kind)) (h1 : w.cell? ⟨g, k * 4 + 1, none⟩ = some (.string (bs t.text))) :
    Calls Tryd.prog 59 #[.pointer (some ⟨b, 0, none⟩)] w fun e w' => e = .returned (.string (bs (if t.kind = 2 then [] else t.text))) ∧ ∃ q, w' = w.drewN q := by
  obtain ⟨c0, c1, c2, _, _⟩ := hs.cells
  have hd1 : decide (n ≤ k) = false := by simp; omega
  have hd2 : decide ((n : Int) ≤ (k : Int)) = false := by simp; omega
  clear hs
  by_cases h2 : t.kind = 2
  · have e2 : (t.kind == 2) = true := by simp [h2]
    rw [if_pos h2]
    clear h2
    go_enter Tryd.func59, Tryd.ntmps59
    go_wp2_with fail
    go_quiet (fail)
    go_wp2
    go_ret
    exact ⟨rfl, _, rfl⟩
  · have e2 : (t.kind == 2) = false := by simp [h2]
    rw [if_neg h2]
    clear h2
    go_enter Tryd.func59, Tryd.ntmps59
    go_wp2_with fail
    go_quiet (fail)
    go_wp2
    go_quiet (fail)
    go_wp2
    go_ret
    exact ⟨rfl, _, World.drewN_drewN ..⟩

theorem word_any (b k : Nat) (lv : Value) (ts : List Tok) (bad : Bool) (w : World) (hs : RS w b lv k bad) (hr : TokRow w lv ts) :
    Calls Tryd.prog 59 #[.pointer (some ⟨b, 0, none⟩)] w fun e w' => e = .returned (.string (bs (wordR ts k bad))) ∧ ∃ q, w' = w.drewN q := by
  obtain ⟨_, a, cap, rfl, h⟩ := hr
  cases bad
  · unfold wordR
    rw [if_neg (by simp)]
    by_cases hk : k < ts.length
    · rcases h with rfl | ⟨g, rfl, _, hc⟩
      · simp at hk
      · have ht : ts[k]? = some ts[k] := List.getElem?_eq_getElem hk
        rw [ht]
        exact word_in b g ts.length cap k ts[k] w hs hk (hc _ _ (tok_cell ts k _ 0 _ ht rfl)) (hc _ _ (tok_cell ts k _ 1 _ ht rfl))
    · rw [List.getElem?_eq_none (by omega)]
      exact word_out b ts.length cap k a w hs (by omega)
  · exact word_bad b k _ w hs

theorem RS.set {w : World} {b : Nat} {lv : Value} {k : Int} {bad : Bool} (h : RS w b lv k bad) (k' : Int) : RS (w.setCell ⟨b, 1, none⟩ (.int .i64 k')) b lv k' bad := by
  unfold RS at h ⊢
  simp [World.setCell, Array.getElem?_modify, h]
theorem RS.fail {w : World} {b : Nat} {lv : Value} {k : Int} {bad : Bool} (h : RS w b lv k bad) : RS (w.setCell ⟨b, 2, none⟩ (.bool true)) b lv k true := by
  unfold RS at h ⊢
  simp [World.setCell, Array.getElem?_modify, h]
end Go.Proofs.YtgnjaneddidbbaaDoor

namespace Go.Proofs.YtgnjaneddidbbaaDoor
open Go Go.RowKit

set_option maxHeartbeats 1000000 in
set_option maxRecDepth 100000 in
theorem rtake_yes (b k : Nat) (lv : Value) (ts : List Tok) (x : List UInt8) (w : World) (hs : RS w b lv k false) (hr : TokRow w lv ts) (hk : k < ts.length) (hx : wordR ts k false = x) :
    Calls Tryd.prog 61 #[.pointer (some ⟨b, 0, none⟩), .string (bs x)] w fun e w' => e = .returned (.tuple #[]) ∧ ∃ q, w' = (w.setCell ⟨b, 1, none⟩ (.int .i64 ((k : Int) + 1))).drewN q := by
  have hw : Calls Tryd.prog 59 #[.pointer (some ⟨b, 0, none⟩)] w fun e w' => e = .returned (.string (bs x)) ∧ ∃ q, w' = w.drewN q := by
    have := word_any b k lv ts false w hs hr
    rwa [hx] at this
  have HW := Lib.hid hw
  have e1 : ((bs x).toList == (bs x).toList) = true := by simp
  obtain ⟨c0, c1, c2, f1, f2⟩ := hs.cells
  have hn := hr.1
  clear hs hr hw hx
  go_enter Tryd.func61, Tryd.ntmps61
  go_wp2_with (go_at_call 59; refine HW.out.mono ?_; rintro e w' ⟨rfl, q, rfl⟩)
  go_end0
  exact ⟨rfl, q, rfl⟩

set_option maxHeartbeats 1000000 in
set_option maxRecDepth 100000 in
theorem rtake_no (b k : Nat) (lv : Value) (ts : List Tok) (bad : Bool) (x : List UInt8) (w : World) (hs : RS w b lv k bad) (hr : TokRow w lv ts) (hx : wordR ts k bad ≠ x) :
    Calls Tryd.prog 61 #[.pointer (some ⟨b, 0, none⟩), .string (bs x)] w fun e w' => e = .returned (.tuple #[]) ∧ ∃ q, w' = (w.setCell ⟨b, 2, none⟩ (.bool true)).drewN q := by
  have HW := Lib.hid (word_any b k lv ts bad w hs hr)
  generalize wordR ts k bad = y at *
  have e1 : ((bs y).toList == (bs x).toList) = false := by rw [bs_toList, bs_toList, beq_eq_false_iff_ne]; exact hx
  obtain ⟨c0, c1, c2, f1, f2⟩ := hs.cells
  have hsh : w.heap[b]? = some (.cells #[lv, .int .i64 k, .bool bad] 77 (0, 0)) := hs
  have c3 : (w.setCell ⟨b, 2, none⟩ (.bool true)).cell? ⟨b, 2, none⟩ = some (.bool true) := by simp [World.cell?, World.setCell, Array.getElem?_modify, hsh]
  clear hs hr hx hsh
  go_enter Tryd.func61, Tryd.ntmps61
  go_wp2_with (go_at_call 59; refine HW.out.mono ?_; rintro e w' ⟨rfl, q, rfl⟩)
  go_end0
  exact ⟨rfl, q, rfl⟩
end Go.Proofs.YtgnjaneddidbbaaDoor

namespace Go.Proofs.YtgnjaneddidbbaaDoor
open Go Go.RowKit

theorem rtaken_is (x : List UInt8) (τ : Bool) (h : takenL.contains x = τ) (w : World) :
    Calls Tryd.prog 84 #[.string (bs x)] w fun e w' => e = .returned (.bool τ) ∧ w' = w := by
  have := rtaken_any x w
  rw [taken_same, h] at this
  exact this.mono fun e w' ⟨h1, h2⟩ => ⟨h1, h2.symm⟩

set_option maxHeartbeats 1000000 in
set_option maxRecDepth 100000 in
theorem rname_none (b k : Nat) (lv : Value) (ts : List Tok) (bad : Bool) (w : World) (hs : RS w b lv k bad) (hr : TokRow w lv ts) (hx : wordR ts k bad = []) :
    Calls Tryd.prog 60 #[.pointer (some ⟨b, 0, none⟩)] w fun e w' => e = .returned (.string (bs [])) ∧ ∃ q, w' = (w.setCell ⟨b, 2, none⟩ (.bool true)).drewN q := by
  have hw := word_any b k lv ts bad w hs hr
  rw [hx] at hw
  have HW := Lib.hid hw
  have e1 : ((bs []).toList == []) = true := bs_is rfl
  obtain ⟨c0, c1, c2, f1, f2⟩ := hs.cells
  clear hs hr hx hw
  go_enter Tryd.func60, Tryd.ntmps60
  go_wp2_with (go_at_call 59; refine HW.out.mono ?_; rintro e w' ⟨rfl, q, rfl⟩)
  go_quiet (fail)
  go_wp2
  go_ret
  exact ⟨rfl, _, rfl⟩

set_option maxHeartbeats 1000000 in
set_option maxRecDepth 100000 in
theorem rname_in (b g n cap k : Nat) (t : Tok) (κ τ : Bool) (w : World) (hs : RS w b (.slice (some ⟨g, 0, none⟩) n cap) k false) (hk : k < n) (hn : n ≤ 9223372036854775807)
    (hword : Hid (Calls Tryd.prog 59 #[.pointer (some ⟨b, 0, none⟩)] w fun e w' => e = .returned (.string (bs t.text)) ∧ ∃ q, w' = w.drewN q))
    (h0 : w.cell? ⟨g, k * 4, none⟩ = some (.int .i64 t.kind)) (e1 : ((bs t.text).toList == []) = false) (hκ : (t.kind != 1) = !κ) (hτ : Hid (takenL.contains t.text = τ)) :
    Calls Tryd.prog 60 #[.pointer (some ⟨b, 0, none⟩)] w fun e w' => if (κ && !τ) = true then e = .returned (.string (bs t.text)) ∧ ∃ q, w' = (w.setCell ⟨b, 1, none⟩ (.int .i64 ((k : Int) + 1))).drewN q
      else e = .returned (.string (bs [])) ∧ ∃ q, w' = (w.setCell ⟨b, 2, none⟩ (.bool true)).drewN q := by
  obtain ⟨c0, c1, c2, f1, f2⟩ := hs.cells
  have HT := Lib.hid (rtaken_is t.text τ hτ.out)
  have hd1 : decide (k < n) = true := by simp; omega
  have hd2 : decide ((k : Int) < (n : Int)) = true := by simp; omega
  clear hs hτ
  cases κ <;> cases τ <;> simp only [Bool.not_true, Bool.not_false] at hκ
  all_goals
    go_enter Tryd.func60, Tryd.ntmps60
    go_wp2_with (go_at_call 59; refine hword.out.mono ?_; rintro e w' ⟨rfl, q, rfl⟩)
    go_quiet ((go_at_call 84; refine (HT.out _).mono ?_; rintro e w' ⟨rfl, rfl⟩; exact ⟨rfl, _, rfl⟩))
    go_wp2
    go_ret
    exact ⟨rfl, _, rfl⟩
end Go.Proofs.YtgnjaneddidbbaaDoor

namespace Go.Proofs.YtgnjaneddidbbaaDoor
open Go Go.RowKit

set_option maxHeartbeats 1000000 in
set_option maxRecDepth 100000 in
theorem rnumber_bad (b : Nat) (k lo hi : Int) (lv : Value) (w : World) (hs : RS w b lv k true) :
    Calls Tryd.prog 64 #[.pointer (some ⟨b, 0, none⟩), .int .i64 lo, .int .i64 hi] w fun e w' => e = .returned (.int .i64 0) ∧ ∃ q, w' = (w.setCell ⟨b, 2, none⟩ (.bool true)).drewN q := by
  obtain ⟨c0, c1, c2, f1, f2⟩ := hs.cells
  clear hs
  go_enter Tryd.func64, Tryd.ntmps64
  go_wp2_with fail
  go_quiet (fail)
  go_wp2
  go_ret
  exact ⟨rfl, _, rfl⟩

set_option maxHeartbeats 1000000 in
set_option maxRecDepth 100000 in
theorem rnumber_out (b n cap k : Nat) (lo hi : Int) (a : Option Addr) (w : World) (hs : RS w b (.slice a n cap) k false) (hk : n ≤ k) :
    Calls Tryd.prog 64 #[.pointer (some ⟨b, 0, none⟩), .int .i64 lo, .int .i64 hi] w fun e w' => e = .returned (.int .i64 0) ∧ ∃ q, w' = (w.setCell ⟨b, 2, none⟩ (.bool true)).drewN q := by
  obtain ⟨c0, c1, c2, f1, f2⟩ := hs.cells
  have hd1 : decide (n ≤ k) = true := by simp; omega
  have hd2 : decide ((n : Int) ≤ (k : Int)) = true := by simp; omega
  clear hs
  go_enter Tryd.func64, Tryd.ntmps64
  go_wp2_with fail
  go_quiet (fail)
  go_wp2
  go_ret
  exact ⟨rfl, _, rfl⟩
end Go.Proofs.YtgnjaneddidbbaaDoor

namespace Go.Proofs.YtgnjaneddidbbaaDoor
open Go Go.RowKit

set_option maxHeartbeats 1000000 in
set_option maxRecDepth 100000 in
theorem rnumber_in (b g n cap k : Nat) (lo hi : Int) (t : Tok) (κ β γ : Bool) (w : World) (hs : RS w b (.slice (some ⟨g, 0, none⟩) n cap) k false) (hk : k < n) (hn : n ≤ 9223372036854775807) (hgb : g ≠ b)
    (h0 : w.cell? ⟨g, k * 4, none⟩ = some (.int .i64 t.kind)) (h2 : w.cell? ⟨g, k * 4 + 2, none⟩ = some (.int .i64 t.num)) (hκ : (t.kind != 2) = !κ) (hβ : decide (t.num < lo) = !β) (hγ : decide (hi < t.num) = !γ) :
    Calls Tryd.prog 64 #[.pointer (some ⟨b, 0, none⟩), .int .i64 lo, .int .i64 hi] w fun e w' => if (κ && β && γ) = true then e = .returned (.int .i64 t.num) ∧ ∃ q, w' = (w.setCell ⟨b, 1, none⟩ (.int .i64 ((k : Int) + 1))).drewN q
      else e = .returned (.int .i64 0) ∧ ∃ q, w' = (w.setCell ⟨b, 2, none⟩ (.bool true)).drewN q := by
  obtain ⟨c0, c1, c2, f1, f2⟩ := hs.cells
  have hd1 : decide (n ≤ k) = false := by simp; omega
  have hd2 : decide ((n : Int) ≤ (k : Int)) = false := by simp; omega
  have hd3 : decide (k < n) = true := by simp; omega
  have hd4 : decide ((k : Int) < (n : Int)) = true := by simp; omega
  have hsh : w.heap[b]? = some (.cells #[.slice (some ⟨g, 0, none⟩) n cap, .int .i64 k, .bool false] 77 (0, 0)) := hs
  have d0 : (w.setCell ⟨b, 1, none⟩ (.int .i64 ((k : Int) + 1))).cell? ⟨b, 0, none⟩ = some (.slice (some ⟨g, 0, none⟩) n cap) := by simp [World.cell?, World.setCell, Array.getElem?_modify, hsh]
  have d1 : (w.setCell ⟨b, 1, none⟩ (.int .i64 ((k : Int) + 1))).cell? ⟨b, 1, none⟩ = some (.int .i64 ((k : Int) + 1)) := by simp [World.cell?, World.setCell, Array.getElem?_modify, hsh]
  have d2 : (w.setCell ⟨b, 1, none⟩ (.int .i64 ((k : Int) + 1))).cell? ⟨g, k * 4 + 2, none⟩ = some (.int .i64 t.num) := by
    exact (grown_setCell w ⟨b, 1, none⟩ _).cell h2 (by intro e; exact hgb (Option.some.inj e))
  clear hs hsh
  cases κ <;> cases β <;> cases γ <;> simp only [Bool.not_true, Bool.not_false] at hκ hβ hγ
  all_goals
    go_enter Tryd.func64, Tryd.ntmps64
    go_wp2_with fail
    go_quiet (fail)
    go_wp2
    first
      | (go_ret; exact ⟨rfl, _, rfl⟩)
      | (go_quiet (fail); go_wp2; go_ret; exact ⟨rfl, _, World.drewN_drewN (w.setCell ⟨b, 1, none⟩ (.int .i64 ((k : Int) + 1))) _ _⟩)
end Go.Proofs.YtgnjaneddidbbaaDoor

namespace Go.Proofs.YtgnjaneddidbbaaDoor
open Go Go.RowKit

/-- The reader at work: its block, the row of tokens, which of them are left, and did it meet one that does not fit. -/
structure RW (w : World) (b : Nat) (lv : Value) (ts r : List Tok) (bad : Bool) : Prop where
  rs : RS w b lv ((ts.length - r.length : Nat) : Int) bad
  row : TokRow w lv ts
  off : Off lv b
  rest : ts.drop (ts.length - r.length) = r
  ne : ∀ t ∈ ts, t.text ≠ []

/-- .. behind a reading. -/
def RP {α : Type} (w : World) (b : Nat) (lv : Value) (ts : List Tok) (p : PR α) : Prop :=
  match p with
  | .ok (_, r) => RW w b lv ts r false
  | .error r => RW w b lv ts r true

section
variable {w w' : World} {b : Nat} {lv : Value} {ts r r' : List Tok} {bad bad' : Bool}
theorem RS.lt {k : Int} (h : RS w b lv k bad) : b < w.heap.size := by
  unfold RS at h
  rcases Nat.lt_or_ge b w.heap.size with h' | h'
  · exact h'
  · simp [Array.getElem?_eq_none h'] at h
theorem RW.lt (h : RW w b lv ts r bad) : b < w.heap.size := h.rs.lt
theorem RW.grown (h : RW w b lv ts r bad) (hg : w.grownBy w' none) : RW w' b lv ts r bad := by
  have hg' : w.grownBy w' (some b) := ⟨hg.os, hg.tape, hg.output, hg.size, fun k hk _ => hg.block k hk (by simp)⟩
  exact ⟨(hg.block b h.lt (by simp)).trans h.rs, h.row.grown h.off hg', h.off, h.rest, h.ne⟩
theorem RW.other {c : Nat} (h : RW w b lv ts r bad) (hg : w.grownBy w' (some c)) (hc : b < c) : RW w' b lv ts r bad :=
  ⟨(hg.block b h.lt (by intro e; have := Option.some.inj e; omega)).trans h.rs, h.row.grown (h.off.mono (Nat.le_of_lt hc)) hg, h.off, h.rest, h.ne⟩
theorem RW.moved (h : RW w b lv ts r bad) (hg : w.grownBy w' (some b)) (hp : RS w' b lv ((ts.length - r'.length : Nat) : Int) bad') (hr : ts.drop (ts.length - r'.length) = r') : RW w' b lv ts r' bad' :=
  ⟨hp, h.row.grown h.off hg, h.off, hr, h.ne⟩
theorem RW.tail {t : Tok} (h : RW w b lv ts (t :: r) bad) (hg : w.grownBy w' (some b)) (hp : RS w' b lv (((ts.length - (t :: r).length : Nat) : Int) + 1) bad') : RW w' b lv ts r bad' := by
  obtain ⟨h1, h2, h3, h4⟩ := rest_cons h.rest
  refine h.moved hg ?_ h1
  rw [← h3]
  exact hp
theorem RW.mem {t : Tok} (h : RW w b lv ts (t :: r) bad) : t ∈ ts := by
  have : t ∈ ts.drop (ts.length - (t :: r).length) := by rw [h.rest]; simp
  exact List.mem_of_mem_drop this
theorem RW.tok {t : Tok} (h : RW w b lv ts (t :: r) bad) :
    ∃ g cap, lv = .slice (some ⟨g, 0, none⟩) ts.length cap ∧ g < w.heap.size ∧ g ≠ b ∧ ts.length - (t :: r).length < ts.length ∧ ts.length ≤ 9223372036854775807 ∧
      w.cell? ⟨g, (ts.length - (t :: r).length) * 4, none⟩ = some (.int .i64 t.kind) ∧ w.cell? ⟨g, (ts.length - (t :: r).length) * 4 + 1, none⟩ = some (.string (bs t.text)) ∧
      w.cell? ⟨g, (ts.length - (t :: r).length) * 4 + 2, none⟩ = some (.int .i64 t.num) ∧ w.cell? ⟨g, (ts.length - (t :: r).length) * 4 + 3, none⟩ = some (.int .i64 t.pos) := by
  obtain ⟨h1, h2, h3, h4⟩ := rest_cons h.rest
  obtain ⟨hl, a, cap, rfl, hc⟩ := h.row
  rcases hc with rfl | ⟨g, rfl, hg, hc⟩
  · simp at h2
  · refine ⟨g, cap, rfl, hg, Nat.ne_of_lt (h.off _ _ _ rfl), by omega, hl, ?_, ?_, ?_, ?_⟩
    · exact hc _ _ (tok_cell ts _ _ 0 _ h4 rfl)
    · exact hc _ _ (tok_cell ts _ _ 1 _ h4 rfl)
    · exact hc _ _ (tok_cell ts _ _ 2 _ h4 rfl)
    · exact hc _ _ (tok_cell ts _ _ 3 _ h4 rfl)
variable {α β : Type}
theorem RP.lt {p : PR α} (h : RP w b lv ts p) : b < w.heap.size := by
  unfold RP at h
  split at h <;> exact h.lt
theorem RP.grown {p : PR α} (h : RP w b lv ts p) (hg : w.grownBy w' none) : RP w' b lv ts p := by
  unfold RP at h ⊢
  split at h <;> exact h.grown hg
theorem RP.other {c : Nat} {p : PR α} (h : RP w b lv ts p) (hg : w.grownBy w' (some c)) (hc : b < c) : RP w' b lv ts p := by
  unfold RP at h ⊢
  split at h <;> exact h.other hg hc
theorem RP.off {p : PR α} (h : RP w b lv ts p) : Off lv b := by
  unfold RP at h
  split at h <;> exact h.off
/-- The state does not hang on the value. -/
theorem RP.val {p : PR α} (h : RP w b lv ts p) (f : α → List Tok → β) : RP w b lv ts (p.then fun a r => .ok (f a r, r)) := by
  cases p with
  | error r => exact h
  | ok p => obtain ⟨a, r⟩ := p; exact h
theorem RP.iff {p : PR α} {q : PR β} (h : RP w b lv ts p) (hq : (∀ a r, p = .ok (a, r) → ∃ a', q = .ok (a', r)) ∧ ∀ r, p = .error r → q = .error r) : RP w b lv ts q := by
  cases p with
  | error r => rw [hq.2 r rfl]; exact h
  | ok p => obtain ⟨a, r⟩ := p; obtain ⟨a', e⟩ := hq.1 a r rfl; rw [e]; exact h
end

/-- The next token's text. -/
def wordP {α : Type} (p : PR α) : List UInt8 := match p with | .ok (_, t :: _) => if t.kind = 2 then [] else t.text | _ => []

theorem word_at {α : Type} (b : Nat) (lv : Value) (ts : List Tok) (p : PR α) (w : World) (h : RP w b lv ts p) :
    Calls Tryd.prog 59 #[.pointer (some ⟨b, 0, none⟩)] w fun e w' => e = .returned (.string (bs (wordP p))) ∧ ∃ q, w' = w.drewN q := by
  cases p with
  | error r =>
    have h : RW w b lv ts r true := h
    exact word_any b _ lv ts true w h.rs h.row
  | ok p =>
    obtain ⟨a, r⟩ := p
    have h : RW w b lv ts r false := h
    have := word_any b _ lv ts false w h.rs h.row
    unfold wordR at this
    rw [if_neg (by simp)] at this
    cases r with
    | nil => rw [rest_nil, List.getElem?_eq_none (Nat.le_refl _)] at this; exact this
    | cons t r => rw [(rest_cons h.rest).2.2.2] at this; exact this

theorem wordP_is {α : Type} {b : Nat} {lv : Value} {ts : List Tok} {p : PR α} {w : World} (h : RP w b lv ts p) {x : List UInt8} (hx : x ≠ []) (hw : wordP p = x) : ∃ a t r, p = .ok (a, t :: r) ∧ isT t x = true := by
  unfold wordP at hw
  split at hw
  · split at hw
    · exact absurd hw.symm hx
    · rename_i a t r hk
      exact ⟨a, t, r, rfl, by unfold isT; simp [hk, hw]⟩
  · exact absurd hw.symm hx
theorem wordP_isT {α : Type} (a : α) (t : Tok) (r : List Tok) (x : List UInt8) (hx : x ≠ []) : (wordP (.ok (a, t :: r) : PR α) = x) = (isT t x = true) := by
  unfold wordP isT
  by_cases hk : t.kind = 2
  · simp [hk]; exact hx
  · simp [hk]

/-- A token taken behind a reading. -/
def takeP {α : Type} (x : List UInt8) (p : PR α) : PR α := p.then fun a r => (pMust x r).then fun _ r1 => .ok (a, r1)

theorem rtake_at {α : Type} (b : Nat) (lv : Value) (ts : List Tok) (p : PR α) (x : List UInt8) (hx : x ≠ []) (w : World) (h : RP w b lv ts p) :
    Calls Tryd.prog 61 #[.pointer (some ⟨b, 0, none⟩), .string (bs x)] w fun e w' => e = .returned (.tuple #[]) ∧ w.grownBy w' (some b) ∧ RP w' b lv ts (takeP x p) := by
  cases p with
  | error r =>
    have h : RW w b lv ts r true := h
    refine (rtake_no b _ lv ts true x w h.rs h.row (by unfold wordR; rw [if_pos rfl]; exact fun e => hx e.symm)).mono ?_
    rintro e w' ⟨rfl, q, rfl⟩
    have hg : w.grownBy ((w.setCell ⟨b, 2, none⟩ (.bool true)).drewN q) (some b) := grown_trans (grown_setCell w ⟨b, 2, none⟩ _) (grown_drew _ q _)
    exact ⟨rfl, hg, h.moved hg h.rs.fail h.rest⟩
  | ok p =>
    obtain ⟨a, r⟩ := p
    have h : RW w b lv ts r false := h
    cases r with
    | nil =>
      refine (rtake_no b _ lv ts false x w h.rs h.row (by unfold wordR; rw [if_neg (by simp), rest_nil, List.getElem?_eq_none (Nat.le_refl _)]; exact fun e => hx e.symm)).mono ?_
      rintro e w' ⟨rfl, q, rfl⟩
      have hg : w.grownBy ((w.setCell ⟨b, 2, none⟩ (.bool true)).drewN q) (some b) := grown_trans (grown_setCell w ⟨b, 2, none⟩ _) (grown_drew _ q _)
      exact ⟨rfl, hg, h.moved hg h.rs.fail h.rest⟩
    | cons t r =>
      have hw : wordR ts (ts.length - (t :: r).length) false = if t.kind = 2 then [] else t.text := by unfold wordR; rw [if_neg (by simp), (rest_cons h.rest).2.2.2]
      cases hm : isT t x
      · refine (rtake_no b _ lv ts false x w h.rs h.row (by
          rw [hw]
          intro e
          have := (wordP_isT a t r x hx)
          unfold wordP at this
          simp only [eq_iff_iff] at this
          rw [this.1 e] at hm
          cases hm)).mono ?_
        rintro e w' ⟨rfl, q, rfl⟩
        have hg : w.grownBy ((w.setCell ⟨b, 2, none⟩ (.bool true)).drewN q) (some b) := grown_trans (grown_setCell w ⟨b, 2, none⟩ _) (grown_drew _ q _)
        refine ⟨rfl, hg, ?_⟩
        have e : takeP x (.ok (a, t :: r) : PR α) = .error (t :: r) := by rw [takeP, PR.then_ok, pMust, hm]; rfl
        rw [e]
        exact h.moved hg h.rs.fail h.rest
      · refine (rtake_yes b _ lv ts x w h.rs h.row (rest_cons h.rest |>.2.1 |> fun _ => by have := (rest_cons h.rest); omega) (by
          rw [hw]
          have := (wordP_isT a t r x hx)
          unfold wordP at this
          simp only [eq_iff_iff] at this
          exact this.2 hm)).mono ?_
        rintro e w' ⟨rfl, q, rfl⟩
        have hg : w.grownBy ((w.setCell ⟨b, 1, none⟩ (.int .i64 (((ts.length - (t :: r).length : Nat) : Int) + 1))).drewN q) (some b) := grown_trans (grown_setCell w ⟨b, 1, none⟩ _) (grown_drew _ q _)
        refine ⟨rfl, hg, ?_⟩
        have e : takeP x (.ok (a, t :: r) : PR α) = .ok (a, r) := by rw [takeP, PR.then_ok, pMust, hm]; rfl
        rw [e]
        exact h.tail hg (h.rs.set _)

/-- A name taken behind a reading, and what it is. -/
def nameP {α : Type} (p : PR α) : PR (α × List UInt8) := p.then fun a r => (pName r).then fun s r1 => .ok ((a, s), r1)

theorem rname_at {α : Type} (b : Nat) (lv : Value) (ts : List Tok) (p : PR α) (w : World) (h : RP w b lv ts p) :
    Calls Tryd.prog 60 #[.pointer (some ⟨b, 0, none⟩)] w fun e w' => ∃ s, e = .returned (.string (bs s)) ∧ w.grownBy w' (some b) ∧ RP w' b lv ts (nameP p) ∧ ∀ a s' r, nameP p = .ok ((a, s'), r) → s = s' := by
  cases p with
  | error r =>
    have h : RW w b lv ts r true := h
    refine (rname_none b _ lv ts true w h.rs h.row (by unfold wordR; rw [if_pos rfl])).mono ?_
    rintro e w' ⟨rfl, q, rfl⟩
    have hg : w.grownBy ((w.setCell ⟨b, 2, none⟩ (.bool true)).drewN q) (some b) := grown_trans (grown_setCell w ⟨b, 2, none⟩ _) (grown_drew _ q _)
    exact ⟨[], rfl, hg, h.moved hg h.rs.fail h.rest, fun _ _ _ e => by cases e⟩
  | ok p =>
    obtain ⟨a, r⟩ := p
    have h : RW w b lv ts r false := h
    have hbad : ∀ w', (∃ q, w' = (w.setCell ⟨b, 2, none⟩ (.bool true)).drewN q) → w.grownBy w' (some b) ∧ RW w' b lv ts r true := by
      rintro w' ⟨q, rfl⟩
      have hg : w.grownBy ((w.setCell ⟨b, 2, none⟩ (.bool true)).drewN q) (some b) := grown_trans (grown_setCell w ⟨b, 2, none⟩ _) (grown_drew _ q _)
      exact ⟨hg, h.moved hg h.rs.fail h.rest⟩
    cases r with
    | nil =>
      refine (rname_none b _ lv ts false w h.rs h.row (by unfold wordR; rw [if_neg (by simp), rest_nil, List.getElem?_eq_none (Nat.le_refl _)])).mono ?_
      rintro e w' ⟨rfl, hq⟩
      exact ⟨[], rfl, (hbad w' hq).1, (hbad w' hq).2, fun _ _ _ e => by cases e⟩
    | cons t r =>
      have hw : wordR ts (ts.length - (t :: r).length) false = if t.kind = 2 then [] else t.text := by unfold wordR; rw [if_neg (by simp), (rest_cons h.rest).2.2.2]
      by_cases hk : t.kind = 2
      · rw [if_pos hk] at hw
        refine (rname_none b _ lv ts false w h.rs h.row hw).mono ?_
        rintro e w' ⟨rfl, hq⟩
        have e : nameP (.ok (a, t :: r) : PR α) = .error (t :: r) := by rw [nameP, PR.then_ok, pName, hk]; rfl
        rw [e]
        exact ⟨[], rfl, (hbad w' hq).1, (hbad w' hq).2, fun _ _ _ e => by cases e⟩
      · rw [if_neg hk] at hw
        have hword := word_any b _ lv ts false w h.rs h.row
        rw [hw] at hword
        have hne : ((bs t.text).toList == []) = false := bs_not (h.ne t h.mem)
        obtain ⟨g, cap, hlv, hg, hgb, hk1, hn, h0, h1, h2, h3⟩ := h.tok
        have hrs := h.rs
        rw [hlv] at hrs
        refine (rname_in b g ts.length cap _ t (t.kind == 1) (takenL.contains t.text) w hrs hk1 hn hword h0 hne (by rfl) (Lib.hid rfl)).mono ?_
        intro e w' he
        by_cases hc : ((t.kind == 1) && !takenL.contains t.text) = true
        · rw [if_pos hc] at he
          obtain ⟨rfl, q, rfl⟩ := he
          have hg : w.grownBy ((w.setCell ⟨b, 1, none⟩ (.int .i64 (((ts.length - (t :: r).length : Nat) : Int) + 1))).drewN q) (some b) := grown_trans (grown_setCell w ⟨b, 1, none⟩ _) (grown_drew _ q _)
          have e : nameP (.ok (a, t :: r) : PR α) = .ok ((a, t.text), r) := by rw [nameP, PR.then_ok, pName, if_pos hc]; rfl
          rw [e]
          exact ⟨t.text, rfl, hg, h.tail hg (h.rs.set _), fun _ _ _ e => by cases e; rfl⟩
        · rw [if_neg hc] at he
          obtain ⟨rfl, hq⟩ := he
          have e : nameP (.ok (a, t :: r) : PR α) = .error (t :: r) := by rw [nameP, PR.then_ok, pName, if_neg hc]; rfl
          rw [e]
          exact ⟨[], rfl, (hbad w' hq).1, (hbad w' hq).2, fun _ _ _ e => by cases e⟩

/-- A number taken behind a reading, and what it is. -/
def numP {α : Type} (lo hi : Int) (p : PR α) : PR (α × Int) := p.then fun a r => (pNum lo hi r).then fun s r1 => .ok ((a, s), r1)

theorem rnum_at {α : Type} (b : Nat) (lv : Value) (ts : List Tok) (lo hi : Int) (p : PR α) (w : World) (h : RP w b lv ts p) :
    Calls Tryd.prog 64 #[.pointer (some ⟨b, 0, none⟩), .int .i64 lo, .int .i64 hi] w fun e w' => ∃ n, e = .returned (.int .i64 n) ∧ w.grownBy w' (some b) ∧ RP w' b lv ts (numP lo hi p) ∧ ∀ a s' r, numP lo hi p = .ok ((a, s'), r) → n = s' := by
  cases p with
  | error r =>
    have h : RW w b lv ts r true := h
    refine (rnumber_bad b _ lo hi lv w h.rs).mono ?_
    rintro e w' ⟨rfl, q, rfl⟩
    have hg : w.grownBy ((w.setCell ⟨b, 2, none⟩ (.bool true)).drewN q) (some b) := grown_trans (grown_setCell w ⟨b, 2, none⟩ _) (grown_drew _ q _)
    exact ⟨0, rfl, hg, h.moved hg h.rs.fail h.rest, fun _ _ _ e => by cases e⟩
  | ok p =>
    obtain ⟨a, r⟩ := p
    have h : RW w b lv ts r false := h
    have hbad : ∀ w', (∃ q, w' = (w.setCell ⟨b, 2, none⟩ (.bool true)).drewN q) → w.grownBy w' (some b) ∧ RW w' b lv ts r true := by
      rintro w' ⟨q, rfl⟩
      have hg : w.grownBy ((w.setCell ⟨b, 2, none⟩ (.bool true)).drewN q) (some b) := grown_trans (grown_setCell w ⟨b, 2, none⟩ _) (grown_drew _ q _)
      exact ⟨hg, h.moved hg h.rs.fail h.rest⟩
    cases r with
    | nil =>
      have hrs := h.rs
      obtain ⟨hl, la, cap, hlv, _⟩ := h.row
      rw [hlv] at hrs
      refine (rnumber_out b ts.length cap _ lo hi la w hrs (by simp)).mono ?_
      rintro e w' ⟨rfl, hq⟩
      exact ⟨0, rfl, (hbad w' hq).1, (hbad w' hq).2, fun _ _ _ e => by cases e⟩
    | cons t r =>
      obtain ⟨g, cap, hlv, hg, hgb, hk1, hn, h0, h1, h2, h3⟩ := h.tok
      have hrs := h.rs
      rw [hlv] at hrs
      refine (rnumber_in b g ts.length cap _ lo hi t (t.kind == 2) (decide (lo ≤ t.num)) (decide (t.num ≤ hi)) w hrs hk1 hn hgb h0 h2 (by rfl) (by by_cases h : lo ≤ t.num <;> simp [h]; omega) (by by_cases h : t.num ≤ hi <;> simp [h]; omega)).mono ?_
      intro e w' he
      by_cases hc : ((t.kind == 2) && decide (lo ≤ t.num) && decide (t.num ≤ hi)) = true
      · rw [if_pos hc] at he
        obtain ⟨rfl, q, rfl⟩ := he
        have hg : w.grownBy ((w.setCell ⟨b, 1, none⟩ (.int .i64 (((ts.length - (t :: r).length : Nat) : Int) + 1))).drewN q) (some b) := grown_trans (grown_setCell w ⟨b, 1, none⟩ _) (grown_drew _ q _)
        have e : numP lo hi (.ok (a, t :: r) : PR α) = .ok ((a, t.num), r) := by rw [numP, PR.then_ok, pNum, if_pos hc]; rfl
        rw [e]
        exact ⟨t.num, rfl, hg, h.tail hg (h.rs.set _), fun _ _ _ e => by cases e; rfl⟩
      · rw [if_neg hc] at he
        obtain ⟨rfl, hq⟩ := he
        have e : numP lo hi (.ok (a, t :: r) : PR α) = .error (t :: r) := by rw [numP, PR.then_ok, pNum, if_neg hc]; rfl
        rw [e]
        exact ⟨0, rfl, (hbad w' hq).1, (hbad w' hq).2, fun _ _ _ e => by cases e⟩
end Go.Proofs.YtgnjaneddidbbaaDoor
