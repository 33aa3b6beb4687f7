/-
  The reference's ruleWord, text: the walks.
-/
import Derived.Test.YtdjklnlkocconaaGreatDoorRpCZ
import Derived.Test.YtdjklnlkocconaaGreatDoorOpAZ
import Derived.Test.YtdjklnlkocconaaGreatDoorPrintDZ
import Derived.Deep.RegionHeld3
namespace Go.Proofs.YtdjklnlkocconaaGreatDoor
open Go Go.RowKit

theorem op_and (w : World) : Calls Tryz.prog 72 #[.string ⟨#[97, 110, 100]⟩] w fun e w' => e = .returned (.tuple #[.int .i64 4, .int .i64 2]) ∧ w = w' := operator_any w_and w
theorem op_or (w : World) : Calls Tryz.prog 72 #[.string ⟨#[111, 114]⟩] w fun e w' => e = .returned (.tuple #[.int .i64 5, .int .i64 1]) ∧ w = w' := operator_any w_or w
theorem op_not (w : World) : Calls Tryz.prog 72 #[.string ⟨#[110, 111, 116]⟩] w fun e w' => e = .returned (.tuple #[.int .i64 6, .int .i64 1]) ∧ w = w' := operator_any w_not w
theorem op_xor (w : World) : Calls Tryz.prog 72 #[.string ⟨#[120, 111, 114]⟩] w fun e w' => e = .returned (.tuple #[.int .i64 7, .int .i64 1]) ∧ w = w' := operator_any w_xor w
theorem ru_width (w : World) : Calls Tryz.prog 73 #[.string ⟨#[119, 105, 100, 116, 104]⟩] w fun e w' => e = .returned (.int .i64 1) ∧ w = w' := ruleOf_any w_width w
theorem ru_space (w : World) : Calls Tryz.prog 73 #[.string ⟨#[115, 112, 97, 99, 101]⟩] w fun e w' => e = .returned (.int .i64 2) ∧ w = w' := ruleOf_any w_space w
theorem ru_notch (w : World) : Calls Tryz.prog 73 #[.string ⟨#[110, 111, 116, 99, 104]⟩] w fun e w' => e = .returned (.int .i64 3) ∧ w = w' := ruleOf_any w_notch w
theorem ru_apart (w : World) : Calls Tryz.prog 73 #[.string ⟨#[97, 112, 97, 114, 116]⟩] w fun e w' => e = .returned (.int .i64 4) ∧ w = w' := ruleOf_any w_apart w
theorem ru_around (w : World) : Calls Tryz.prog 73 #[.string ⟨#[97, 114, 111, 117, 110, 100]⟩] w fun e w' => e = .returned (.int .i64 5) ∧ w = w' := ruleOf_any w_around w
theorem ru_over (w : World) : Calls Tryz.prog 73 #[.string ⟨#[111, 118, 101, 114]⟩] w fun e w' => e = .returned (.int .i64 6) ∧ w = w' := ruleOf_any w_over w

set_option maxHeartbeats 2000000 in
set_option maxRecDepth 100000 in
theorem ruleWord_1 (w : World) :
    Calls Tryz.prog 42 #[.int .i64 1] w fun e w' => e = .returned (.string (bs (ruleW 1))) ∧ w.grownBy w' none := by
  have HW : Hid (∀ (j : Nat) (u : Value), ([.string ⟨#[119, 105, 100, 116, 104]⟩, .string ⟨#[115, 112, 97, 99, 101]⟩, .string ⟨#[110, 111, 116, 99, 104]⟩, .string ⟨#[97, 112, 97, 114, 116]⟩, .string ⟨#[97, 114, 111, 117, 110, 100]⟩, .string ⟨#[111, 118, 101, 114]⟩] : List Value)[j]? = some u → (w.alloc (.cells #[.string ⟨#[119, 105, 100, 116, 104]⟩, .string ⟨#[115, 112, 97, 99, 101]⟩, .string ⟨#[110, 111, 116, 99, 104]⟩, .string ⟨#[97, 112, 97, 114, 116]⟩, .string ⟨#[97, 114, 111, 117, 110, 100]⟩, .string ⟨#[111, 118, 101, 114]⟩] 9)).cell? ⟨w.heap.size, j, none⟩ = some u) := fun j u hj => cell_at w [.string ⟨#[119, 105, 100, 116, 104]⟩, .string ⟨#[115, 112, 97, 99, 101]⟩, .string ⟨#[110, 111, 116, 99, 104]⟩, .string ⟨#[97, 112, 97, 114, 116]⟩, .string ⟨#[97, 114, 111, 117, 110, 100]⟩, .string ⟨#[111, 118, 101, 114]⟩] 9 w.heap.size rfl j u hj
  have y0 := HW.out 0 _ rfl
  have HA : Hid (w.grownBy (w.alloc (.cells #[.string ⟨#[119, 105, 100, 116, 104]⟩, .string ⟨#[115, 112, 97, 99, 101]⟩, .string ⟨#[110, 111, 116, 99, 104]⟩, .string ⟨#[97, 112, 97, 114, 116]⟩, .string ⟨#[97, 114, 111, 117, 110, 100]⟩, .string ⟨#[111, 118, 101, 114]⟩] 9)) none) := grown_alloc _ _ _
  go_enter Tryz.func42, Tryz.ntmps42
  go_wp2_with fail
  clear HW
  generalize (w.alloc (.cells #[.string ⟨#[119, 105, 100, 116, 104]⟩, .string ⟨#[115, 112, 97, 99, 101]⟩, .string ⟨#[110, 111, 116, 99, 104]⟩, .string ⟨#[97, 112, 97, 114, 116]⟩, .string ⟨#[97, 114, 111, 117, 110, 100]⟩, .string ⟨#[111, 118, 101, 114]⟩] 9)) = w2 at *
  refine wp_loop_rounds 1 ?_
  rw [rounds_succ]
  go_wp2_with fail
  refine (ru_width w2).mono ?_
  rintro e w' ⟨rfl, rfl⟩
  go_wp2
  go_ret
  exact ⟨rfl, HA.out⟩

set_option maxHeartbeats 2000000 in
set_option maxRecDepth 100000 in
theorem ruleWord_2 (w : World) :
    Calls Tryz.prog 42 #[.int .i64 2] w fun e w' => e = .returned (.string (bs (ruleW 2))) ∧ w.grownBy w' none := by
  have HW : Hid (∀ (j : Nat) (u : Value), ([.string ⟨#[119, 105, 100, 116, 104]⟩, .string ⟨#[115, 112, 97, 99, 101]⟩, .string ⟨#[110, 111, 116, 99, 104]⟩, .string ⟨#[97, 112, 97, 114, 116]⟩, .string ⟨#[97, 114, 111, 117, 110, 100]⟩, .string ⟨#[111, 118, 101, 114]⟩] : List Value)[j]? = some u → (w.alloc (.cells #[.string ⟨#[119, 105, 100, 116, 104]⟩, .string ⟨#[115, 112, 97, 99, 101]⟩, .string ⟨#[110, 111, 116, 99, 104]⟩, .string ⟨#[97, 112, 97, 114, 116]⟩, .string ⟨#[97, 114, 111, 117, 110, 100]⟩, .string ⟨#[111, 118, 101, 114]⟩] 9)).cell? ⟨w.heap.size, j, none⟩ = some u) := fun j u hj => cell_at w [.string ⟨#[119, 105, 100, 116, 104]⟩, .string ⟨#[115, 112, 97, 99, 101]⟩, .string ⟨#[110, 111, 116, 99, 104]⟩, .string ⟨#[97, 112, 97, 114, 116]⟩, .string ⟨#[97, 114, 111, 117, 110, 100]⟩, .string ⟨#[111, 118, 101, 114]⟩] 9 w.heap.size rfl j u hj
  have y0 := HW.out 0 _ rfl
  have y1 := HW.out 1 _ rfl
  have HA : Hid (w.grownBy (w.alloc (.cells #[.string ⟨#[119, 105, 100, 116, 104]⟩, .string ⟨#[115, 112, 97, 99, 101]⟩, .string ⟨#[110, 111, 116, 99, 104]⟩, .string ⟨#[97, 112, 97, 114, 116]⟩, .string ⟨#[97, 114, 111, 117, 110, 100]⟩, .string ⟨#[111, 118, 101, 114]⟩] 9)) none) := grown_alloc _ _ _
  go_enter Tryz.func42, Tryz.ntmps42
  go_wp2_with fail
  clear HW
  generalize (w.alloc (.cells #[.string ⟨#[119, 105, 100, 116, 104]⟩, .string ⟨#[115, 112, 97, 99, 101]⟩, .string ⟨#[110, 111, 116, 99, 104]⟩, .string ⟨#[97, 112, 97, 114, 116]⟩, .string ⟨#[97, 114, 111, 117, 110, 100]⟩, .string ⟨#[111, 118, 101, 114]⟩] 9)) = w2 at *
  refine wp_loop_rounds 2 ?_
  rw [rounds_succ]
  go_wp2_with fail
  refine (ru_width w2).mono ?_
  rintro e w' ⟨rfl, rfl⟩
  go_wp2_with fail
  rw [rounds_succ]
  go_wp2_with fail
  refine (ru_space w2).mono ?_
  rintro e w' ⟨rfl, rfl⟩
  go_wp2
  go_ret
  exact ⟨rfl, HA.out⟩

set_option maxHeartbeats 2000000 in
set_option maxRecDepth 100000 in
theorem ruleWord_3 (w : World) :
    Calls Tryz.prog 42 #[.int .i64 3] w fun e w' => e = .returned (.string (bs (ruleW 3))) ∧ w.grownBy w' none := by
  have HW : Hid (∀ (j : Nat) (u : Value), ([.string ⟨#[119, 105, 100, 116, 104]⟩, .string ⟨#[115, 112, 97, 99, 101]⟩, .string ⟨#[110, 111, 116, 99, 104]⟩, .string ⟨#[97, 112, 97, 114, 116]⟩, .string ⟨#[97, 114, 111, 117, 110, 100]⟩, .string ⟨#[111, 118, 101, 114]⟩] : List Value)[j]? = some u → (w.alloc (.cells #[.string ⟨#[119, 105, 100, 116, 104]⟩, .string ⟨#[115, 112, 97, 99, 101]⟩, .string ⟨#[110, 111, 116, 99, 104]⟩, .string ⟨#[97, 112, 97, 114, 116]⟩, .string ⟨#[97, 114, 111, 117, 110, 100]⟩, .string ⟨#[111, 118, 101, 114]⟩] 9)).cell? ⟨w.heap.size, j, none⟩ = some u) := fun j u hj => cell_at w [.string ⟨#[119, 105, 100, 116, 104]⟩, .string ⟨#[115, 112, 97, 99, 101]⟩, .string ⟨#[110, 111, 116, 99, 104]⟩, .string ⟨#[97, 112, 97, 114, 116]⟩, .string ⟨#[97, 114, 111, 117, 110, 100]⟩, .string ⟨#[111, 118, 101, 114]⟩] 9 w.heap.size rfl j u hj
  have y0 := HW.out 0 _ rfl
  have y1 := HW.out 1 _ rfl
  have y2 := HW.out 2 _ rfl
  have HA : Hid (w.grownBy (w.alloc (.cells #[.string ⟨#[119, 105, 100, 116, 104]⟩, .string ⟨#[115, 112, 97, 99, 101]⟩, .string ⟨#[110, 111, 116, 99, 104]⟩, .string ⟨#[97, 112, 97, 114, 116]⟩, .string ⟨#[97, 114, 111, 117, 110, 100]⟩, .string ⟨#[111, 118, 101, 114]⟩] 9)) none) := grown_alloc _ _ _
  go_enter Tryz.func42, Tryz.ntmps42
  go_wp2_with fail
  clear HW
  generalize (w.alloc (.cells #[.string ⟨#[119, 105, 100, 116, 104]⟩, .string ⟨#[115, 112, 97, 99, 101]⟩, .string ⟨#[110, 111, 116, 99, 104]⟩, .string ⟨#[97, 112, 97, 114, 116]⟩, .string ⟨#[97, 114, 111, 117, 110, 100]⟩, .string ⟨#[111, 118, 101, 114]⟩] 9)) = w2 at *
  refine wp_loop_rounds 3 ?_
  rw [rounds_succ]
  go_wp2_with fail
  refine (ru_width w2).mono ?_
  rintro e w' ⟨rfl, rfl⟩
  go_wp2_with fail
  rw [rounds_succ]
  go_wp2_with fail
  refine (ru_space w2).mono ?_
  rintro e w' ⟨rfl, rfl⟩
  go_wp2_with fail
  rw [rounds_succ]
  go_wp2_with fail
  refine (ru_notch w2).mono ?_
  rintro e w' ⟨rfl, rfl⟩
  go_wp2
  go_ret
  exact ⟨rfl, HA.out⟩

set_option maxHeartbeats 2000000 in
set_option maxRecDepth 100000 in
theorem ruleWord_4 (w : World) :
    Calls Tryz.prog 42 #[.int .i64 4] w fun e w' => e = .returned (.string (bs (ruleW 4))) ∧ w.grownBy w' none := by
  have HW : Hid (∀ (j : Nat) (u : Value), ([.string ⟨#[119, 105, 100, 116, 104]⟩, .string ⟨#[115, 112, 97, 99, 101]⟩, .string ⟨#[110, 111, 116, 99, 104]⟩, .string ⟨#[97, 112, 97, 114, 116]⟩, .string ⟨#[97, 114, 111, 117, 110, 100]⟩, .string ⟨#[111, 118, 101, 114]⟩] : List Value)[j]? = some u → (w.alloc (.cells #[.string ⟨#[119, 105, 100, 116, 104]⟩, .string ⟨#[115, 112, 97, 99, 101]⟩, .string ⟨#[110, 111, 116, 99, 104]⟩, .string ⟨#[97, 112, 97, 114, 116]⟩, .string ⟨#[97, 114, 111, 117, 110, 100]⟩, .string ⟨#[111, 118, 101, 114]⟩] 9)).cell? ⟨w.heap.size, j, none⟩ = some u) := fun j u hj => cell_at w [.string ⟨#[119, 105, 100, 116, 104]⟩, .string ⟨#[115, 112, 97, 99, 101]⟩, .string ⟨#[110, 111, 116, 99, 104]⟩, .string ⟨#[97, 112, 97, 114, 116]⟩, .string ⟨#[97, 114, 111, 117, 110, 100]⟩, .string ⟨#[111, 118, 101, 114]⟩] 9 w.heap.size rfl j u hj
  have y0 := HW.out 0 _ rfl
  have y1 := HW.out 1 _ rfl
  have y2 := HW.out 2 _ rfl
  have y3 := HW.out 3 _ rfl
  have HA : Hid (w.grownBy (w.alloc (.cells #[.string ⟨#[119, 105, 100, 116, 104]⟩, .string ⟨#[115, 112, 97, 99, 101]⟩, .string ⟨#[110, 111, 116, 99, 104]⟩, .string ⟨#[97, 112, 97, 114, 116]⟩, .string ⟨#[97, 114, 111, 117, 110, 100]⟩, .string ⟨#[111, 118, 101, 114]⟩] 9)) none) := grown_alloc _ _ _
  go_enter Tryz.func42, Tryz.ntmps42
  go_wp2_with fail
  clear HW
  generalize (w.alloc (.cells #[.string ⟨#[119, 105, 100, 116, 104]⟩, .string ⟨#[115, 112, 97, 99, 101]⟩, .string ⟨#[110, 111, 116, 99, 104]⟩, .string ⟨#[97, 112, 97, 114, 116]⟩, .string ⟨#[97, 114, 111, 117, 110, 100]⟩, .string ⟨#[111, 118, 101, 114]⟩] 9)) = w2 at *
  refine wp_loop_rounds 4 ?_
  rw [rounds_succ]
  go_wp2_with fail
  refine (ru_width w2).mono ?_
  rintro e w' ⟨rfl, rfl⟩
  go_wp2_with fail
  rw [rounds_succ]
  go_wp2_with fail
  refine (ru_space w2).mono ?_
  rintro e w' ⟨rfl, rfl⟩
  go_wp2_with fail
  rw [rounds_succ]
  go_wp2_with fail
  refine (ru_notch w2).mono ?_
  rintro e w' ⟨rfl, rfl⟩
  go_wp2_with fail
  rw [rounds_succ]
  go_wp2_with fail
  refine (ru_apart w2).mono ?_
  rintro e w' ⟨rfl, rfl⟩
  go_wp2
  go_ret
  exact ⟨rfl, HA.out⟩

set_option maxHeartbeats 2000000 in
set_option maxRecDepth 100000 in
theorem ruleWord_5 (w : World) :
    Calls Tryz.prog 42 #[.int .i64 5] w fun e w' => e = .returned (.string (bs (ruleW 5))) ∧ w.grownBy w' none := by
  have HW : Hid (∀ (j : Nat) (u : Value), ([.string ⟨#[119, 105, 100, 116, 104]⟩, .string ⟨#[115, 112, 97, 99, 101]⟩, .string ⟨#[110, 111, 116, 99, 104]⟩, .string ⟨#[97, 112, 97, 114, 116]⟩, .string ⟨#[97, 114, 111, 117, 110, 100]⟩, .string ⟨#[111, 118, 101, 114]⟩] : List Value)[j]? = some u → (w.alloc (.cells #[.string ⟨#[119, 105, 100, 116, 104]⟩, .string ⟨#[115, 112, 97, 99, 101]⟩, .string ⟨#[110, 111, 116, 99, 104]⟩, .string ⟨#[97, 112, 97, 114, 116]⟩, .string ⟨#[97, 114, 111, 117, 110, 100]⟩, .string ⟨#[111, 118, 101, 114]⟩] 9)).cell? ⟨w.heap.size, j, none⟩ = some u) := fun j u hj => cell_at w [.string ⟨#[119, 105, 100, 116, 104]⟩, .string ⟨#[115, 112, 97, 99, 101]⟩, .string ⟨#[110, 111, 116, 99, 104]⟩, .string ⟨#[97, 112, 97, 114, 116]⟩, .string ⟨#[97, 114, 111, 117, 110, 100]⟩, .string ⟨#[111, 118, 101, 114]⟩] 9 w.heap.size rfl j u hj
  have y0 := HW.out 0 _ rfl
  have y1 := HW.out 1 _ rfl
  have y2 := HW.out 2 _ rfl
  have y3 := HW.out 3 _ rfl
  have y4 := HW.out 4 _ rfl
  have HA : Hid (w.grownBy (w.alloc (.cells #[.string ⟨#[119, 105, 100, 116, 104]⟩, .string ⟨#[115, 112, 97, 99, 101]⟩, .string ⟨#[110, 111, 116, 99, 104]⟩, .string ⟨#[97, 112, 97, 114, 116]⟩, .string ⟨#[97, 114, 111, 117, 110, 100]⟩, .string ⟨#[111, 118, 101, 114]⟩] 9)) none) := grown_alloc _ _ _
  go_enter Tryz.func42, Tryz.ntmps42
  go_wp2_with fail
  clear HW
  generalize (w.alloc (.cells #[.string ⟨#[119, 105, 100, 116, 104]⟩, .string ⟨#[115, 112, 97, 99, 101]⟩, .string ⟨#[110, 111, 116, 99, 104]⟩, .string ⟨#[97, 112, 97, 114, 116]⟩, .string ⟨#[97, 114, 111, 117, 110, 100]⟩, .string ⟨#[111, 118, 101, 114]⟩] 9)) = w2 at *
  refine wp_loop_rounds 5 ?_
  rw [rounds_succ]
  go_wp2_with fail
  refine (ru_width w2).mono ?_
  rintro e w' ⟨rfl, rfl⟩
  go_wp2_with fail
  rw [rounds_succ]
  go_wp2_with fail
  refine (ru_space w2).mono ?_
  rintro e w' ⟨rfl, rfl⟩
  go_wp2_with fail
  rw [rounds_succ]
  go_wp2_with fail
  refine (ru_notch w2).mono ?_
  rintro e w' ⟨rfl, rfl⟩
  go_wp2_with fail
  rw [rounds_succ]
  go_wp2_with fail
  refine (ru_apart w2).mono ?_
  rintro e w' ⟨rfl, rfl⟩
  go_wp2_with fail
  rw [rounds_succ]
  go_wp2_with fail
  refine (ru_around w2).mono ?_
  rintro e w' ⟨rfl, rfl⟩
  go_wp2
  go_ret
  exact ⟨rfl, HA.out⟩

set_option maxHeartbeats 2000000 in
set_option maxRecDepth 100000 in
theorem ruleWord_6 (w : World) :
    Calls Tryz.prog 42 #[.int .i64 6] w fun e w' => e = .returned (.string (bs (ruleW 6))) ∧ w.grownBy w' none := by
  have HW : Hid (∀ (j : Nat) (u : Value), ([.string ⟨#[119, 105, 100, 116, 104]⟩, .string ⟨#[115, 112, 97, 99, 101]⟩, .string ⟨#[110, 111, 116, 99, 104]⟩, .string ⟨#[97, 112, 97, 114, 116]⟩, .string ⟨#[97, 114, 111, 117, 110, 100]⟩, .string ⟨#[111, 118, 101, 114]⟩] : List Value)[j]? = some u → (w.alloc (.cells #[.string ⟨#[119, 105, 100, 116, 104]⟩, .string ⟨#[115, 112, 97, 99, 101]⟩, .string ⟨#[110, 111, 116, 99, 104]⟩, .string ⟨#[97, 112, 97, 114, 116]⟩, .string ⟨#[97, 114, 111, 117, 110, 100]⟩, .string ⟨#[111, 118, 101, 114]⟩] 9)).cell? ⟨w.heap.size, j, none⟩ = some u) := fun j u hj => cell_at w [.string ⟨#[119, 105, 100, 116, 104]⟩, .string ⟨#[115, 112, 97, 99, 101]⟩, .string ⟨#[110, 111, 116, 99, 104]⟩, .string ⟨#[97, 112, 97, 114, 116]⟩, .string ⟨#[97, 114, 111, 117, 110, 100]⟩, .string ⟨#[111, 118, 101, 114]⟩] 9 w.heap.size rfl j u hj
  have y0 := HW.out 0 _ rfl
  have y1 := HW.out 1 _ rfl
  have y2 := HW.out 2 _ rfl
  have y3 := HW.out 3 _ rfl
  have y4 := HW.out 4 _ rfl
  have y5 := HW.out 5 _ rfl
  have HA : Hid (w.grownBy (w.alloc (.cells #[.string ⟨#[119, 105, 100, 116, 104]⟩, .string ⟨#[115, 112, 97, 99, 101]⟩, .string ⟨#[110, 111, 116, 99, 104]⟩, .string ⟨#[97, 112, 97, 114, 116]⟩, .string ⟨#[97, 114, 111, 117, 110, 100]⟩, .string ⟨#[111, 118, 101, 114]⟩] 9)) none) := grown_alloc _ _ _
  go_enter Tryz.func42, Tryz.ntmps42
  go_wp2_with fail
  clear HW
  generalize (w.alloc (.cells #[.string ⟨#[119, 105, 100, 116, 104]⟩, .string ⟨#[115, 112, 97, 99, 101]⟩, .string ⟨#[110, 111, 116, 99, 104]⟩, .string ⟨#[97, 112, 97, 114, 116]⟩, .string ⟨#[97, 114, 111, 117, 110, 100]⟩, .string ⟨#[111, 118, 101, 114]⟩] 9)) = w2 at *
  refine wp_loop_rounds 6 ?_
  rw [rounds_succ]
  go_wp2_with fail
  refine (ru_width w2).mono ?_
  rintro e w' ⟨rfl, rfl⟩
  go_wp2_with fail
  rw [rounds_succ]
  go_wp2_with fail
  refine (ru_space w2).mono ?_
  rintro e w' ⟨rfl, rfl⟩
  go_wp2_with fail
  rw [rounds_succ]
  go_wp2_with fail
  refine (ru_notch w2).mono ?_
  rintro e w' ⟨rfl, rfl⟩
  go_wp2_with fail
  rw [rounds_succ]
  go_wp2_with fail
  refine (ru_apart w2).mono ?_
  rintro e w' ⟨rfl, rfl⟩
  go_wp2_with fail
  rw [rounds_succ]
  go_wp2_with fail
  refine (ru_around w2).mono ?_
  rintro e w' ⟨rfl, rfl⟩
  go_wp2_with fail
  rw [rounds_succ]
  go_wp2_with fail
  refine (ru_over w2).mono ?_
  rintro e w' ⟨rfl, rfl⟩
  go_wp2
  go_ret
  exact ⟨rfl, HA.out⟩

theorem ruleWord_any (r : Int) (w : World) (h : 1 ≤ r ∧ r ≤ 6) :
    Calls Tryz.prog 42 #[.int .i64 r] w fun e w' => e = .returned (.string (bs (ruleW r))) ∧ w.grownBy w' none := by
  obtain rfl | rfl | rfl | rfl | rfl | rfl : r = 1 ∨ r = 2 ∨ r = 3 ∨ r = 4 ∨ r = 5 ∨ r = 6 := by omega
  · exact ruleWord_1 w
  · exact ruleWord_2 w
  · exact ruleWord_3 w
  · exact ruleWord_4 w
  · exact ruleWord_5 w
  · exact ruleWord_6 w

/-- What text does at an expression. -/
def RTextC (n : Nd) : Prop := ∀ (least : Int) (v : Value) (w : World), 1 ≤ least → least ≤ 3 → (∃ p q, rightB n p q = true) → (textP n (least - 1)).length ≤ 100000000 → NdIs Any w n v →
  Calls Tryz.prog 41 #[v, .int .i64 least] w fun e w' => e = .returned (.string (bs (textP n (least - 1)))) ∧ w.grownBy w' none

theorem right_parts {k : Int} {s : List UInt8} {l : List Nd} {p q : Int} (hk : 4 ≤ k ∧ k ≤ 7) (h : rightB (.mk k s l) p q = true) : ∃ a b, l = [a, b] ∧ (∃ p q, rightB a p q = true) ∧ ∃ p q, rightB b p q = true := by
  rw [rightB_op k s l p q _ hk rfl] at h
  match l, h with
  | [a, b], h =>
    simp only [Bool.and_eq_true] at h
    exact ⟨a, b, rfl, ⟨_, _, h.1.2⟩, ⟨_, _, h.2⟩⟩
theorem text_two (k : Int) (s : List UInt8) (a b : Nd) (L : Int) (h : 4 ≤ k) : textP (.mk k s [a, b]) L = (if joinS k < L then [40] else []) ++ textP a (joinS k) ++ joinW k ++ textP b (joinS k + 1) ++ (if joinS k < L then [41] else []) := by
  rw [textP_un, if_neg (by omega), if_neg (by omega), if_neg (by omega)]

set_option maxHeartbeats 8000000 in
set_option maxRecDepth 100000 in
theorem rtext_and (s : List UInt8) (l : List Nd) (ih : ∀ x ∈ l, RTextC x) : RTextC (.mk 4 s l) := by
  intro least v w hl0 hl1 hr hlen h
  obtain ⟨p0, q0, hr⟩ := hr
  obtain ⟨p, q, rfl, hp, hq⟩ := right_parts (by decide) hr
  unfold NdIs at h
  obtain ⟨a, c, rfl, _, h1⟩ := h
  have q1 := NdIs.part h1 (i := 0) (x := p) rfl
  have q2 := NdIs.part h1 (i := 1) (x := q) rfl
  obtain ⟨g1, o1, rfl, q1⟩ := q1
  obtain ⟨g2, o2, e2, q2⟩ := q2
  cases e2
  rw [text_two 4 s p q _ (by decide)] at hlen ⊢
  have hj : joinS 4 = 1 := rfl
  rw [hj] at hlen ⊢
  rw [show (1 : Int) + 1 = 2 by decide] at hlen ⊢
  obtain ⟨A, hA⟩ : ∃ A, textP p 1 = A := ⟨_, rfl⟩
  obtain ⟨B, hB⟩ : ∃ B, textP q 2 = B := ⟨_, rfl⟩
  rw [hA, hB] at hlen ⊢
  have hlA : A.length ≤ 100000000 := by simp only [List.length_append] at hlen; omega
  have hlB : B.length ≤ 100000000 := by simp only [List.length_append] at hlen; omega
  have HP : Hid (RTextC p) := ih p (by simp)
  have HQ : Hid (RTextC q) := ih q (by simp)
  have CT : Hid (∀ (m : Int) (v : Value) (w : World), (m = 2 ∧ NdIs Any w p v) ∨ (m = 3 ∧ NdIs Any w q v) → Calls Tryz.prog 41 #[v, .int .i64 m] w fun e w' => e = .returned (.string (if m = 2 then bs A else bs B)) ∧ w.grownBy w' none) := by
    rintro m v w (⟨rfl, hn⟩ | ⟨rfl, hn⟩)
    · have := HP.out 2 v w (by decide) (by decide) hp (by rw [show (2 : Int) - 1 = 1 by decide, hA]; exact hlA) hn
      rw [show (2 : Int) - 1 = 1 by decide, hA] at this
      exact this
    · have := HQ.out 3 v w (by decide) (by decide) hq (by rw [show (3 : Int) - 1 = 2 by decide, hB]; exact hlB) hn
      rw [show (3 : Int) - 1 = 2 by decide, hB] at this
      exact this
  have hsA : (bs A).size ≤ 100000000 := by rw [bs_size]; exact hlA
  have hsB : (bs B).size ≤ 100000000 := by rw [bs_size]; exact hlB
  have hlen2 : ([p, q] : List Nd).length = 2 := rfl
  rw [hlen2]
  have HG2 : Hid (w.grownBy ((w.alloc (.cells #[.int .i64 4, .string (bs s), .slice (some ⟨g1, o1, none⟩) 2 c] 37)).alloc (.cells #[.string ⟨#[97, 110, 100]⟩, .string ⟨#[111, 114]⟩, .string ⟨#[110, 111, 116]⟩, .string ⟨#[120, 111, 114]⟩] 9)) none) := grown_trans (grown_alloc _ _ _) (grown_alloc _ _ _)
  have b1 := Blk3.new w (.int .i64 4) (.string (bs s)) (.slice (some ⟨g1, o1, none⟩) 2 c)
  have b2 : Blk3 ((w.alloc (.cells #[.int .i64 4, .string (bs s), .slice (some ⟨g1, o1, none⟩) 2 c] 37)).alloc (.cells #[.string ⟨#[97, 110, 100]⟩, .string ⟨#[111, 114]⟩, .string ⟨#[110, 111, 116]⟩, .string ⟨#[120, 111, 114]⟩] 9)) w.heap.size (.int .i64 4) (.string (bs s)) (.slice (some ⟨g1, o1, none⟩) 2 c) := b1.grown (grown_alloc _ _ none) (by simp)
  have BK := Lib.hid b2
  have HW : Hid (∀ (j : Nat) (u : Value), ([.string ⟨#[97, 110, 100]⟩, .string ⟨#[111, 114]⟩, .string ⟨#[110, 111, 116]⟩, .string ⟨#[120, 111, 114]⟩] : List Value)[j]? = some u → ((w.alloc (.cells #[.int .i64 4, .string (bs s), .slice (some ⟨g1, o1, none⟩) 2 c] 37)).alloc (.cells #[.string ⟨#[97, 110, 100]⟩, .string ⟨#[111, 114]⟩, .string ⟨#[110, 111, 116]⟩, .string ⟨#[120, 111, 114]⟩] 9)).cell? ⟨w.heap.size + 1, j, none⟩ = some u) := fun j u hj => cell_at (w.alloc (.cells #[.int .i64 4, .string (bs s), .slice (some ⟨g1, o1, none⟩) 2 c] 37)) [.string ⟨#[97, 110, 100]⟩, .string ⟨#[111, 114]⟩, .string ⟨#[110, 111, 116]⟩, .string ⟨#[120, 111, 114]⟩] 9 (w.heap.size + 1) (by simp) j u hj
  obtain ⟨x0, x1, x2, _, _, _⟩ := b1.cells
  clear b1 b2 hA hB hp hq hr HP HQ hlA hlB h1 ih hlen2 hj hlen
  obtain ⟨T, hT⟩ : ∃ T, bs ((if (1 : Int) < least - 1 then [40] else []) ++ A ++ joinW 4 ++ B ++ (if (1 : Int) < least - 1 then [41] else [])) = T := ⟨_, rfl⟩
  rw [hT]
  have HT := Lib.hid hT
  clear hT
  go_enter Tryz.func41, Tryz.ntmps41
  go_wp2_with fail
  clear x0 x1 x2
  have y0 := HW.out 0 _ rfl
  have y1 := HW.out 1 _ rfl
  have y2 := HW.out 2 _ rfl
  have y3 := HW.out 3 _ rfl
  obtain ⟨x0, x1, x2, _, _, _⟩ := BK.out.cells
  clear HW
  generalize ((w.alloc (.cells #[.int .i64 4, .string (bs s), .slice (some ⟨g1, o1, none⟩) 2 c] 37)).alloc (.cells #[.string ⟨#[97, 110, 100]⟩, .string ⟨#[111, 114]⟩, .string ⟨#[110, 111, 116]⟩, .string ⟨#[120, 111, 114]⟩] 9)) = w2 at *
  refine wp_loop_rounds 5 ?_
  rw [rounds_succ]
  go_wp2_with fail
  refine (op_and w2).mono ?_
  rintro e w' ⟨rfl, rfl⟩
  go_wp2_with fail
  rw [rounds_succ]
  go_wp2_with fail
  refine (op_or w2).mono ?_
  rintro e w' ⟨rfl, rfl⟩
  go_wp2_with fail
  rw [rounds_succ]
  go_wp2_with fail
  refine (op_not w2).mono ?_
  rintro e w' ⟨rfl, rfl⟩
  go_wp2_with fail
  rw [rounds_succ]
  go_wp2_with fail
  refine (op_xor w2).mono ?_
  rintro e w' ⟨rfl, rfl⟩
  go_wp2_with fail
  rw [rounds_succ]
  obtain ⟨k1, s1, p1, m1, d1, ⟨e0, e1, e2⟩, n1⟩ := q1 w2 HG2.out
  obtain ⟨k2, s2, p2, m2, d2, ⟨f0, f1, f2⟩, n2⟩ := q2 w2 HG2.out
  simp only [Nat.zero_mul, Nat.one_mul, Nat.add_zero] at e0 e1 e2 f0 f1 f2
  have hlt1 : g1 < w2.heap.size := World.block_lt_of_cell? _ _ e0
  have hlt2 : w.heap.size < w2.heap.size := BK.out.lt
  have N1 := Lib.hid n1
  have N2 := Lib.hid n2
  have HD : Hid (w2.grownBy w2.drew none) := grown_drew w2 1 none
  have z49 : ¬ 9223372036854775807 < (bs A).size + 1 := by omega
  have z51 : ¬ 9223372036854775807 < (bs A).size + 1 + 3 := by omega
  have z52 : ¬ 9223372036854775807 < (bs A).size + 1 + 3 + 1 := by omega
  have z60 : ¬ 9223372036854775807 < (bs A).size + 1 + 3 + 1 + (bs B).size := by omega
  clear y0 y1 y2 y3 q1 q2 n1 n2 x0 x1
  go_wp2_with fail
  go_region_held3 (fun w' => w'.cell? ⟨w.heap.size, 2, none⟩ = some (.slice (some ⟨g1, o1, none⟩) 2 c) ∧ w'.cell? ⟨g1, o1, none⟩ = some (.int .i64 k1) ∧ w'.cell? ⟨g1, o1 + 1, none⟩ = some (.string s1) ∧ w'.cell? ⟨g1, o1 + 2, none⟩ = some (.slice p1 m1 d1) ∧ w'.cell? ⟨g1, o1 + 3, none⟩ = some (.int .i64 k2) ∧ w'.cell? ⟨g1, o1 + 3 + 1, none⟩ = some (.string s2) ∧ w'.cell? ⟨g1, o1 + 3 + 2, none⟩ = some (.slice p2 m2 d2)) (first | exact ⟨x2, e0, e1, e2, f0, f1, f2⟩ | exact ⟨y0, y1, y2, y3, y4, y5, y6⟩ | exact ⟨z0, z1, z2, z3, z4, z5, z6⟩)
    (first
      | (go_at_call 41; have SA2 := SA; refine (CT.out _ _ _ (by first | exact .inl ⟨rfl, N1.out.still SA2.out⟩ | exact .inr ⟨rfl, N2.out.still SA2.out⟩)).mono ?_; rintro e wi ⟨he, hg⟩; (first | rw [if_pos rfl] at he | rw [if_neg (by decide)] at he); subst he; have SF : Hid (w2.grownBy wi none) := grown_trans SA2.out hg; have z0 := (grown_cell SF.out hlt2).trans x2; have z1 := (grown_cell SF.out hlt1).trans e0; have z2 := (grown_cell SF.out hlt1).trans e1; have z3 := (grown_cell SF.out hlt1).trans e2; have z4 := (grown_cell SF.out hlt1).trans f0; have z5 := (grown_cell SF.out hlt1).trans f1; have z6 := (grown_cell SF.out hlt1).trans f2; clear hg)
      | (go_at_call 41; refine (CT.out _ _ _ (by first | exact .inl ⟨rfl, N1.out.still HD.out⟩ | exact .inr ⟨rfl, N2.out.still HD.out⟩)).mono ?_; rintro e wi ⟨he, hg⟩; (first | rw [if_pos rfl] at he | rw [if_neg (by decide)] at he); subst he; have SA : Hid (w2.grownBy wi none) := grown_trans HD.out hg; have y0 := (grown_cell SA.out hlt2).trans x2; have y1 := (grown_cell SA.out hlt1).trans e0; have y2 := (grown_cell SA.out hlt1).trans e1; have y3 := (grown_cell SA.out hlt1).trans e2; have y4 := (grown_cell SA.out hlt1).trans f0; have y5 := (grown_cell SA.out hlt1).trans f1; have y6 := (grown_cell SA.out hlt1).trans f2; clear hg))
  all_goals
    have HGF : Hid (w.grownBy wi none) := grown_trans HG2.out SF.out
    have z65 : ¬ 9223372036854775807 < 1 + ((bs A).size + 1 + 3 + 1 + (bs B).size) := by omega
    have z66 : ¬ 9223372036854775807 < 1 + ((bs A).size + 1 + 3 + 1 + (bs B).size) + 1 := by omega
    clear z49 z51 z52 z60
    by_cases hlt : (2 : Int) < least
    · have hL : (1 : Int) < least - 1 := by omega
      have hj2 : ⟨#[40]⟩ ++ (bs A ++ ⟨#[32]⟩ ++ ⟨#[97, 110, 100]⟩ ++ ⟨#[32]⟩ ++ bs B) ++ ⟨#[41]⟩ = bs ([40] ++ A ++ joinW 4 ++ B ++ [41]) := by
        show bs [40] ++ (bs A ++ bs [32] ++ bs [97, 110, 100] ++ bs [32] ++ bs B) ++ bs [41] = _
        rw [bs_app, bs_app, bs_app, bs_app, bs_app, bs_app]; simp [joinW]
      have hT := HT.out
      rw [if_pos hL, if_pos hL, ← hj2] at hT
      subst hT
      clear hj2 HT
      go_wp2_with fail
      go_ret
      exact ⟨rfl, HGF.out⟩
    · have hL : ¬ (1 : Int) < least - 1 := by omega
      have hj1 : bs A ++ ⟨#[32]⟩ ++ ⟨#[97, 110, 100]⟩ ++ ⟨#[32]⟩ ++ bs B = bs ([] ++ A ++ joinW 4 ++ B ++ []) := by
        show bs A ++ bs [32] ++ bs [97, 110, 100] ++ bs [32] ++ bs B = _
        rw [bs_app, bs_app, bs_app, bs_app]; simp [joinW]
      have hT := HT.out
      rw [if_neg hL, if_neg hL, ← hj1] at hT
      subst hT
      clear hj1 HT
      go_wp2_with fail
      go_ret
      exact ⟨rfl, HGF.out⟩

set_option maxHeartbeats 8000000 in
set_option maxRecDepth 100000 in
theorem rtext_or (s : List UInt8) (l : List Nd) (ih : ∀ x ∈ l, RTextC x) : RTextC (.mk 5 s l) := by
  intro least v w hl0 hl1 hr hlen h
  obtain ⟨p0, q0, hr⟩ := hr
  obtain ⟨p, q, rfl, hp, hq⟩ := right_parts (by decide) hr
  unfold NdIs at h
  obtain ⟨a, c, rfl, _, h1⟩ := h
  have q1 := NdIs.part h1 (i := 0) (x := p) rfl
  have q2 := NdIs.part h1 (i := 1) (x := q) rfl
  obtain ⟨g1, o1, rfl, q1⟩ := q1
  obtain ⟨g2, o2, e2, q2⟩ := q2
  cases e2
  rw [text_two 5 s p q _ (by decide)] at hlen ⊢
  have hj : joinS 5 = 0 := rfl
  rw [hj] at hlen ⊢
  rw [show (0 : Int) + 1 = 1 by decide] at hlen ⊢
  obtain ⟨A, hA⟩ : ∃ A, textP p 0 = A := ⟨_, rfl⟩
  obtain ⟨B, hB⟩ : ∃ B, textP q 1 = B := ⟨_, rfl⟩
  rw [hA, hB] at hlen ⊢
  have hlA : A.length ≤ 100000000 := by simp only [List.length_append] at hlen; omega
  have hlB : B.length ≤ 100000000 := by simp only [List.length_append] at hlen; omega
  have HP : Hid (RTextC p) := ih p (by simp)
  have HQ : Hid (RTextC q) := ih q (by simp)
  have CT : Hid (∀ (m : Int) (v : Value) (w : World), (m = 1 ∧ NdIs Any w p v) ∨ (m = 2 ∧ NdIs Any w q v) → Calls Tryz.prog 41 #[v, .int .i64 m] w fun e w' => e = .returned (.string (if m = 1 then bs A else bs B)) ∧ w.grownBy w' none) := by
    rintro m v w (⟨rfl, hn⟩ | ⟨rfl, hn⟩)
    · have := HP.out 1 v w (by decide) (by decide) hp (by rw [show (1 : Int) - 1 = 0 by decide, hA]; exact hlA) hn
      rw [show (1 : Int) - 1 = 0 by decide, hA] at this
      exact this
    · have := HQ.out 2 v w (by decide) (by decide) hq (by rw [show (2 : Int) - 1 = 1 by decide, hB]; exact hlB) hn
      rw [show (2 : Int) - 1 = 1 by decide, hB] at this
      exact this
  have hsA : (bs A).size ≤ 100000000 := by rw [bs_size]; exact hlA
  have hsB : (bs B).size ≤ 100000000 := by rw [bs_size]; exact hlB
  have hlen2 : ([p, q] : List Nd).length = 2 := rfl
  rw [hlen2]
  have HG2 : Hid (w.grownBy ((w.alloc (.cells #[.int .i64 5, .string (bs s), .slice (some ⟨g1, o1, none⟩) 2 c] 37)).alloc (.cells #[.string ⟨#[97, 110, 100]⟩, .string ⟨#[111, 114]⟩, .string ⟨#[110, 111, 116]⟩, .string ⟨#[120, 111, 114]⟩] 9)) none) := grown_trans (grown_alloc _ _ _) (grown_alloc _ _ _)
  have b1 := Blk3.new w (.int .i64 5) (.string (bs s)) (.slice (some ⟨g1, o1, none⟩) 2 c)
  have b2 : Blk3 ((w.alloc (.cells #[.int .i64 5, .string (bs s), .slice (some ⟨g1, o1, none⟩) 2 c] 37)).alloc (.cells #[.string ⟨#[97, 110, 100]⟩, .string ⟨#[111, 114]⟩, .string ⟨#[110, 111, 116]⟩, .string ⟨#[120, 111, 114]⟩] 9)) w.heap.size (.int .i64 5) (.string (bs s)) (.slice (some ⟨g1, o1, none⟩) 2 c) := b1.grown (grown_alloc _ _ none) (by simp)
  have BK := Lib.hid b2
  have HW : Hid (∀ (j : Nat) (u : Value), ([.string ⟨#[97, 110, 100]⟩, .string ⟨#[111, 114]⟩, .string ⟨#[110, 111, 116]⟩, .string ⟨#[120, 111, 114]⟩] : List Value)[j]? = some u → ((w.alloc (.cells #[.int .i64 5, .string (bs s), .slice (some ⟨g1, o1, none⟩) 2 c] 37)).alloc (.cells #[.string ⟨#[97, 110, 100]⟩, .string ⟨#[111, 114]⟩, .string ⟨#[110, 111, 116]⟩, .string ⟨#[120, 111, 114]⟩] 9)).cell? ⟨w.heap.size + 1, j, none⟩ = some u) := fun j u hj => cell_at (w.alloc (.cells #[.int .i64 5, .string (bs s), .slice (some ⟨g1, o1, none⟩) 2 c] 37)) [.string ⟨#[97, 110, 100]⟩, .string ⟨#[111, 114]⟩, .string ⟨#[110, 111, 116]⟩, .string ⟨#[120, 111, 114]⟩] 9 (w.heap.size + 1) (by simp) j u hj
  obtain ⟨x0, x1, x2, _, _, _⟩ := b1.cells
  clear b1 b2 hA hB hp hq hr HP HQ hlA hlB h1 ih hlen2 hj hlen
  obtain ⟨T, hT⟩ : ∃ T, bs ((if (0 : Int) < least - 1 then [40] else []) ++ A ++ joinW 5 ++ B ++ (if (0 : Int) < least - 1 then [41] else [])) = T := ⟨_, rfl⟩
  rw [hT]
  have HT := Lib.hid hT
  clear hT
  go_enter Tryz.func41, Tryz.ntmps41
  go_wp2_with fail
  clear x0 x1 x2
  have y0 := HW.out 0 _ rfl
  have y1 := HW.out 1 _ rfl
  have y2 := HW.out 2 _ rfl
  have y3 := HW.out 3 _ rfl
  obtain ⟨x0, x1, x2, _, _, _⟩ := BK.out.cells
  clear HW
  generalize ((w.alloc (.cells #[.int .i64 5, .string (bs s), .slice (some ⟨g1, o1, none⟩) 2 c] 37)).alloc (.cells #[.string ⟨#[97, 110, 100]⟩, .string ⟨#[111, 114]⟩, .string ⟨#[110, 111, 116]⟩, .string ⟨#[120, 111, 114]⟩] 9)) = w2 at *
  refine wp_loop_rounds 5 ?_
  rw [rounds_succ]
  go_wp2_with fail
  refine (op_and w2).mono ?_
  rintro e w' ⟨rfl, rfl⟩
  go_wp2_with fail
  rw [rounds_succ]
  go_wp2_with fail
  refine (op_or w2).mono ?_
  rintro e w' ⟨rfl, rfl⟩
  go_wp2_with fail
  rw [rounds_succ]
  go_wp2_with fail
  refine (op_not w2).mono ?_
  rintro e w' ⟨rfl, rfl⟩
  go_wp2_with fail
  rw [rounds_succ]
  go_wp2_with fail
  refine (op_xor w2).mono ?_
  rintro e w' ⟨rfl, rfl⟩
  go_wp2_with fail
  rw [rounds_succ]
  obtain ⟨k1, s1, p1, m1, d1, ⟨e0, e1, e2⟩, n1⟩ := q1 w2 HG2.out
  obtain ⟨k2, s2, p2, m2, d2, ⟨f0, f1, f2⟩, n2⟩ := q2 w2 HG2.out
  simp only [Nat.zero_mul, Nat.one_mul, Nat.add_zero] at e0 e1 e2 f0 f1 f2
  have hlt1 : g1 < w2.heap.size := World.block_lt_of_cell? _ _ e0
  have hlt2 : w.heap.size < w2.heap.size := BK.out.lt
  have N1 := Lib.hid n1
  have N2 := Lib.hid n2
  have HD : Hid (w2.grownBy w2.drew none) := grown_drew w2 1 none
  have z49 : ¬ 9223372036854775807 < (bs A).size + 1 := by omega
  have z51 : ¬ 9223372036854775807 < (bs A).size + 1 + 2 := by omega
  have z52 : ¬ 9223372036854775807 < (bs A).size + 1 + 2 + 1 := by omega
  have z60 : ¬ 9223372036854775807 < (bs A).size + 1 + 2 + 1 + (bs B).size := by omega
  clear y0 y1 y2 y3 q1 q2 n1 n2 x0 x1
  go_wp2_with fail
  go_region_held3 (fun w' => w'.cell? ⟨w.heap.size, 2, none⟩ = some (.slice (some ⟨g1, o1, none⟩) 2 c) ∧ w'.cell? ⟨g1, o1, none⟩ = some (.int .i64 k1) ∧ w'.cell? ⟨g1, o1 + 1, none⟩ = some (.string s1) ∧ w'.cell? ⟨g1, o1 + 2, none⟩ = some (.slice p1 m1 d1) ∧ w'.cell? ⟨g1, o1 + 3, none⟩ = some (.int .i64 k2) ∧ w'.cell? ⟨g1, o1 + 3 + 1, none⟩ = some (.string s2) ∧ w'.cell? ⟨g1, o1 + 3 + 2, none⟩ = some (.slice p2 m2 d2)) (first | exact ⟨x2, e0, e1, e2, f0, f1, f2⟩ | exact ⟨y0, y1, y2, y3, y4, y5, y6⟩ | exact ⟨z0, z1, z2, z3, z4, z5, z6⟩)
    (first
      | (go_at_call 41; have SA2 := SA; refine (CT.out _ _ _ (by first | exact .inl ⟨rfl, N1.out.still SA2.out⟩ | exact .inr ⟨rfl, N2.out.still SA2.out⟩)).mono ?_; rintro e wi ⟨he, hg⟩; (first | rw [if_pos rfl] at he | rw [if_neg (by decide)] at he); subst he; have SF : Hid (w2.grownBy wi none) := grown_trans SA2.out hg; have z0 := (grown_cell SF.out hlt2).trans x2; have z1 := (grown_cell SF.out hlt1).trans e0; have z2 := (grown_cell SF.out hlt1).trans e1; have z3 := (grown_cell SF.out hlt1).trans e2; have z4 := (grown_cell SF.out hlt1).trans f0; have z5 := (grown_cell SF.out hlt1).trans f1; have z6 := (grown_cell SF.out hlt1).trans f2; clear hg)
      | (go_at_call 41; refine (CT.out _ _ _ (by first | exact .inl ⟨rfl, N1.out.still HD.out⟩ | exact .inr ⟨rfl, N2.out.still HD.out⟩)).mono ?_; rintro e wi ⟨he, hg⟩; (first | rw [if_pos rfl] at he | rw [if_neg (by decide)] at he); subst he; have SA : Hid (w2.grownBy wi none) := grown_trans HD.out hg; have y0 := (grown_cell SA.out hlt2).trans x2; have y1 := (grown_cell SA.out hlt1).trans e0; have y2 := (grown_cell SA.out hlt1).trans e1; have y3 := (grown_cell SA.out hlt1).trans e2; have y4 := (grown_cell SA.out hlt1).trans f0; have y5 := (grown_cell SA.out hlt1).trans f1; have y6 := (grown_cell SA.out hlt1).trans f2; clear hg))
  all_goals
    have HGF : Hid (w.grownBy wi none) := grown_trans HG2.out SF.out
    have z65 : ¬ 9223372036854775807 < 1 + ((bs A).size + 1 + 2 + 1 + (bs B).size) := by omega
    have z66 : ¬ 9223372036854775807 < 1 + ((bs A).size + 1 + 2 + 1 + (bs B).size) + 1 := by omega
    clear z49 z51 z52 z60
    by_cases hlt : (1 : Int) < least
    · have hL : (0 : Int) < least - 1 := by omega
      have hj2 : ⟨#[40]⟩ ++ (bs A ++ ⟨#[32]⟩ ++ ⟨#[111, 114]⟩ ++ ⟨#[32]⟩ ++ bs B) ++ ⟨#[41]⟩ = bs ([40] ++ A ++ joinW 5 ++ B ++ [41]) := by
        show bs [40] ++ (bs A ++ bs [32] ++ bs [111, 114] ++ bs [32] ++ bs B) ++ bs [41] = _
        rw [bs_app, bs_app, bs_app, bs_app, bs_app, bs_app]; simp [joinW]
      have hT := HT.out
      rw [if_pos hL, if_pos hL, ← hj2] at hT
      subst hT
      clear hj2 HT
      go_wp2_with fail
      go_ret
      exact ⟨rfl, HGF.out⟩
    · have hL : ¬ (0 : Int) < least - 1 := by omega
      have hj1 : bs A ++ ⟨#[32]⟩ ++ ⟨#[111, 114]⟩ ++ ⟨#[32]⟩ ++ bs B = bs ([] ++ A ++ joinW 5 ++ B ++ []) := by
        show bs A ++ bs [32] ++ bs [111, 114] ++ bs [32] ++ bs B = _
        rw [bs_app, bs_app, bs_app, bs_app]; simp [joinW]
      have hT := HT.out
      rw [if_neg hL, if_neg hL, ← hj1] at hT
      subst hT
      clear hj1 HT
      go_wp2_with fail
      go_ret
      exact ⟨rfl, HGF.out⟩

set_option maxHeartbeats 8000000 in
set_option maxRecDepth 100000 in
theorem rtext_not (s : List UInt8) (l : List Nd) (ih : ∀ x ∈ l, RTextC x) : RTextC (.mk 6 s l) := by
  intro least v w hl0 hl1 hr hlen h
  obtain ⟨p0, q0, hr⟩ := hr
  obtain ⟨p, q, rfl, hp, hq⟩ := right_parts (by decide) hr
  unfold NdIs at h
  obtain ⟨a, c, rfl, _, h1⟩ := h
  have q1 := NdIs.part h1 (i := 0) (x := p) rfl
  have q2 := NdIs.part h1 (i := 1) (x := q) rfl
  obtain ⟨g1, o1, rfl, q1⟩ := q1
  obtain ⟨g2, o2, e2, q2⟩ := q2
  cases e2
  rw [text_two 6 s p q _ (by decide)] at hlen ⊢
  have hj : joinS 6 = 0 := rfl
  rw [hj] at hlen ⊢
  rw [show (0 : Int) + 1 = 1 by decide] at hlen ⊢
  obtain ⟨A, hA⟩ : ∃ A, textP p 0 = A := ⟨_, rfl⟩
  obtain ⟨B, hB⟩ : ∃ B, textP q 1 = B := ⟨_, rfl⟩
  rw [hA, hB] at hlen ⊢
  have hlA : A.length ≤ 100000000 := by simp only [List.length_append] at hlen; omega
  have hlB : B.length ≤ 100000000 := by simp only [List.length_append] at hlen; omega
  have HP : Hid (RTextC p) := ih p (by simp)
  have HQ : Hid (RTextC q) := ih q (by simp)
  have CT : Hid (∀ (m : Int) (v : Value) (w : World), (m = 1 ∧ NdIs Any w p v) ∨ (m = 2 ∧ NdIs Any w q v) → Calls Tryz.prog 41 #[v, .int .i64 m] w fun e w' => e = .returned (.string (if m = 1 then bs A else bs B)) ∧ w.grownBy w' none) := by
    rintro m v w (⟨rfl, hn⟩ | ⟨rfl, hn⟩)
    · have := HP.out 1 v w (by decide) (by decide) hp (by rw [show (1 : Int) - 1 = 0 by decide, hA]; exact hlA) hn
      rw [show (1 : Int) - 1 = 0 by decide, hA] at this
      exact this
    · have := HQ.out 2 v w (by decide) (by decide) hq (by rw [show (2 : Int) - 1 = 1 by decide, hB]; exact hlB) hn
      rw [show (2 : Int) - 1 = 1 by decide, hB] at this
      exact this
  have hsA : (bs A).size ≤ 100000000 := by rw [bs_size]; exact hlA
  have hsB : (bs B).size ≤ 100000000 := by rw [bs_size]; exact hlB
  have hlen2 : ([p, q] : List Nd).length = 2 := rfl
  rw [hlen2]
  have HG2 : Hid (w.grownBy ((w.alloc (.cells #[.int .i64 6, .string (bs s), .slice (some ⟨g1, o1, none⟩) 2 c] 37)).alloc (.cells #[.string ⟨#[97, 110, 100]⟩, .string ⟨#[111, 114]⟩, .string ⟨#[110, 111, 116]⟩, .string ⟨#[120, 111, 114]⟩] 9)) none) := grown_trans (grown_alloc _ _ _) (grown_alloc _ _ _)
  have b1 := Blk3.new w (.int .i64 6) (.string (bs s)) (.slice (some ⟨g1, o1, none⟩) 2 c)
  have b2 : Blk3 ((w.alloc (.cells #[.int .i64 6, .string (bs s), .slice (some ⟨g1, o1, none⟩) 2 c] 37)).alloc (.cells #[.string ⟨#[97, 110, 100]⟩, .string ⟨#[111, 114]⟩, .string ⟨#[110, 111, 116]⟩, .string ⟨#[120, 111, 114]⟩] 9)) w.heap.size (.int .i64 6) (.string (bs s)) (.slice (some ⟨g1, o1, none⟩) 2 c) := b1.grown (grown_alloc _ _ none) (by simp)
  have BK := Lib.hid b2
  have HW : Hid (∀ (j : Nat) (u : Value), ([.string ⟨#[97, 110, 100]⟩, .string ⟨#[111, 114]⟩, .string ⟨#[110, 111, 116]⟩, .string ⟨#[120, 111, 114]⟩] : List Value)[j]? = some u → ((w.alloc (.cells #[.int .i64 6, .string (bs s), .slice (some ⟨g1, o1, none⟩) 2 c] 37)).alloc (.cells #[.string ⟨#[97, 110, 100]⟩, .string ⟨#[111, 114]⟩, .string ⟨#[110, 111, 116]⟩, .string ⟨#[120, 111, 114]⟩] 9)).cell? ⟨w.heap.size + 1, j, none⟩ = some u) := fun j u hj => cell_at (w.alloc (.cells #[.int .i64 6, .string (bs s), .slice (some ⟨g1, o1, none⟩) 2 c] 37)) [.string ⟨#[97, 110, 100]⟩, .string ⟨#[111, 114]⟩, .string ⟨#[110, 111, 116]⟩, .string ⟨#[120, 111, 114]⟩] 9 (w.heap.size + 1) (by simp) j u hj
  obtain ⟨x0, x1, x2, _, _, _⟩ := b1.cells
  clear b1 b2 hA hB hp hq hr HP HQ hlA hlB h1 ih hlen2 hj hlen
  obtain ⟨T, hT⟩ : ∃ T, bs ((if (0 : Int) < least - 1 then [40] else []) ++ A ++ joinW 6 ++ B ++ (if (0 : Int) < least - 1 then [41] else [])) = T := ⟨_, rfl⟩
  rw [hT]
  have HT := Lib.hid hT
  clear hT
  go_enter Tryz.func41, Tryz.ntmps41
  go_wp2_with fail
  clear x0 x1 x2
  have y0 := HW.out 0 _ rfl
  have y1 := HW.out 1 _ rfl
  have y2 := HW.out 2 _ rfl
  have y3 := HW.out 3 _ rfl
  obtain ⟨x0, x1, x2, _, _, _⟩ := BK.out.cells
  clear HW
  generalize ((w.alloc (.cells #[.int .i64 6, .string (bs s), .slice (some ⟨g1, o1, none⟩) 2 c] 37)).alloc (.cells #[.string ⟨#[97, 110, 100]⟩, .string ⟨#[111, 114]⟩, .string ⟨#[110, 111, 116]⟩, .string ⟨#[120, 111, 114]⟩] 9)) = w2 at *
  refine wp_loop_rounds 5 ?_
  rw [rounds_succ]
  go_wp2_with fail
  refine (op_and w2).mono ?_
  rintro e w' ⟨rfl, rfl⟩
  go_wp2_with fail
  rw [rounds_succ]
  go_wp2_with fail
  refine (op_or w2).mono ?_
  rintro e w' ⟨rfl, rfl⟩
  go_wp2_with fail
  rw [rounds_succ]
  go_wp2_with fail
  refine (op_not w2).mono ?_
  rintro e w' ⟨rfl, rfl⟩
  go_wp2_with fail
  rw [rounds_succ]
  go_wp2_with fail
  refine (op_xor w2).mono ?_
  rintro e w' ⟨rfl, rfl⟩
  go_wp2_with fail
  rw [rounds_succ]
  obtain ⟨k1, s1, p1, m1, d1, ⟨e0, e1, e2⟩, n1⟩ := q1 w2 HG2.out
  obtain ⟨k2, s2, p2, m2, d2, ⟨f0, f1, f2⟩, n2⟩ := q2 w2 HG2.out
  simp only [Nat.zero_mul, Nat.one_mul, Nat.add_zero] at e0 e1 e2 f0 f1 f2
  have hlt1 : g1 < w2.heap.size := World.block_lt_of_cell? _ _ e0
  have hlt2 : w.heap.size < w2.heap.size := BK.out.lt
  have N1 := Lib.hid n1
  have N2 := Lib.hid n2
  have HD : Hid (w2.grownBy w2.drew none) := grown_drew w2 1 none
  have z49 : ¬ 9223372036854775807 < (bs A).size + 1 := by omega
  have z51 : ¬ 9223372036854775807 < (bs A).size + 1 + 3 := by omega
  have z52 : ¬ 9223372036854775807 < (bs A).size + 1 + 3 + 1 := by omega
  have z60 : ¬ 9223372036854775807 < (bs A).size + 1 + 3 + 1 + (bs B).size := by omega
  clear y0 y1 y2 y3 q1 q2 n1 n2 x0 x1
  go_wp2_with fail
  go_region_held3 (fun w' => w'.cell? ⟨w.heap.size, 2, none⟩ = some (.slice (some ⟨g1, o1, none⟩) 2 c) ∧ w'.cell? ⟨g1, o1, none⟩ = some (.int .i64 k1) ∧ w'.cell? ⟨g1, o1 + 1, none⟩ = some (.string s1) ∧ w'.cell? ⟨g1, o1 + 2, none⟩ = some (.slice p1 m1 d1) ∧ w'.cell? ⟨g1, o1 + 3, none⟩ = some (.int .i64 k2) ∧ w'.cell? ⟨g1, o1 + 3 + 1, none⟩ = some (.string s2) ∧ w'.cell? ⟨g1, o1 + 3 + 2, none⟩ = some (.slice p2 m2 d2)) (first | exact ⟨x2, e0, e1, e2, f0, f1, f2⟩ | exact ⟨y0, y1, y2, y3, y4, y5, y6⟩ | exact ⟨z0, z1, z2, z3, z4, z5, z6⟩)
    (first
      | (go_at_call 41; have SA2 := SA; refine (CT.out _ _ _ (by first | exact .inl ⟨rfl, N1.out.still SA2.out⟩ | exact .inr ⟨rfl, N2.out.still SA2.out⟩)).mono ?_; rintro e wi ⟨he, hg⟩; (first | rw [if_pos rfl] at he | rw [if_neg (by decide)] at he); subst he; have SF : Hid (w2.grownBy wi none) := grown_trans SA2.out hg; have z0 := (grown_cell SF.out hlt2).trans x2; have z1 := (grown_cell SF.out hlt1).trans e0; have z2 := (grown_cell SF.out hlt1).trans e1; have z3 := (grown_cell SF.out hlt1).trans e2; have z4 := (grown_cell SF.out hlt1).trans f0; have z5 := (grown_cell SF.out hlt1).trans f1; have z6 := (grown_cell SF.out hlt1).trans f2; clear hg)
      | (go_at_call 41; refine (CT.out _ _ _ (by first | exact .inl ⟨rfl, N1.out.still HD.out⟩ | exact .inr ⟨rfl, N2.out.still HD.out⟩)).mono ?_; rintro e wi ⟨he, hg⟩; (first | rw [if_pos rfl] at he | rw [if_neg (by decide)] at he); subst he; have SA : Hid (w2.grownBy wi none) := grown_trans HD.out hg; have y0 := (grown_cell SA.out hlt2).trans x2; have y1 := (grown_cell SA.out hlt1).trans e0; have y2 := (grown_cell SA.out hlt1).trans e1; have y3 := (grown_cell SA.out hlt1).trans e2; have y4 := (grown_cell SA.out hlt1).trans f0; have y5 := (grown_cell SA.out hlt1).trans f1; have y6 := (grown_cell SA.out hlt1).trans f2; clear hg))
  all_goals
    have HGF : Hid (w.grownBy wi none) := grown_trans HG2.out SF.out
    have z65 : ¬ 9223372036854775807 < 1 + ((bs A).size + 1 + 3 + 1 + (bs B).size) := by omega
    have z66 : ¬ 9223372036854775807 < 1 + ((bs A).size + 1 + 3 + 1 + (bs B).size) + 1 := by omega
    clear z49 z51 z52 z60
    by_cases hlt : (1 : Int) < least
    · have hL : (0 : Int) < least - 1 := by omega
      have hj2 : ⟨#[40]⟩ ++ (bs A ++ ⟨#[32]⟩ ++ ⟨#[110, 111, 116]⟩ ++ ⟨#[32]⟩ ++ bs B) ++ ⟨#[41]⟩ = bs ([40] ++ A ++ joinW 6 ++ B ++ [41]) := by
        show bs [40] ++ (bs A ++ bs [32] ++ bs [110, 111, 116] ++ bs [32] ++ bs B) ++ bs [41] = _
        rw [bs_app, bs_app, bs_app, bs_app, bs_app, bs_app]; simp [joinW]
      have hT := HT.out
      rw [if_pos hL, if_pos hL, ← hj2] at hT
      subst hT
      clear hj2 HT
      go_wp2_with fail
      go_ret
      exact ⟨rfl, HGF.out⟩
    · have hL : ¬ (0 : Int) < least - 1 := by omega
      have hj1 : bs A ++ ⟨#[32]⟩ ++ ⟨#[110, 111, 116]⟩ ++ ⟨#[32]⟩ ++ bs B = bs ([] ++ A ++ joinW 6 ++ B ++ []) := by
        show bs A ++ bs [32] ++ bs [110, 111, 116] ++ bs [32] ++ bs B = _
        rw [bs_app, bs_app, bs_app, bs_app]; simp [joinW]
      have hT := HT.out
      rw [if_neg hL, if_neg hL, ← hj1] at hT
      subst hT
      clear hj1 HT
      go_wp2_with fail
      go_ret
      exact ⟨rfl, HGF.out⟩

set_option maxHeartbeats 8000000 in
set_option maxRecDepth 100000 in
theorem rtext_xor (s : List UInt8) (l : List Nd) (ih : ∀ x ∈ l, RTextC x) : RTextC (.mk 7 s l) := by
  intro least v w hl0 hl1 hr hlen h
  obtain ⟨p0, q0, hr⟩ := hr
  obtain ⟨p, q, rfl, hp, hq⟩ := right_parts (by decide) hr
  unfold NdIs at h
  obtain ⟨a, c, rfl, _, h1⟩ := h
  have q1 := NdIs.part h1 (i := 0) (x := p) rfl
  have q2 := NdIs.part h1 (i := 1) (x := q) rfl
  obtain ⟨g1, o1, rfl, q1⟩ := q1
  obtain ⟨g2, o2, e2, q2⟩ := q2
  cases e2
  rw [text_two 7 s p q _ (by decide)] at hlen ⊢
  have hj : joinS 7 = 0 := rfl
  rw [hj] at hlen ⊢
  rw [show (0 : Int) + 1 = 1 by decide] at hlen ⊢
  obtain ⟨A, hA⟩ : ∃ A, textP p 0 = A := ⟨_, rfl⟩
  obtain ⟨B, hB⟩ : ∃ B, textP q 1 = B := ⟨_, rfl⟩
  rw [hA, hB] at hlen ⊢
  have hlA : A.length ≤ 100000000 := by simp only [List.length_append] at hlen; omega
  have hlB : B.length ≤ 100000000 := by simp only [List.length_append] at hlen; omega
  have HP : Hid (RTextC p) := ih p (by simp)
  have HQ : Hid (RTextC q) := ih q (by simp)
  have CT : Hid (∀ (m : Int) (v : Value) (w : World), (m = 1 ∧ NdIs Any w p v) ∨ (m = 2 ∧ NdIs Any w q v) → Calls Tryz.prog 41 #[v, .int .i64 m] w fun e w' => e = .returned (.string (if m = 1 then bs A else bs B)) ∧ w.grownBy w' none) := by
    rintro m v w (⟨rfl, hn⟩ | ⟨rfl, hn⟩)
    · have := HP.out 1 v w (by decide) (by decide) hp (by rw [show (1 : Int) - 1 = 0 by decide, hA]; exact hlA) hn
      rw [show (1 : Int) - 1 = 0 by decide, hA] at this
      exact this
    · have := HQ.out 2 v w (by decide) (by decide) hq (by rw [show (2 : Int) - 1 = 1 by decide, hB]; exact hlB) hn
      rw [show (2 : Int) - 1 = 1 by decide, hB] at this
      exact this
  have hsA : (bs A).size ≤ 100000000 := by rw [bs_size]; exact hlA
  have hsB : (bs B).size ≤ 100000000 := by rw [bs_size]; exact hlB
  have hlen2 : ([p, q] : List Nd).length = 2 := rfl
  rw [hlen2]
  have HG2 : Hid (w.grownBy ((w.alloc (.cells #[.int .i64 7, .string (bs s), .slice (some ⟨g1, o1, none⟩) 2 c] 37)).alloc (.cells #[.string ⟨#[97, 110, 100]⟩, .string ⟨#[111, 114]⟩, .string ⟨#[110, 111, 116]⟩, .string ⟨#[120, 111, 114]⟩] 9)) none) := grown_trans (grown_alloc _ _ _) (grown_alloc _ _ _)
  have b1 := Blk3.new w (.int .i64 7) (.string (bs s)) (.slice (some ⟨g1, o1, none⟩) 2 c)
  have b2 : Blk3 ((w.alloc (.cells #[.int .i64 7, .string (bs s), .slice (some ⟨g1, o1, none⟩) 2 c] 37)).alloc (.cells #[.string ⟨#[97, 110, 100]⟩, .string ⟨#[111, 114]⟩, .string ⟨#[110, 111, 116]⟩, .string ⟨#[120, 111, 114]⟩] 9)) w.heap.size (.int .i64 7) (.string (bs s)) (.slice (some ⟨g1, o1, none⟩) 2 c) := b1.grown (grown_alloc _ _ none) (by simp)
  have BK := Lib.hid b2
  have HW : Hid (∀ (j : Nat) (u : Value), ([.string ⟨#[97, 110, 100]⟩, .string ⟨#[111, 114]⟩, .string ⟨#[110, 111, 116]⟩, .string ⟨#[120, 111, 114]⟩] : List Value)[j]? = some u → ((w.alloc (.cells #[.int .i64 7, .string (bs s), .slice (some ⟨g1, o1, none⟩) 2 c] 37)).alloc (.cells #[.string ⟨#[97, 110, 100]⟩, .string ⟨#[111, 114]⟩, .string ⟨#[110, 111, 116]⟩, .string ⟨#[120, 111, 114]⟩] 9)).cell? ⟨w.heap.size + 1, j, none⟩ = some u) := fun j u hj => cell_at (w.alloc (.cells #[.int .i64 7, .string (bs s), .slice (some ⟨g1, o1, none⟩) 2 c] 37)) [.string ⟨#[97, 110, 100]⟩, .string ⟨#[111, 114]⟩, .string ⟨#[110, 111, 116]⟩, .string ⟨#[120, 111, 114]⟩] 9 (w.heap.size + 1) (by simp) j u hj
  obtain ⟨x0, x1, x2, _, _, _⟩ := b1.cells
  clear b1 b2 hA hB hp hq hr HP HQ hlA hlB h1 ih hlen2 hj hlen
  obtain ⟨T, hT⟩ : ∃ T, bs ((if (0 : Int) < least - 1 then [40] else []) ++ A ++ joinW 7 ++ B ++ (if (0 : Int) < least - 1 then [41] else [])) = T := ⟨_, rfl⟩
  rw [hT]
  have HT := Lib.hid hT
  clear hT
  go_enter Tryz.func41, Tryz.ntmps41
  go_wp2_with fail
  clear x0 x1 x2
  have y0 := HW.out 0 _ rfl
  have y1 := HW.out 1 _ rfl
  have y2 := HW.out 2 _ rfl
  have y3 := HW.out 3 _ rfl
  obtain ⟨x0, x1, x2, _, _, _⟩ := BK.out.cells
  clear HW
  generalize ((w.alloc (.cells #[.int .i64 7, .string (bs s), .slice (some ⟨g1, o1, none⟩) 2 c] 37)).alloc (.cells #[.string ⟨#[97, 110, 100]⟩, .string ⟨#[111, 114]⟩, .string ⟨#[110, 111, 116]⟩, .string ⟨#[120, 111, 114]⟩] 9)) = w2 at *
  refine wp_loop_rounds 5 ?_
  rw [rounds_succ]
  go_wp2_with fail
  refine (op_and w2).mono ?_
  rintro e w' ⟨rfl, rfl⟩
  go_wp2_with fail
  rw [rounds_succ]
  go_wp2_with fail
  refine (op_or w2).mono ?_
  rintro e w' ⟨rfl, rfl⟩
  go_wp2_with fail
  rw [rounds_succ]
  go_wp2_with fail
  refine (op_not w2).mono ?_
  rintro e w' ⟨rfl, rfl⟩
  go_wp2_with fail
  rw [rounds_succ]
  go_wp2_with fail
  refine (op_xor w2).mono ?_
  rintro e w' ⟨rfl, rfl⟩
  go_wp2_with fail
  rw [rounds_succ]
  obtain ⟨k1, s1, p1, m1, d1, ⟨e0, e1, e2⟩, n1⟩ := q1 w2 HG2.out
  obtain ⟨k2, s2, p2, m2, d2, ⟨f0, f1, f2⟩, n2⟩ := q2 w2 HG2.out
  simp only [Nat.zero_mul, Nat.one_mul, Nat.add_zero] at e0 e1 e2 f0 f1 f2
  have hlt1 : g1 < w2.heap.size := World.block_lt_of_cell? _ _ e0
  have hlt2 : w.heap.size < w2.heap.size := BK.out.lt
  have N1 := Lib.hid n1
  have N2 := Lib.hid n2
  have HD : Hid (w2.grownBy w2.drew none) := grown_drew w2 1 none
  have z49 : ¬ 9223372036854775807 < (bs A).size + 1 := by omega
  have z51 : ¬ 9223372036854775807 < (bs A).size + 1 + 3 := by omega
  have z52 : ¬ 9223372036854775807 < (bs A).size + 1 + 3 + 1 := by omega
  have z60 : ¬ 9223372036854775807 < (bs A).size + 1 + 3 + 1 + (bs B).size := by omega
  clear y0 y1 y2 y3 q1 q2 n1 n2 x0 x1
  go_wp2_with fail
  go_region_held3 (fun w' => w'.cell? ⟨w.heap.size, 2, none⟩ = some (.slice (some ⟨g1, o1, none⟩) 2 c) ∧ w'.cell? ⟨g1, o1, none⟩ = some (.int .i64 k1) ∧ w'.cell? ⟨g1, o1 + 1, none⟩ = some (.string s1) ∧ w'.cell? ⟨g1, o1 + 2, none⟩ = some (.slice p1 m1 d1) ∧ w'.cell? ⟨g1, o1 + 3, none⟩ = some (.int .i64 k2) ∧ w'.cell? ⟨g1, o1 + 3 + 1, none⟩ = some (.string s2) ∧ w'.cell? ⟨g1, o1 + 3 + 2, none⟩ = some (.slice p2 m2 d2)) (first | exact ⟨x2, e0, e1, e2, f0, f1, f2⟩ | exact ⟨y0, y1, y2, y3, y4, y5, y6⟩ | exact ⟨z0, z1, z2, z3, z4, z5, z6⟩)
    (first
      | (go_at_call 41; have SA2 := SA; refine (CT.out _ _ _ (by first | exact .inl ⟨rfl, N1.out.still SA2.out⟩ | exact .inr ⟨rfl, N2.out.still SA2.out⟩)).mono ?_; rintro e wi ⟨he, hg⟩; (first | rw [if_pos rfl] at he | rw [if_neg (by decide)] at he); subst he; have SF : Hid (w2.grownBy wi none) := grown_trans SA2.out hg; have z0 := (grown_cell SF.out hlt2).trans x2; have z1 := (grown_cell SF.out hlt1).trans e0; have z2 := (grown_cell SF.out hlt1).trans e1; have z3 := (grown_cell SF.out hlt1).trans e2; have z4 := (grown_cell SF.out hlt1).trans f0; have z5 := (grown_cell SF.out hlt1).trans f1; have z6 := (grown_cell SF.out hlt1).trans f2; clear hg)
      | (go_at_call 41; refine (CT.out _ _ _ (by first | exact .inl ⟨rfl, N1.out.still HD.out⟩ | exact .inr ⟨rfl, N2.out.still HD.out⟩)).mono ?_; rintro e wi ⟨he, hg⟩; (first | rw [if_pos rfl] at he | rw [if_neg (by decide)] at he); subst he; have SA : Hid (w2.grownBy wi none) := grown_trans HD.out hg; have y0 := (grown_cell SA.out hlt2).trans x2; have y1 := (grown_cell SA.out hlt1).trans e0; have y2 := (grown_cell SA.out hlt1).trans e1; have y3 := (grown_cell SA.out hlt1).trans e2; have y4 := (grown_cell SA.out hlt1).trans f0; have y5 := (grown_cell SA.out hlt1).trans f1; have y6 := (grown_cell SA.out hlt1).trans f2; clear hg))
  all_goals
    have HGF : Hid (w.grownBy wi none) := grown_trans HG2.out SF.out
    have z65 : ¬ 9223372036854775807 < 1 + ((bs A).size + 1 + 3 + 1 + (bs B).size) := by omega
    have z66 : ¬ 9223372036854775807 < 1 + ((bs A).size + 1 + 3 + 1 + (bs B).size) + 1 := by omega
    clear z49 z51 z52 z60
    by_cases hlt : (1 : Int) < least
    · have hL : (0 : Int) < least - 1 := by omega
      have hj2 : ⟨#[40]⟩ ++ (bs A ++ ⟨#[32]⟩ ++ ⟨#[120, 111, 114]⟩ ++ ⟨#[32]⟩ ++ bs B) ++ ⟨#[41]⟩ = bs ([40] ++ A ++ joinW 7 ++ B ++ [41]) := by
        show bs [40] ++ (bs A ++ bs [32] ++ bs [120, 111, 114] ++ bs [32] ++ bs B) ++ bs [41] = _
        rw [bs_app, bs_app, bs_app, bs_app, bs_app, bs_app]; simp [joinW]
      have hT := HT.out
      rw [if_pos hL, if_pos hL, ← hj2] at hT
      subst hT
      clear hj2 HT
      go_wp2_with fail
      go_ret
      exact ⟨rfl, HGF.out⟩
    · have hL : ¬ (0 : Int) < least - 1 := by omega
      have hj1 : bs A ++ ⟨#[32]⟩ ++ ⟨#[120, 111, 114]⟩ ++ ⟨#[32]⟩ ++ bs B = bs ([] ++ A ++ joinW 7 ++ B ++ []) := by
        show bs A ++ bs [32] ++ bs [120, 111, 114] ++ bs [32] ++ bs B = _
        rw [bs_app, bs_app, bs_app, bs_app]; simp [joinW]
      have hT := HT.out
      rw [if_neg hL, if_neg hL, ← hj1] at hT
      subst hT
      clear hj1 HT
      go_wp2_with fail
      go_ret
      exact ⟨rfl, HGF.out⟩

set_option maxHeartbeats 4000000 in
set_option maxRecDepth 100000 in
theorem rtext_leaf (k : Int) (s : List UInt8) (l : List Nd) (hk : k = 1 ∨ k = 2 ∨ k = 3) : RTextC (.mk k s l) := by
  intro least v w hl0 hl1 hr hlen h
  unfold NdIs at h
  obtain ⟨a, c, rfl, _, _⟩ := h
  have b1 := Blk3.new w (.int .i64 k) (.string (bs s)) (.slice a l.length c)
  obtain ⟨x0, x1, x2, _, _, _⟩ := b1.cells
  have HA : Hid (w.grownBy (w.alloc (.cells #[.int .i64 k, .string (bs s), .slice a l.length c] 37)) none) := grown_alloc _ _ _
  clear b1
  rcases hk with rfl | rfl | rfl
  · have e : textP (.mk 1 s l) (least - 1) = s := by rw [textP_un, if_pos rfl]
    rw [e]
    clear e hlen hr
    go_enter Tryz.func41, Tryz.ntmps41
    go_wp2
    go_ret
    exact ⟨rfl, HA.out⟩
  · have e : textP (.mk 2 s l) (least - 1) = w_empty := by rw [textP_un, if_neg (by decide), if_pos rfl]
    rw [e]
    clear e hlen hr
    go_enter Tryz.func41, Tryz.ntmps41
    go_wp2
    go_ret
    exact ⟨rfl, HA.out⟩
  · have e : textP (.mk 3 s l) (least - 1) = [98, 111, 120, 101, 115, 32] ++ s := by rw [textP_un, if_neg (by decide), if_neg (by decide), if_pos rfl]
    rw [e] at hlen ⊢
    have hsz : (bs s).size ≤ 100000000 := by rw [bs_size]; simp at hlen; omega
    have hj : (⟨#[98, 111, 120, 101, 115, 32]⟩ : ByteArray) ++ bs s = bs ([98, 111, 120, 101, 115, 32] ++ s) := bs_app [98, 111, 120, 101, 115, 32] s
    have hz : ¬ 9223372036854775807 < 6 + (bs s).size := by omega
    clear e hlen hr
    go_enter Tryz.func41, Tryz.ntmps41
    go_wp2_with fail
    go_ret
    exact ⟨by first | rfl | (rw [← hj]; rfl) | simp [hj], HA.out⟩

theorem rtext_all (f : Nat) : ∀ n : Nd, SizeOf.sizeOf n ≤ f → RTextC n := by
  induction f with
  | zero => intro n h; cases n; simp at h
  | succ f ih =>
    intro n h
    cases n with
    | mk k s l =>
      have hih : ∀ x ∈ l, RTextC x := fun x hx => ih x (by
        have := List.sizeOf_lt_of_mem hx
        simp at h
        omega)
      by_cases h13 : k = 1 ∨ k = 2 ∨ k = 3
      · exact rtext_leaf k s l h13
      · by_cases h47 : 4 ≤ k ∧ k ≤ 7
        · obtain rfl | rfl | rfl | rfl : k = 4 ∨ k = 5 ∨ k = 6 ∨ k = 7 := by omega
          · exact rtext_and s l hih
          · exact rtext_or s l hih
          · exact rtext_not s l hih
          · exact rtext_xor s l hih
        · intro least v w _ _ hr
          obtain ⟨p, q, hr⟩ := hr
          rw [rightB_eq, if_neg (by omega), if_neg (by omega), if_neg h47] at hr
          cases hr
theorem rtext_any (n : Nd) : RTextC n := rtext_all _ n (Nat.le_refl _)
end Go.Proofs.YtdjklnlkocconaaGreatDoor
