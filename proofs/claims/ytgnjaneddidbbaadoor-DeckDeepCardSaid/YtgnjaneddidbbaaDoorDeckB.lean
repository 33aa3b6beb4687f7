/-
  rules, taken: the walks.
-/
import Derived.Test.YtgnjaneddidbbaaDoorDeckA
import Derived.Deep.RegionHeld3
import Derived.StillTailTactics
namespace Go.Proofs.YtgnjaneddidbbaaDoor
open Go Go.RowKit

def rulesL : List (List UInt8) := [w_width, w_space, w_notch, w_apart, w_around, w_over]
def othersL : List (List UInt8) := [w_input, w_let, w_check, w_small, w_write, w_snap, w_and, w_or, w_not, w_xor, w_empty, w_boxes]
theorem takenL_eq : takenL = rulesL ++ othersL := rfl

def txts (l : List (List UInt8)) : Obj := .cells (l.map fun s => Value.string (bs s)).toArray 9

set_option maxHeartbeats 1000000 in
set_option maxRecDepth 100000 in
theorem rules_any (w : World) :
    Calls Tryd.prog 54 #[] w fun e w' => e = .returned (.slice (some ⟨w.heap.size, 0, none⟩) 6 6) ∧ w' = w.alloc (txts rulesL) := by
  go_enter Tryd.func54, Tryd.ntmps54
  go_wp2
  go_ret
  exact ⟨rfl, rfl⟩

theorem contains_any (b n c : Nat) (l : List (List UInt8)) (x : List UInt8) (w : World) (hn : l.length = n) (hl : n ≤ 9223372036854775807) (hc : w.heap[b]? = some (txts l)) :
    Calls Tryd.prog 80 #[.slice (some ⟨b, 0, none⟩) n c, .string (bs x)] w fun e w' => e = .returned (.bool (l.contains x)) ∧ w = w' := by
  have := Tryd.slices_Contains_string b 0 n c (l.map bs) (bs x) w (by simp [hn]) hl (by
    intro j hj
    simp at hj
    have h1 : w.cell? ⟨b, 0 + j, none⟩ = ((l.map fun s => Value.string (bs s)).toArray)[j]? := by
      simp [World.cell?, hc, txts]
    rw [h1]
    simp [hj])
  rw [show (l.map bs).take n = l.map bs from List.take_of_length_le (by simp [hn]), containsS_bs] at this
  exact this.mono fun _ _ ⟨he, hw⟩ => ⟨he, hw.symm⟩

theorem contains_is (b n c : Nat) (l : List (List UInt8)) (x : List UInt8) (r : Bool) (w : World) (hr : Hid (l.contains x = r)) (hn : l.length = n) (hl : n ≤ 9223372036854775807) (hc : w.heap[b]? = some (txts l)) :
    Calls Tryd.prog 80 #[.slice (some ⟨b, 0, none⟩) n c, .string (bs x)] w fun e w' => e = .returned (.bool r) ∧ w = w' := by
  rw [← hr.out]
  exact contains_any b n c l x w hn hl hc

set_option maxHeartbeats 1000000 in
set_option maxRecDepth 100000 in
theorem taken_any (x : List UInt8) (w : World) :
    Calls Tryd.prog 81 #[.string (bs x)] w fun e w' => e = .returned (.bool (takenL.contains x)) ∧ Below w.heap.size w w' := by
  have hB1 : Below w.heap.size w ((w.alloc (txts rulesL)).alloc (txts othersL)) := ((Below.refl _ _).alloc (Nat.le_refl _) _).alloc (by simp) _
  have HB1 := Lib.hid hB1
  clear hB1
  have e1 : takenL.contains x = (rulesL.contains x || othersL.contains x) := by rw [takenL_eq]; simp [Bool.decide_or]
  have HE := Lib.hid e1
  clear e1
  have hh1 : ∀ W : World, (W.alloc (txts rulesL)).heap[W.heap.size]? = some (txts rulesL) := fun W => (MapKept.heap_alloc W _).1
  have hh2 : (((w.alloc (txts rulesL)).alloc (txts othersL)).heap[w.heap.size + 1]? = some (txts othersL)) := by
    have := (MapKept.heap_alloc (w.alloc (txts rulesL)) (txts othersL)).1
    simpa using this
  have HH1 := Lib.hid hh1
  have HH2 := Lib.hid hh2
  clear hh1 hh2
  obtain ⟨r1, HR1⟩ : ∃ r, Hid (rulesL.contains x = r) := ⟨_, rfl⟩
  obtain ⟨r2, HR2⟩ : ∃ r, Hid (othersL.contains x = r) := ⟨_, rfl⟩
  have HB0 : Hid (Below w.heap.size w (w.alloc (txts rulesL))) := (Below.refl _ _).alloc (Nat.le_refl _) _
  cases r1
  · go_enter Tryd.func81, Tryd.ntmps81
    go_wp2_with fail
    refine (rules_any _).mono ?_
    rintro e w1 ⟨rfl, rfl⟩
    go_wp2_with fail
    refine (contains_is _ 6 6 rulesL x _ _ HR1 rfl (by omega) (HH1.out w)).mono ?_
    rintro e w' ⟨rfl, rfl⟩
    go_wp2_with fail
    refine (contains_is _ 12 12 othersL x _ _ HR2 rfl (by omega) HH2.out).mono ?_
    rintro e w' ⟨rfl, rfl⟩
    go_wp2
    go_ret
    exact ⟨ret_bool (by rw [HE.out, HR1.out, HR2.out]; rfl), HB1.out⟩
  · go_enter Tryd.func81, Tryd.ntmps81
    go_wp2_with fail
    refine (rules_any _).mono ?_
    rintro e w1 ⟨rfl, rfl⟩
    go_wp2_with fail
    refine (contains_is _ 6 6 rulesL x _ _ HR1 rfl (by omega) (HH1.out w)).mono ?_
    rintro e w' ⟨rfl, rfl⟩
    go_wp2_with fail
    go_wp2
    go_ret
    first | exact ⟨ret_bool (by rw [HE.out, HR1.out]; rfl), HB0.out⟩ | exact ⟨ret_bool (by rw [HE.out, HR1.out]; rfl), HB1.out⟩
end Go.Proofs.YtgnjaneddidbbaaDoor
