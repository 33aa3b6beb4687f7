/-
  The parser's open, shut, kindOf: the walks. The grammar's equations.
-/
import Derived.Test.YtgnjaneddidbbaaDoorDeckF
import Derived.Test.YtgnjaneddidbbaaDoorDeckH
namespace Go.Proofs.YtgnjaneddidbbaaDoor
open Go Go.RowKit

theorem PW.deeper {w : World} {b : Nat} {lv : Value} {ts r : List Tok} {fin deep : Int} (h : PW w b lv ts r fin deep) (d : Int) : PW (w.setCell ⟨b, 3, none⟩ (.int .i64 d)) b lv ts r fin d :=
  h.moved (grown_setCell w ⟨b, 3, none⟩ _) (h.ps.setDeep d) h.rest

/-- A row of one text, where a walk lays it. -/
theorem cell_one (w : World) (v : Value) (T : TypeId) : (w.alloc (.cells #[v] T)).cell? ⟨w.heap.size, 0, none⟩ = some v := by
  unfold World.cell?
  rw [(MapKept.heap_alloc w _).1]
  rfl

theorem grown_none {w w' : World} (h : w.grownBy w' none) (row : Option Nat) : w.grownBy w' row := ⟨h.os, h.tape, h.output, h.size, fun k hk _ => h.block k hk (by simp)⟩

set_option maxHeartbeats 1000000 in
set_option maxRecDepth 100000 in
theorem open_deep (b : Nat) (lv : Value) (ts r : List Tok) (fin : Int) (d : Nat) (w : World) (h : PW w b lv ts r fin d) (hd : 64 ≤ d) :
    Calls Tryd.prog 56 #[.pointer (some ⟨b, 0, none⟩)] w fun e w' => Thrown (posOf r fin) e ∧ w.grownBy w' (some b) := by
  obtain ⟨_, _, _, c3, _, _⟩ := h.ps.cells
  have H := Lib.hid h
  clear h
  go_enter Tryd.func56, Tryd.ntmps56
  go_wp2_with fail
  refine (fail_at b lv ts r fin d _ H.out).mono ?_
  rintro e w1 ⟨he, q, rfl⟩
  have HE := Lib.hid he
  clear he
  obtain rfl : e = _ := HE.out
  exact ⟨rfl, rfl, grown_drew _ _ _⟩

set_option maxHeartbeats 1000000 in
set_option maxRecDepth 100000 in
theorem open_must (b : Nat) (lv : Value) (ts r : List Tok) (fin : Int) (d : Nat) (w : World) (h : PW w b lv ts r fin d) (hd : d < 64) :
    Calls Tryd.prog 56 #[.pointer (some ⟨b, 0, none⟩)] w fun e w' => Out w b lv ts fin ((d : Int) + 1) RUnit (pMust [40] r) e w' := by
  obtain ⟨_, _, _, c3, _, _⟩ := h.ps.cells
  have H := Lib.hid h
  clear h
  have hg0 : Hid (∀ o, w.grownBy (w.alloc o) none) := fun o => grown_alloc w o none
  go_enter Tryd.func56, Tryd.ntmps56
  go_wp2_with fail
  refine (must_at b _ _ lv ts r fin d _ [40] _ (H.out.grown (hg0.out _)) rfl (cell_one _ _ _)).mono ?_
  intro e w1 ho
  rcases out_cases ho with ⟨_, r1, v, hp, rfl, hv, hg, hw⟩ | ⟨r1, hp, he, hg⟩
  · obtain ⟨_, _, _, c3', _, f3⟩ := hw.ps.cells
    have HW := Lib.hid hw
    have HG := Lib.hid hg
    obtain rfl : v = _ := hv
    clear c3 hw hg ho
    go_wp2
    go_end0
    exact out_ok hp.out rfl (grown_trans (grown_none (hg0.out _) _) (grown_trans HG.out (grown_setCell w1 ⟨b, 3, none⟩ _))) (HW.out.deeper _)
  · have HE := Lib.hid he
    clear he
    obtain rfl : e = _ := HE.out
    exact ⟨rfl, out_error hp.out rfl (grown_trans (grown_none (hg0.out _) _) hg)⟩

theorem open_at (b : Nat) (lv : Value) (ts r : List Tok) (fin : Int) (d : Nat) (w : World) (h : PW w b lv ts r fin d) :
    Calls Tryd.prog 56 #[.pointer (some ⟨b, 0, none⟩)] w fun e w' => Out w b lv ts fin ((d : Int) + 1) RUnit (if 64 ≤ d then .error r else pMust [40] r) e w' := by
  by_cases hd : 64 ≤ d
  · rw [if_pos hd]
    exact (open_deep b lv ts r fin d w h hd).mono fun e w' ⟨he, hg⟩ => out_error rfl he hg
  · rw [if_neg hd]
    exact open_must b lv ts r fin d w h (by omega)

set_option maxHeartbeats 1000000 in
set_option maxRecDepth 100000 in
theorem shut_at (b : Nat) (lv : Value) (ts r : List Tok) (fin : Int) (d : Nat) (w : World) (h : PW w b lv ts r fin ((d : Int) + 1)) (hd : d < 64) :
    Calls Tryd.prog 57 #[.pointer (some ⟨b, 0, none⟩)] w fun e w' => Out w b lv ts fin d RUnit (pMust [41] r) e w' := by
  have H := Lib.hid h
  clear h
  have hg0 : Hid (∀ o, w.grownBy (w.alloc o) none) := fun o => grown_alloc w o none
  go_enter Tryd.func57, Tryd.ntmps57
  go_wp2_with fail
  refine (must_at b _ _ lv ts r fin ((d : Int) + 1) _ [41] _ (H.out.grown (hg0.out _)) rfl (cell_one _ _ _)).mono ?_
  intro e w1 ho
  rcases out_cases ho with ⟨_, r1, v, hp, rfl, hv, hg, hw⟩ | ⟨r1, hp, he, hg⟩
  · obtain ⟨_, _, _, c3', _, f3⟩ := hw.ps.cells
    have HW := Lib.hid hw
    have HG := Lib.hid hg
    obtain rfl : v = _ := hv
    clear hw hg ho
    go_wp2
    go_end0
    exact out_ok hp.out rfl (grown_trans (grown_none (hg0.out _) _) (grown_trans HG.out (grown_setCell w1 ⟨b, 3, none⟩ _))) (by have := HW.out.deeper ((d : Int) + 1 - 1); rwa [show (d : Int) + 1 - 1 = d by omega] at this)
  · have HE := Lib.hid he
    clear he
    obtain rfl : e = _ := HE.out
    exact ⟨rfl, out_error hp.out rfl (grown_trans (grown_none (hg0.out _) _) hg)⟩

theorem bs_toList (l : List UInt8) : (bs l).toList = l := by rw [ByteArray.toList_eq]; rfl

/-- The operator's kind, by the word. -/
def lowOf (x : List UInt8) : Int := if x = w_or then 5 else if x = w_not then 6 else 7

set_option maxHeartbeats 1000000 in
theorem kindOf_any (x : List UInt8) (w : World) : Calls Tryd.prog 83 #[.string (bs x)] w fun e w' => e = .returned (.int .i64 (lowOf x)) ∧ w = w' := by
  by_cases h1 : x = w_or
  · have e1 : ((bs x).toList == [111, 114]) = true := by rw [bs_toList, h1]; rfl
    have HE : Hid (lowOf x = 5) := by rw [lowOf, if_pos h1]; rfl
    clear h1
    go_enter Tryd.func83, Tryd.ntmps83
    go_wp2
    go_ret
    exact ⟨ret_int HE.out.symm, rfl⟩
  · have e1 : ((bs x).toList == [111, 114]) = false := by rw [bs_toList, beq_eq_false_iff_ne]; exact h1
    by_cases h2 : x = w_not
    · have e2 : ((bs x).toList == [110, 111, 116]) = true := by rw [bs_toList, h2]; rfl
      have HE : Hid (lowOf x = 6) := by rw [lowOf, if_neg h1, if_pos h2]; rfl
      clear h1 h2
      go_enter Tryd.func83, Tryd.ntmps83
      go_wp2
      go_ret
      exact ⟨ret_int HE.out.symm, rfl⟩
    · have e2 : ((bs x).toList == [110, 111, 116]) = false := by rw [bs_toList, beq_eq_false_iff_ne]; exact h2
      have HE : Hid (lowOf x = 7) := by rw [lowOf, if_neg h1, if_neg h2]; rfl
      clear h1 h2
      go_enter Tryd.func83, Tryd.ntmps83
      go_wp2
      go_ret
      exact ⟨ret_int HE.out.symm, rfl⟩
end Go.Proofs.YtgnjaneddidbbaaDoor
