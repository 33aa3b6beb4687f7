/-
  stmt's closure that reads two layers: the walk.
-/
import Derived.Test.YtgnjaneddidbbaaDoorDeckS
import Derived.Test.YtgnjaneddidbbaaDoorDeckG
namespace Go.Proofs.YtgnjaneddidbbaaDoor
open Go Go.RowKit

set_option maxHeartbeats 2000000 in
set_option maxRecDepth 100000 in
theorem layers_at (w w0 : World) (b : Nat) (lv : Value) (ts r : List Tok) (fin deep : Int) (x : St) (A B : NV) (h : SS w w0 b lv ts r fin deep x A B) :
    Calls Tryd.prog 51 #[.pointer (some ⟨w.heap.size, 0, none⟩), .pointer (some ⟨w.heap.size + 1 + 1, 0, none⟩)] w0 fun e w' =>
      (∃ n k r1, Hid (pLayers r = .ok ((n, k), r1)) ∧ e = .returned (.tuple #[]) ∧ SS w w' b lv ts r1 fin deep { x with n := n, k := k } A B) ∨
      (∃ r1, Hid (pLayers r = .error r1) ∧ Thrown (posOf r1 fin) e ∧ w.grownBy w' (some b)) := by
  have S0 := Lib.hid h
  clear h
  have HP0 : Hid (pLayers r = (pNum 0 32767 r).then fun n r1 => (pMust [47] r1).then fun _ r2 => (pNum 0 32767 r2).then fun k r3 => .ok ((n, k), r3)) := rfl
  have p0 := S0.out.pcell
  go_enter Tryd.func51, Tryd.ntmps51
  go_wp2_with fail
  refine (number_at b lv ts r fin deep 0 32767 _ S0.out.p).mono ?_
  intro e w1 ho
  rcases (out_cases ho).symm with ⟨r1, hp, he, hg⟩ | ⟨n1, r1, v, hp, rfl, hv, hg, hw⟩
  · have HE := Lib.hid he
    clear he ho
    obtain rfl : e = _ := HE.out
    exact ⟨rfl, .inr ⟨_, HP0.out.trans (then_err_eq hp.out), rfl, grown_trans S0.out.g hg⟩⟩
  obtain rfl : v = _ := hv
  have S1 := Lib.hid (S0.out.moved hg hw)
  have HP1 := Lib.hid (HP0.out.trans (then_ok_eq hp.out))
  clear hg hw S0 ho hp HP0 p0
  have p1 := S1.out.pcell
  have x1 := S1.out.xcell 9
  have f1 := S1.out.xfree 9
  simp only [stCells, List.getElem?_cons_succ, List.getElem?_cons_zero] at x1
  go_wp2_with fail
  have S2 := Lib.hid ((S1.out.setN n1).alloc (.cells #[.string ⟨#[47]⟩] 9))
  refine (must_at b _ _ lv ts r1 fin deep _ [47] _ S2.out.p rfl (cell_one_at _ _ _ _ (by simp))).mono ?_
  intro e w2 ho
  rcases (out_cases ho).symm with ⟨r2, hp, he, hg⟩ | ⟨_, r2, v, hp, rfl, hv, hg, hw⟩
  · have HE := Lib.hid he
    clear he ho
    obtain rfl : e = _ := HE.out
    exact ⟨rfl, .inr ⟨_, HP1.out.trans (then_err_eq hp.out), rfl, grown_trans S2.out.g hg⟩⟩
  obtain rfl : v = _ := hv
  have S3 := Lib.hid (S2.out.moved hg hw)
  have HP2 := Lib.hid (HP1.out.trans (then_ok_eq hp.out))
  clear hg hw S1 S2 ho hp HP1 p1 x1 f1
  have p3 := S3.out.pcell
  go_wp2_with fail
  refine (number_at b lv ts r2 fin deep 0 32767 _ S3.out.p).mono ?_
  intro e w3 ho
  rcases (out_cases ho).symm with ⟨r3, hp, he, hg⟩ | ⟨n3, r3, v, hp, rfl, hv, hg, hw⟩
  · have HE := Lib.hid he
    clear he ho
    obtain rfl : e = _ := HE.out
    exact ⟨rfl, .inr ⟨_, HP2.out.trans (then_err_eq hp.out), rfl, grown_trans S3.out.g hg⟩⟩
  obtain rfl : v = _ := hv
  have S4 := Lib.hid (S3.out.moved hg hw)
  have HP3 := Lib.hid (HP2.out.trans (then_ok_eq hp.out))
  clear hg hw S3 ho hp HP2 p3
  have x1 := S4.out.xcell 11
  have f1 := S4.out.xfree 11
  simp only [stCells, List.getElem?_cons_succ, List.getElem?_cons_zero] at x1
  go_wp2
  go_end0
  exact .inl ⟨_, _, _, HP3.out, rfl, S4.out.setK n3⟩
end Go.Proofs.YtgnjaneddidbbaaDoor
