/-
  stmt: write: the walk.
-/
import Derived.Test.YtgnjaneddidbbaaDoorDeckT3
namespace Go.Proofs.YtgnjaneddidbbaaDoor
open Go Go.RowKit

set_option maxHeartbeats 1000000 in
set_option maxRecDepth 100000 in
theorem stmt_write (b : Nat) (lv : Value) (ts r : List Tok) (fin : Int) (t : Tok) (P : PR St) (w : World) (h : PW w b lv ts (t :: r) fin ((0 : Nat) : Int)) (hs : Hid (seesR (t :: r) [w_input, w_let, w_check, w_small, w_write] = true)) (e0 : ((bs t.text).toList == [105, 110, 112, 117, 116]) = false) (e1 : ((bs t.text).toList == [108, 101, 116]) = false) (e2 : ((bs t.text).toList == [99, 104, 101, 99, 107]) = false) (e3 : ((bs t.text).toList == [115, 109, 97, 108, 108]) = false) (e4 : ((bs t.text).toList == [119, 114, 105, 116, 101]) = true)
    (HP0 : Hid (P = (pName r).then fun s r2 => (pMust [61] r2).then fun _ r3 => sWrite s r3)) :
    Calls Tryd.prog 31 #[.pointer (some ⟨b, 0, none⟩)] w fun e w' => StOut w b lv ts fin P e w' := by
  have S0 := Lib.hid (SS.start h)
  clear h
  have hmf : ∀ (fn : Fn) (first cap : Array Value) (w : World), (Instr.makeFunc fn first cap).run Tryd.prog w = .ok (.func fn first cap) w := fun _ _ _ _ => rfl
  have pb := S0.out.pcell
  have pb2 := fun o => (S0.out.alloc o).pcell
  go_enter Tryd.func31, Tryd.ntmps31
  go_wp2_with fail
  refine (sees_w b lv ts (t :: r) fin _ _ [w_input, w_let, w_check, w_small, w_write] true _ hs (S0.out.alloc _).p (txtRow_at _ _ [w_input, w_let, w_check, w_small, w_write] _ _ _ _ rfl rfl (by simp) (by simp))).mono ?_
  rintro e w1 ⟨rfl, hg⟩
  have S1 := Lib.hid ((S0.out.alloc _).still hg)
  clear hg S0 pb pb2
  have pb := S1.out.pcell
  go_wp2_with fail
  refine (take_at b lv ts r t fin _ _ (S1.out).p).mono ?_
  rintro e w2 ⟨rfl, hg, hw⟩
  have S2 := Lib.hid ((S1.out).moved hg hw)
  clear hg hw S1 pb
  have pb := S2.out.pcell
  go_wp2_with fail
  refine (name_at b lv ts r fin _ _ (S2.out).p).mono ?_
  intro e w3 ho
  rcases (out_cases ho).symm with ⟨re, hp, he, hg⟩ | ⟨a3, r3, v, hp, rfl, hv, hg, hw⟩
  · have HE := Lib.hid he
    clear he ho
    obtain rfl : e = _ := HE.out
    exact ⟨rfl, out_error (HP0.out.trans (then_err_eq hp.out)) rfl (grown_trans (S2.out).g hg)⟩
  obtain rfl : v = _ := hv
  have S3 := Lib.hid ((S2.out).moved hg hw)
  have HP3 := Lib.hid (HP0.out.trans (then_ok_eq hp.out))
  clear hg hw ho hp HP0 S2 pb
  have pb := S3.out.pcell
  have x1 := S3.out.xcell 1
  have f1 := S3.out.xfree 1
  simp only [stCells, List.getElem?_cons_succ, List.getElem?_cons_zero] at x1
  go_wp2_with fail
  refine (must_at b _ _ lv ts r3 fin _ _ [61] _ ((S3.out.setName a3).alloc _).p rfl (cell_one_at _ _ _ _ (by simp))).mono ?_
  intro e w4 ho
  rcases (out_cases ho).symm with ⟨re, hp, he, hg⟩ | ⟨a4, r4, v, hp, rfl, hv, hg, hw⟩
  · have HE := Lib.hid he
    clear he ho
    obtain rfl : e = _ := HE.out
    exact ⟨rfl, out_error (HP3.out.trans (then_err_eq hp.out)) rfl (grown_trans ((S3.out.setName a3).alloc _).g hg)⟩
  obtain rfl : v = _ := hv
  have S4 := Lib.hid (((S3.out.setName a3).alloc _).moved hg hw)
  have HP4 := Lib.hid (HP3.out.trans (then_ok_eq hp.out))
  clear hg hw ho hp HP3 S3 pb x1 f1
  have pb := S4.out.pcell
  have x0 := S4.out.xcell 0
  have f0 := S4.out.xfree 0
  simp only [stCells, List.getElem?_cons_zero] at x0
  go_wp2_with fail
  refine (expr_at b lv ts r4 fin 0 _ (by decide) (S4.out.setKind 5).p).mono ?_
  intro e w5 ho
  rcases (out_cases ho).symm with ⟨re, hp, he, hg⟩ | ⟨a5, r5, v, hp, rfl, hv, hg, hw⟩
  · have HE := Lib.hid he
    clear he ho
    obtain rfl : e = _ := HE.out
    exact ⟨rfl, out_error (HP4.out.trans (then_err_eq hp.out)) rfl (grown_trans (S4.out.setKind 5).g hg)⟩
  obtain ⟨k5, s5, b5, m5, c5, rfl⟩ := hv.agg
  have HV5 : Hid (NdIs (w.heap.size + 3 ≤ ·) w5 (Ex.nd a5) (NV.val ⟨k5, s5, b5, m5, c5⟩)) := hv.from (S4.out.setKind 5).size
  have S5 := Lib.hid ((S4.out.setKind 5).moved hg hw)
  have HP5 := Lib.hid (HP4.out.trans (then_ok_eq hp.out))
  clear hg hw ho hp HP4 hv S4 pb x0 f0
  have pb := S5.out.pcell
  have x2 := S5.out.xcell 2
  have f2 := S5.out.xfree 2
  have x3 := S5.out.xcell 3
  have f3 := S5.out.xfree 3
  have x4 := S5.out.xcell 4
  have f4 := S5.out.xfree 4
  simp only [stCells, List.getElem?_cons_succ, List.getElem?_cons_zero] at x2 x3 x4
  go_wp2_with fail
  refine (must_at b _ _ lv ts r5 fin _ _ [44] _ ((S5.out.setA _ _ HV5.out).alloc _).p rfl (cell_one_at _ _ _ _ (by simp))).mono ?_
  intro e w6 ho
  rcases (out_cases ho).symm with ⟨re, hp, he, hg⟩ | ⟨a6, r6, v, hp, rfl, hv, hg, hw⟩
  · have HE := Lib.hid he
    clear he ho
    obtain rfl : e = _ := HE.out
    exact ⟨rfl, out_error (HP5.out.trans (then_err_eq hp.out)) rfl (grown_trans ((S5.out.setA _ _ HV5.out).alloc _).g hg)⟩
  obtain rfl : v = _ := hv
  have S6 := Lib.hid (((S5.out.setA _ _ HV5.out).alloc _).moved hg hw)
  have HP6 := Lib.hid (HP5.out.trans (then_ok_eq hp.out))
  clear hg hw ho hp HP5 S5 pb x2 x3 x4 f2 f3 f4
  go_wp2_with fail
  refine (layers_at w _ b lv ts r6 fin _ _ _ _ (S6.out)).mono ?_
  intro e w7 ho
  rcases ho.symm with ⟨re, hp, he, hg⟩ | ⟨n7, l7, r7, hp, rfl, hs⟩
  · have HE := Lib.hid he
    clear he ho
    obtain rfl : e = _ := HE.out
    exact ⟨rfl, out_error (HP6.out.trans (then_err_eq hp.out)) rfl hg⟩
  have S7 := Lib.hid hs
  have HP7 := Lib.hid (HP6.out.trans (then_ok_eq hp.out))
  clear hs ho hp HP6 S6
  have pb := S7.out.pcell
  cases hβ : seesR r7 [w_snap]
  · have HB := Lib.hid hβ
    clear hβ
    go_wp2_with fail
    refine (sees_w b lv ts r7 fin _ _ [w_snap] false _ HB (S7.out.alloc _).p (txtRow_at _ _ [w_snap] _ _ _ _ rfl rfl (by simp) (by simp))).mono ?_
    rintro e w8 ⟨rfl, hg⟩
    have S8 := Lib.hid ((S7.out.alloc _).still hg)
    clear hg S7 pb
    have HPb := Lib.hid (HP7.out.trans (sWrite1_no HB.out))
    have pb := S8.out.pcell
    go_wp2_with fail
    refine (must_at b _ _ lv ts r7 fin _ _ [59] _ (S8.out.alloc _).p rfl (cell_one_at _ _ _ _ (by simp))).mono ?_
    intro e w9 ho
    rcases (out_cases ho).symm with ⟨re, hp, he, hg⟩ | ⟨a9, r9, v, hp, rfl, hv, hg, hw⟩
    · have HE := Lib.hid he
      clear he ho
      obtain rfl : e = _ := HE.out
      exact ⟨rfl, out_error (HPb.out.trans (then_err_eq hp.out)) rfl (grown_trans (S8.out.alloc _).g hg)⟩
    obtain rfl : v = _ := hv
    have S9 := Lib.hid ((S8.out.alloc _).moved hg hw)
    have HP9 := Lib.hid (HPb.out.trans (then_ok_eq hp.out))
    clear hg hw ho hp HPb S8 pb
    have x0 := S9.out.xcell 0
    have f0 := S9.out.xfree 0
    have x1 := S9.out.xcell 1
    have f1 := S9.out.xfree 1
    have x2 := S9.out.xcell 2
    have f2 := S9.out.xfree 2
    have x3 := S9.out.xcell 3
    have f3 := S9.out.xfree 3
    have x4 := S9.out.xcell 4
    have f4 := S9.out.xfree 4
    have x5 := S9.out.xcell 5
    have f5 := S9.out.xfree 5
    have x6 := S9.out.xcell 6
    have f6 := S9.out.xfree 6
    have x7 := S9.out.xcell 7
    have f7 := S9.out.xfree 7
    have x8 := S9.out.xcell 8
    have f8 := S9.out.xfree 8
    have x9 := S9.out.xcell 9
    have f9 := S9.out.xfree 9
    have x10 := S9.out.xcell 10
    have f10 := S9.out.xfree 10
    have x11 := S9.out.xcell 11
    have f11 := S9.out.xfree 11
    have x12 := S9.out.xcell 12
    have f12 := S9.out.xfree 12
    simp only [stCells, List.getElem?_cons_succ, List.getElem?_cons_zero] at x0 x1 x2 x3 x4 x5 x6 x7 x8 x9 x10 x11 x12
    have q0 := S9.out.rcell
    have q1 := S9.out.rfree
    obtain ⟨q00, q01, q02, q03, q04, q05, q06, q07, q08, q09, q010, q011, q012⟩ := q0
    obtain ⟨q10, q11, q12, q13, q14, q15, q16, q17, q18, q19, q110, q111, q112⟩ := q1
    go_wp2
    refine S9.out.ret HP9.out Tryd.results31 ?_ rfl ?_
    · rfl
    · rfl
  · obtain ⟨t7b, r7b, rfl⟩ : ∃ t r, r7 = t :: r := by
      cases r7 with
      | nil => cases hβ
      | cons t r => exact ⟨t, r, rfl⟩
    have HB := Lib.hid hβ
    clear hβ
    go_wp2_with fail
    refine (sees_w b lv ts (t7b :: r7b) fin _ _ [w_snap] true _ HB (S7.out.alloc _).p (txtRow_at _ _ [w_snap] _ _ _ _ rfl rfl (by simp) (by simp))).mono ?_
    rintro e w8 ⟨rfl, hg⟩
    have S8 := Lib.hid ((S7.out.alloc _).still hg)
    clear hg S7 pb
    have HPb := Lib.hid (HP7.out.trans (sWrite1_yes HB.out))
    have pb := S8.out.pcell
    go_wp2_with fail
    refine (take_at b lv ts r7b t7b fin _ _ (S8.out).p).mono ?_
    rintro e w9 ⟨rfl, hg, hw⟩
    have S9 := Lib.hid ((S8.out).moved hg hw)
    clear hg hw S8 pb
    have pb := S9.out.pcell
    have x12 := S9.out.xcell 12
    have f12 := S9.out.xfree 12
    simp only [stCells, List.getElem?_cons_succ, List.getElem?_cons_zero] at x12
    go_wp2_with fail
    refine (must_at b _ _ lv ts r7b fin _ _ [59] _ ((S9.out.setSnap true).alloc _).p rfl (cell_one_at _ _ _ _ (by simp))).mono ?_
    intro e w10 ho
    rcases (out_cases ho).symm with ⟨re, hp, he, hg⟩ | ⟨a10, r10, v, hp, rfl, hv, hg, hw⟩
    · have HE := Lib.hid he
      clear he ho
      obtain rfl : e = _ := HE.out
      exact ⟨rfl, out_error (HPb.out.trans (then_err_eq hp.out)) rfl (grown_trans ((S9.out.setSnap true).alloc _).g hg)⟩
    obtain rfl : v = _ := hv
    have S10 := Lib.hid (((S9.out.setSnap true).alloc _).moved hg hw)
    have HP10 := Lib.hid (HPb.out.trans (then_ok_eq hp.out))
    clear hg hw ho hp HPb S9 pb x12 f12
    have x0 := S10.out.xcell 0
    have f0 := S10.out.xfree 0
    have x1 := S10.out.xcell 1
    have f1 := S10.out.xfree 1
    have x2 := S10.out.xcell 2
    have f2 := S10.out.xfree 2
    have x3 := S10.out.xcell 3
    have f3 := S10.out.xfree 3
    have x4 := S10.out.xcell 4
    have f4 := S10.out.xfree 4
    have x5 := S10.out.xcell 5
    have f5 := S10.out.xfree 5
    have x6 := S10.out.xcell 6
    have f6 := S10.out.xfree 6
    have x7 := S10.out.xcell 7
    have f7 := S10.out.xfree 7
    have x8 := S10.out.xcell 8
    have f8 := S10.out.xfree 8
    have x9 := S10.out.xcell 9
    have f9 := S10.out.xfree 9
    have x10 := S10.out.xcell 10
    have f10 := S10.out.xfree 10
    have x11 := S10.out.xcell 11
    have f11 := S10.out.xfree 11
    have x12 := S10.out.xcell 12
    have f12 := S10.out.xfree 12
    simp only [stCells, List.getElem?_cons_succ, List.getElem?_cons_zero] at x0 x1 x2 x3 x4 x5 x6 x7 x8 x9 x10 x11 x12
    have q0 := S10.out.rcell
    have q1 := S10.out.rfree
    obtain ⟨q00, q01, q02, q03, q04, q05, q06, q07, q08, q09, q010, q011, q012⟩ := q0
    obtain ⟨q10, q11, q12, q13, q14, q15, q16, q17, q18, q19, q110, q111, q112⟩ := q1
    go_wp2
    refine S10.out.ret HP10.out Tryd.results31 ?_ rfl ?_
    · rfl
    · rfl
end Go.Proofs.YtgnjaneddidbbaaDoor
