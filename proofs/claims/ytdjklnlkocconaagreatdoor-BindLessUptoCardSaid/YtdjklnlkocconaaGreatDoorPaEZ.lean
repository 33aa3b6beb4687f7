/-
  stmt: small: the walk.
  stmt: write: the walk.
  The rules' words in memory; their places. Small walks for stmt's check.
  stmt: check: the walk.
-/
import Derived.Test.YtdjklnlkocconaaGreatDoorPaDZ
import Derived.Deep.RegionHeld3
namespace Go.Proofs.YtdjklnlkocconaaGreatDoor
open Go Go.RowKit

theorem sSmall1_no {x : St} {r : List Tok} (h : seesR r [[47]] = false) : sSmall1 x r = pSemi x r := by
  cases r with
  | nil => rfl
  | cons t r => rw [seesR_one] at h; rw [sSmall1, h]; rfl
theorem sSmall1_yes {x : St} {t : Tok} {r : List Tok} (h : seesR (t :: r) [[47]] = true) : sSmall1 x (t :: r) = (pNum 1 2147483647 r).then fun d r2 => pSemi { x with d := d } r2 := by
  rw [seesR_one] at h; rw [sSmall1, h]; rfl
theorem sWrite1_no {x : St} {r : List Tok} (h : seesR r [w_snap] = false) : sWrite1 x r = pSemi x r := by
  cases r with
  | nil => rfl
  | cons t r => rw [seesR_one] at h; rw [sWrite1, h]; rfl
theorem sWrite1_yes {x : St} {t : Tok} {r : List Tok} (h : seesR (t :: r) [w_snap] = true) : sWrite1 x (t :: r) = pSemi { x with snap := true } r := by
  rw [seesR_one] at h; rw [sWrite1, h]; rfl

set_option maxHeartbeats 1000000 in
set_option maxRecDepth 100000 in
theorem stmt_small (b : Nat) (lv : Value) (ts r : List Tok) (fin : Int) (t : Tok) (P : PR St) (w : World) (h : PW w b lv ts (t :: r) fin ((0 : Nat) : Int)) (hs : Hid (seesR (t :: r) [w_input, w_let, w_check, w_small, w_write] = true)) (e0 : ((bs t.text).toList == [105, 110, 112, 117, 116]) = false) (e1 : ((bs t.text).toList == [108, 101, 116]) = false) (e2 : ((bs t.text).toList == [99, 104, 101, 99, 107]) = false) (e3 : ((bs t.text).toList == [115, 109, 97, 108, 108]) = true)
    (HP0 : Hid (P = (pName r).then fun s r2 => (pMust [61] r2).then fun _ r3 => sSmall s r3)) :
    Calls Tryz.prog 36 #[.pointer (some ⟨b, 0, none⟩)] w fun e w' => StOut w b lv ts fin P e w' := by
  have S0 := Lib.hid (SS.start h)
  clear h
  have hmf : ∀ (fn : Fn) (first cap : Array Value) (w : World), (Instr.makeFunc fn first cap).run Tryz.prog w = .ok (.func fn first cap) w := fun _ _ _ _ => rfl
  have pb := S0.out.pcell
  have pb2 := fun o => (S0.out.alloc o).pcell
  go_enter Tryz.func36, Tryz.ntmps36
  go_wp2_with fail
  refine (sees_w b lv ts (t :: r) fin _ _ [w_input, w_let, w_check, w_small, w_write] true _ hs (S0.out.alloc _).p (txtRow_at _ _ [w_input, w_let, w_check, w_small, w_write] _ _ _ _ rfl rfl (by simp) (by simp))).mono ?_
  rintro e w1 ⟨rfl, hg⟩
  have S1 := Lib.hid ((S0.out.alloc _).still hg)
  clear hg S0 pb pb2
  have pb := S1.out.pcell
  go_wp2_with fail
  refine (take_at b lv ts r t fin _ _ (S1.out).p).mono ?_
  rintro e w2 ⟨rfl, hg, hw⟩
  have S2 := Lib.hid ((S1.out).moved hg hw)
  clear hg hw S1 pb
  have pb := S2.out.pcell
  go_wp2_with fail
  refine (name_at b lv ts r fin _ _ (S2.out).p).mono ?_
  intro e w3 ho
  rcases (out_cases ho).symm with ⟨re, hp, he, hg⟩ | ⟨a3, r3, v, hp, rfl, hv, hg, hw⟩
  · have HE := Lib.hid he
    clear he ho
    obtain rfl : e = _ := HE.out
    exact ⟨rfl, out_error (HP0.out.trans (then_err_eq hp.out)) rfl (grown_trans (S2.out).g hg)⟩
  obtain rfl : v = _ := hv
  have S3 := Lib.hid ((S2.out).moved hg hw)
  have HP3 := Lib.hid (HP0.out.trans (then_ok_eq hp.out))
  clear hg hw ho hp HP0 S2 pb
  have pb := S3.out.pcell
  have x1 := S3.out.xcell 1
  have f1 := S3.out.xfree 1
  simp only [stCells, List.getElem?_cons_succ, List.getElem?_cons_zero] at x1
  go_wp2_with fail
  refine (must_at b _ _ lv ts r3 fin _ _ [61] _ ((S3.out.setName a3).alloc _).p rfl (cell_one_at _ _ _ _ (by simp))).mono ?_
  intro e w4 ho
  rcases (out_cases ho).symm with ⟨re, hp, he, hg⟩ | ⟨a4, r4, v, hp, rfl, hv, hg, hw⟩
  · have HE := Lib.hid he
    clear he ho
    obtain rfl : e = _ := HE.out
    exact ⟨rfl, out_error (HP3.out.trans (then_err_eq hp.out)) rfl (grown_trans ((S3.out.setName a3).alloc _).g hg)⟩
  obtain rfl : v = _ := hv
  have S4 := Lib.hid (((S3.out.setName a3).alloc _).moved hg hw)
  have HP4 := Lib.hid (HP3.out.trans (then_ok_eq hp.out))
  clear hg hw ho hp HP3 S3 pb x1 f1
  have pb := S4.out.pcell
  have x0 := S4.out.xcell 0
  have f0 := S4.out.xfree 0
  simp only [stCells, List.getElem?_cons_zero] at x0
  go_wp2_with fail
  refine (expr_at b lv ts r4 fin 0 _ (by decide) (S4.out.setKind 4).p).mono ?_
  intro e w5 ho
  rcases (out_cases ho).symm with ⟨re, hp, he, hg⟩ | ⟨a5, r5, v, hp, rfl, hv, hg, hw⟩
  · have HE := Lib.hid he
    clear he ho
    obtain rfl : e = _ := HE.out
    exact ⟨rfl, out_error (HP4.out.trans (then_err_eq hp.out)) rfl (grown_trans (S4.out.setKind 4).g hg)⟩
  obtain ⟨k5, s5, b5, m5, c5, rfl⟩ := hv.agg
  have HV5 : Hid (NdIs (w.heap.size + 3 ≤ ·) w5 (Ex.nd a5) (NV.val ⟨k5, s5, b5, m5, c5⟩)) := hv.from (S4.out.setKind 4).size
  have S5 := Lib.hid ((S4.out.setKind 4).moved hg hw)
  have HP5 := Lib.hid (HP4.out.trans (then_ok_eq hp.out))
  clear hg hw ho hp HP4 hv S4 pb x0 f0
  have pb := S5.out.pcell
  have x2 := S5.out.xcell 2
  have f2 := S5.out.xfree 2
  have x3 := S5.out.xcell 3
  have f3 := S5.out.xfree 3
  have x4 := S5.out.xcell 4
  have f4 := S5.out.xfree 4
  simp only [stCells, List.getElem?_cons_succ, List.getElem?_cons_zero] at x2 x3 x4
  go_wp2_with fail
  refine (must_at b _ _ lv ts r5 fin _ _ [44] _ ((S5.out.setA _ _ HV5.out).alloc _).p rfl (cell_one_at _ _ _ _ (by simp))).mono ?_
  intro e w6 ho
  rcases (out_cases ho).symm with ⟨re, hp, he, hg⟩ | ⟨a6, r6, v, hp, rfl, hv, hg, hw⟩
  · have HE := Lib.hid he
    clear he ho
    obtain rfl : e = _ := HE.out
    exact ⟨rfl, out_error (HP5.out.trans (then_err_eq hp.out)) rfl (grown_trans ((S5.out.setA _ _ HV5.out).alloc _).g hg)⟩
  obtain rfl : v = _ := hv
  have S6 := Lib.hid (((S5.out.setA _ _ HV5.out).alloc _).moved hg hw)
  have HP6 := Lib.hid (HP5.out.trans (then_ok_eq hp.out))
  clear hg hw ho hp HP5 S5 pb x2 x3 x4 f2 f3 f4
  have pb := S6.out.pcell
  go_wp2_with fail
  refine (number_at b lv ts r6 fin _ 0 2147483647 _ (S6.out).p).mono ?_
  intro e w7 ho
  rcases (out_cases ho).symm with ⟨re, hp, he, hg⟩ | ⟨a7, r7, v, hp, rfl, hv, hg, hw⟩
  · have HE := Lib.hid he
    clear he ho
    obtain rfl : e = _ := HE.out
    exact ⟨rfl, out_error (HP6.out.trans (then_err_eq hp.out)) rfl (grown_trans (S6.out).g hg)⟩
  obtain rfl : v = _ := hv
  have S7 := Lib.hid ((S6.out).moved hg hw)
  have HP7 := Lib.hid (HP6.out.trans (then_ok_eq hp.out))
  clear hg hw ho hp HP6 S6 pb
  have pb := S7.out.pcell
  have x9 := S7.out.xcell 9
  have f9 := S7.out.xfree 9
  have x10 := S7.out.xcell 10
  have f10 := S7.out.xfree 10
  simp only [stCells, List.getElem?_cons_succ, List.getElem?_cons_zero] at x9 x10
  cases hβ : seesR r7 [[47]]
  · have HB := Lib.hid hβ
    clear hβ
    go_wp2_with fail
    refine (sees_w b lv ts r7 fin _ _ [[47]] false _ HB (((S7.out.setN a7).setD 1).alloc _).p (txtRow_at _ _ [[47]] _ _ _ _ rfl rfl (by simp) (by simp))).mono ?_
    rintro e w8 ⟨rfl, hg⟩
    have S8 := Lib.hid ((((S7.out.setN a7).setD 1).alloc _).still hg)
    clear hg S7 pb x9 x10 f9 f10
    have HPb := Lib.hid (HP7.out.trans (sSmall1_no HB.out))
    have pb := S8.out.pcell
    go_wp2_with fail
    refine (must_at b _ _ lv ts r7 fin _ _ [59] _ (S8.out.alloc _).p rfl (cell_one_at _ _ _ _ (by simp))).mono ?_
    intro e w9 ho
    rcases (out_cases ho).symm with ⟨re, hp, he, hg⟩ | ⟨a9, r9, v, hp, rfl, hv, hg, hw⟩
    · have HE := Lib.hid he
      clear he ho
      obtain rfl : e = _ := HE.out
      exact ⟨rfl, out_error (HPb.out.trans (then_err_eq hp.out)) rfl (grown_trans (S8.out.alloc _).g hg)⟩
    obtain rfl : v = _ := hv
    have S9 := Lib.hid ((S8.out.alloc _).moved hg hw)
    have HP9 := Lib.hid (HPb.out.trans (then_ok_eq hp.out))
    clear hg hw ho hp HPb S8 pb
    have x0 := S9.out.xcell 0
    have f0 := S9.out.xfree 0
    have x1 := S9.out.xcell 1
    have f1 := S9.out.xfree 1
    have x2 := S9.out.xcell 2
    have f2 := S9.out.xfree 2
    have x3 := S9.out.xcell 3
    have f3 := S9.out.xfree 3
    have x4 := S9.out.xcell 4
    have f4 := S9.out.xfree 4
    have x5 := S9.out.xcell 5
    have f5 := S9.out.xfree 5
    have x6 := S9.out.xcell 6
    have f6 := S9.out.xfree 6
    have x7 := S9.out.xcell 7
    have f7 := S9.out.xfree 7
    have x8 := S9.out.xcell 8
    have f8 := S9.out.xfree 8
    have x9 := S9.out.xcell 9
    have f9 := S9.out.xfree 9
    have x10 := S9.out.xcell 10
    have f10 := S9.out.xfree 10
    have x11 := S9.out.xcell 11
    have f11 := S9.out.xfree 11
    have x12 := S9.out.xcell 12
    have f12 := S9.out.xfree 12
    simp only [stCells, List.getElem?_cons_succ, List.getElem?_cons_zero] at x0 x1 x2 x3 x4 x5 x6 x7 x8 x9 x10 x11 x12
    have q0 := S9.out.rcell
    have q1 := S9.out.rfree
    obtain ⟨q00, q01, q02, q03, q04, q05, q06, q07, q08, q09, q010, q011, q012⟩ := q0
    obtain ⟨q10, q11, q12, q13, q14, q15, q16, q17, q18, q19, q110, q111, q112⟩ := q1
    go_wp2
    refine S9.out.ret HP9.out Tryz.results36 ?_ rfl ?_
    · rfl
    · rfl
  · obtain ⟨t7b, r7b, rfl⟩ : ∃ t r, r7 = t :: r := by
      cases r7 with
      | nil => cases hβ
      | cons t r => exact ⟨t, r, rfl⟩
    have HB := Lib.hid hβ
    clear hβ
    go_wp2_with fail
    refine (sees_w b lv ts (t7b :: r7b) fin _ _ [[47]] true _ HB (((S7.out.setN a7).setD 1).alloc _).p (txtRow_at _ _ [[47]] _ _ _ _ rfl rfl (by simp) (by simp))).mono ?_
    rintro e w8 ⟨rfl, hg⟩
    have S8 := Lib.hid ((((S7.out.setN a7).setD 1).alloc _).still hg)
    clear hg S7 pb x9 x10 f9 f10
    have HPb := Lib.hid (HP7.out.trans (sSmall1_yes HB.out))
    have pb := S8.out.pcell
    go_wp2_with fail
    refine (take_at b lv ts r7b t7b fin _ _ (S8.out).p).mono ?_
    rintro e w9 ⟨rfl, hg, hw⟩
    have S9 := Lib.hid ((S8.out).moved hg hw)
    clear hg hw S8 pb
    have pb := S9.out.pcell
    go_wp2_with fail
    refine (number_at b lv ts r7b fin _ 1 2147483647 _ (S9.out).p).mono ?_
    intro e w10 ho
    rcases (out_cases ho).symm with ⟨re, hp, he, hg⟩ | ⟨a10, r10, v, hp, rfl, hv, hg, hw⟩
    · have HE := Lib.hid he
      clear he ho
      obtain rfl : e = _ := HE.out
      exact ⟨rfl, out_error (HPb.out.trans (then_err_eq hp.out)) rfl (grown_trans (S9.out).g hg)⟩
    obtain rfl : v = _ := hv
    have S10 := Lib.hid ((S9.out).moved hg hw)
    have HP10 := Lib.hid (HPb.out.trans (then_ok_eq hp.out))
    clear hg hw ho hp HPb S9 pb
    have pb := S10.out.pcell
    have x10 := S10.out.xcell 10
    have f10 := S10.out.xfree 10
    simp only [stCells, List.getElem?_cons_succ, List.getElem?_cons_zero] at x10
    go_wp2_with fail
    refine (must_at b _ _ lv ts r10 fin _ _ [59] _ ((S10.out.setD a10).alloc _).p rfl (cell_one_at _ _ _ _ (by simp))).mono ?_
    intro e w11 ho
    rcases (out_cases ho).symm with ⟨re, hp, he, hg⟩ | ⟨a11, r11, v, hp, rfl, hv, hg, hw⟩
    · have HE := Lib.hid he
      clear he ho
      obtain rfl : e = _ := HE.out
      exact ⟨rfl, out_error (HP10.out.trans (then_err_eq hp.out)) rfl (grown_trans ((S10.out.setD a10).alloc _).g hg)⟩
    obtain rfl : v = _ := hv
    have S11 := Lib.hid (((S10.out.setD a10).alloc _).moved hg hw)
    have HP11 := Lib.hid (HP10.out.trans (then_ok_eq hp.out))
    clear hg hw ho hp HP10 S10 pb x10 f10
    have x0 := S11.out.xcell 0
    have f0 := S11.out.xfree 0
    have x1 := S11.out.xcell 1
    have f1 := S11.out.xfree 1
    have x2 := S11.out.xcell 2
    have f2 := S11.out.xfree 2
    have x3 := S11.out.xcell 3
    have f3 := S11.out.xfree 3
    have x4 := S11.out.xcell 4
    have f4 := S11.out.xfree 4
    have x5 := S11.out.xcell 5
    have f5 := S11.out.xfree 5
    have x6 := S11.out.xcell 6
    have f6 := S11.out.xfree 6
    have x7 := S11.out.xcell 7
    have f7 := S11.out.xfree 7
    have x8 := S11.out.xcell 8
    have f8 := S11.out.xfree 8
    have x9 := S11.out.xcell 9
    have f9 := S11.out.xfree 9
    have x10 := S11.out.xcell 10
    have f10 := S11.out.xfree 10
    have x11 := S11.out.xcell 11
    have f11 := S11.out.xfree 11
    have x12 := S11.out.xcell 12
    have f12 := S11.out.xfree 12
    simp only [stCells, List.getElem?_cons_succ, List.getElem?_cons_zero] at x0 x1 x2 x3 x4 x5 x6 x7 x8 x9 x10 x11 x12
    have q0 := S11.out.rcell
    have q1 := S11.out.rfree
    obtain ⟨q00, q01, q02, q03, q04, q05, q06, q07, q08, q09, q010, q011, q012⟩ := q0
    obtain ⟨q10, q11, q12, q13, q14, q15, q16, q17, q18, q19, q110, q111, q112⟩ := q1
    go_wp2
    refine S11.out.ret HP11.out Tryz.results36 ?_ rfl ?_
    · rfl
    · rfl
end Go.Proofs.YtdjklnlkocconaaGreatDoor

namespace Go.Proofs.YtdjklnlkocconaaGreatDoor
open Go Go.RowKit

set_option maxHeartbeats 1000000 in
set_option maxRecDepth 100000 in
theorem stmt_write (b : Nat) (lv : Value) (ts r : List Tok) (fin : Int) (t : Tok) (P : PR St) (w : World) (h : PW w b lv ts (t :: r) fin ((0 : Nat) : Int)) (hs : Hid (seesR (t :: r) [w_input, w_let, w_check, w_small, w_write] = true)) (e0 : ((bs t.text).toList == [105, 110, 112, 117, 116]) = false) (e1 : ((bs t.text).toList == [108, 101, 116]) = false) (e2 : ((bs t.text).toList == [99, 104, 101, 99, 107]) = false) (e3 : ((bs t.text).toList == [115, 109, 97, 108, 108]) = false) (e4 : ((bs t.text).toList == [119, 114, 105, 116, 101]) = true)
    (HP0 : Hid (P = (pName r).then fun s r2 => (pMust [61] r2).then fun _ r3 => sWrite s r3)) :
    Calls Tryz.prog 36 #[.pointer (some ⟨b, 0, none⟩)] w fun e w' => StOut w b lv ts fin P e w' := by
  have S0 := Lib.hid (SS.start h)
  clear h
  have hmf : ∀ (fn : Fn) (first cap : Array Value) (w : World), (Instr.makeFunc fn first cap).run Tryz.prog w = .ok (.func fn first cap) w := fun _ _ _ _ => rfl
  have pb := S0.out.pcell
  have pb2 := fun o => (S0.out.alloc o).pcell
  go_enter Tryz.func36, Tryz.ntmps36
  go_wp2_with fail
  refine (sees_w b lv ts (t :: r) fin _ _ [w_input, w_let, w_check, w_small, w_write] true _ hs (S0.out.alloc _).p (txtRow_at _ _ [w_input, w_let, w_check, w_small, w_write] _ _ _ _ rfl rfl (by simp) (by simp))).mono ?_
  rintro e w1 ⟨rfl, hg⟩
  have S1 := Lib.hid ((S0.out.alloc _).still hg)
  clear hg S0 pb pb2
  have pb := S1.out.pcell
  go_wp2_with fail
  refine (take_at b lv ts r t fin _ _ (S1.out).p).mono ?_
  rintro e w2 ⟨rfl, hg, hw⟩
  have S2 := Lib.hid ((S1.out).moved hg hw)
  clear hg hw S1 pb
  have pb := S2.out.pcell
  go_wp2_with fail
  refine (name_at b lv ts r fin _ _ (S2.out).p).mono ?_
  intro e w3 ho
  rcases (out_cases ho).symm with ⟨re, hp, he, hg⟩ | ⟨a3, r3, v, hp, rfl, hv, hg, hw⟩
  · have HE := Lib.hid he
    clear he ho
    obtain rfl : e = _ := HE.out
    exact ⟨rfl, out_error (HP0.out.trans (then_err_eq hp.out)) rfl (grown_trans (S2.out).g hg)⟩
  obtain rfl : v = _ := hv
  have S3 := Lib.hid ((S2.out).moved hg hw)
  have HP3 := Lib.hid (HP0.out.trans (then_ok_eq hp.out))
  clear hg hw ho hp HP0 S2 pb
  have pb := S3.out.pcell
  have x1 := S3.out.xcell 1
  have f1 := S3.out.xfree 1
  simp only [stCells, List.getElem?_cons_succ, List.getElem?_cons_zero] at x1
  go_wp2_with fail
  refine (must_at b _ _ lv ts r3 fin _ _ [61] _ ((S3.out.setName a3).alloc _).p rfl (cell_one_at _ _ _ _ (by simp))).mono ?_
  intro e w4 ho
  rcases (out_cases ho).symm with ⟨re, hp, he, hg⟩ | ⟨a4, r4, v, hp, rfl, hv, hg, hw⟩
  · have HE := Lib.hid he
    clear he ho
    obtain rfl : e = _ := HE.out
    exact ⟨rfl, out_error (HP3.out.trans (then_err_eq hp.out)) rfl (grown_trans ((S3.out.setName a3).alloc _).g hg)⟩
  obtain rfl : v = _ := hv
  have S4 := Lib.hid (((S3.out.setName a3).alloc _).moved hg hw)
  have HP4 := Lib.hid (HP3.out.trans (then_ok_eq hp.out))
  clear hg hw ho hp HP3 S3 pb x1 f1
  have pb := S4.out.pcell
  have x0 := S4.out.xcell 0
  have f0 := S4.out.xfree 0
  simp only [stCells, List.getElem?_cons_zero] at x0
  go_wp2_with fail
  refine (expr_at b lv ts r4 fin 0 _ (by decide) (S4.out.setKind 5).p).mono ?_
  intro e w5 ho
  rcases (out_cases ho).symm with ⟨re, hp, he, hg⟩ | ⟨a5, r5, v, hp, rfl, hv, hg, hw⟩
  · have HE := Lib.hid he
    clear he ho
    obtain rfl : e = _ := HE.out
    exact ⟨rfl, out_error (HP4.out.trans (then_err_eq hp.out)) rfl (grown_trans (S4.out.setKind 5).g hg)⟩
  obtain ⟨k5, s5, b5, m5, c5, rfl⟩ := hv.agg
  have HV5 : Hid (NdIs (w.heap.size + 3 ≤ ·) w5 (Ex.nd a5) (NV.val ⟨k5, s5, b5, m5, c5⟩)) := hv.from (S4.out.setKind 5).size
  have S5 := Lib.hid ((S4.out.setKind 5).moved hg hw)
  have HP5 := Lib.hid (HP4.out.trans (then_ok_eq hp.out))
  clear hg hw ho hp HP4 hv S4 pb x0 f0
  have pb := S5.out.pcell
  have x2 := S5.out.xcell 2
  have f2 := S5.out.xfree 2
  have x3 := S5.out.xcell 3
  have f3 := S5.out.xfree 3
  have x4 := S5.out.xcell 4
  have f4 := S5.out.xfree 4
  simp only [stCells, List.getElem?_cons_succ, List.getElem?_cons_zero] at x2 x3 x4
  go_wp2_with fail
  refine (must_at b _ _ lv ts r5 fin _ _ [44] _ ((S5.out.setA _ _ HV5.out).alloc _).p rfl (cell_one_at _ _ _ _ (by simp))).mono ?_
  intro e w6 ho
  rcases (out_cases ho).symm with ⟨re, hp, he, hg⟩ | ⟨a6, r6, v, hp, rfl, hv, hg, hw⟩
  · have HE := Lib.hid he
    clear he ho
    obtain rfl : e = _ := HE.out
    exact ⟨rfl, out_error (HP5.out.trans (then_err_eq hp.out)) rfl (grown_trans ((S5.out.setA _ _ HV5.out).alloc _).g hg)⟩
  obtain rfl : v = _ := hv
  have S6 := Lib.hid (((S5.out.setA _ _ HV5.out).alloc _).moved hg hw)
  have HP6 := Lib.hid (HP5.out.trans (then_ok_eq hp.out))
  clear hg hw ho hp HP5 S5 pb x2 x3 x4 f2 f3 f4
  go_wp2_with fail
  refine (layers_at w _ b lv ts r6 fin _ _ _ _ (S6.out)).mono ?_
  intro e w7 ho
  rcases ho.symm with ⟨re, hp, he, hg⟩ | ⟨n7, l7, r7, hp, rfl, hs⟩
  · have HE := Lib.hid he
    clear he ho
    obtain rfl : e = _ := HE.out
    exact ⟨rfl, out_error (HP6.out.trans (then_err_eq hp.out)) rfl hg⟩
  have S7 := Lib.hid hs
  have HP7 := Lib.hid (HP6.out.trans (then_ok_eq hp.out))
  clear hs ho hp HP6 S6
  have pb := S7.out.pcell
  cases hβ : seesR r7 [w_snap]
  · have HB := Lib.hid hβ
    clear hβ
    go_wp2_with fail
    refine (sees_w b lv ts r7 fin _ _ [w_snap] false _ HB (S7.out.alloc _).p (txtRow_at _ _ [w_snap] _ _ _ _ rfl rfl (by simp) (by simp))).mono ?_
    rintro e w8 ⟨rfl, hg⟩
    have S8 := Lib.hid ((S7.out.alloc _).still hg)
    clear hg S7 pb
    have HPb := Lib.hid (HP7.out.trans (sWrite1_no HB.out))
    have pb := S8.out.pcell
    go_wp2_with fail
    refine (must_at b _ _ lv ts r7 fin _ _ [59] _ (S8.out.alloc _).p rfl (cell_one_at _ _ _ _ (by simp))).mono ?_
    intro e w9 ho
    rcases (out_cases ho).symm with ⟨re, hp, he, hg⟩ | ⟨a9, r9, v, hp, rfl, hv, hg, hw⟩
    · have HE := Lib.hid he
      clear he ho
      obtain rfl : e = _ := HE.out
      exact ⟨rfl, out_error (HPb.out.trans (then_err_eq hp.out)) rfl (grown_trans (S8.out.alloc _).g hg)⟩
    obtain rfl : v = _ := hv
    have S9 := Lib.hid ((S8.out.alloc _).moved hg hw)
    have HP9 := Lib.hid (HPb.out.trans (then_ok_eq hp.out))
    clear hg hw ho hp HPb S8 pb
    have x0 := S9.out.xcell 0
    have f0 := S9.out.xfree 0
    have x1 := S9.out.xcell 1
    have f1 := S9.out.xfree 1
    have x2 := S9.out.xcell 2
    have f2 := S9.out.xfree 2
    have x3 := S9.out.xcell 3
    have f3 := S9.out.xfree 3
    have x4 := S9.out.xcell 4
    have f4 := S9.out.xfree 4
    have x5 := S9.out.xcell 5
    have f5 := S9.out.xfree 5
    have x6 := S9.out.xcell 6
    have f6 := S9.out.xfree 6
    have x7 := S9.out.xcell 7
    have f7 := S9.out.xfree 7
    have x8 := S9.out.xcell 8
    have f8 := S9.out.xfree 8
    have x9 := S9.out.xcell 9
    have f9 := S9.out.xfree 9
    have x10 := S9.out.xcell 10
    have f10 := S9.out.xfree 10
    have x11 := S9.out.xcell 11
    have f11 := S9.out.xfree 11
    have x12 := S9.out.xcell 12
    have f12 := S9.out.xfree 12
    simp only [stCells, List.getElem?_cons_succ, List.getElem?_cons_zero] at x0 x1 x2 x3 x4 x5 x6 x7 x8 x9 x10 x11 x12
    have q0 := S9.out.rcell
    have q1 := S9.out.rfree
    obtain ⟨q00, q01, q02, q03, q04, q05, q06, q07, q08, q09, q010, q011, q012⟩ := q0
    obtain ⟨q10, q11, q12, q13, q14, q15, q16, q17, q18, q19, q110, q111, q112⟩ := q1
    go_wp2
    refine S9.out.ret HP9.out Tryz.results36 ?_ rfl ?_
    · rfl
    · rfl
  · obtain ⟨t7b, r7b, rfl⟩ : ∃ t r, r7 = t :: r := by
      cases r7 with
      | nil => cases hβ
      | cons t r => exact ⟨t, r, rfl⟩
    have HB := Lib.hid hβ
    clear hβ
    go_wp2_with fail
    refine (sees_w b lv ts (t7b :: r7b) fin _ _ [w_snap] true _ HB (S7.out.alloc _).p (txtRow_at _ _ [w_snap] _ _ _ _ rfl rfl (by simp) (by simp))).mono ?_
    rintro e w8 ⟨rfl, hg⟩
    have S8 := Lib.hid ((S7.out.alloc _).still hg)
    clear hg S7 pb
    have HPb := Lib.hid (HP7.out.trans (sWrite1_yes HB.out))
    have pb := S8.out.pcell
    go_wp2_with fail
    refine (take_at b lv ts r7b t7b fin _ _ (S8.out).p).mono ?_
    rintro e w9 ⟨rfl, hg, hw⟩
    have S9 := Lib.hid ((S8.out).moved hg hw)
    clear hg hw S8 pb
    have pb := S9.out.pcell
    have x12 := S9.out.xcell 12
    have f12 := S9.out.xfree 12
    simp only [stCells, List.getElem?_cons_succ, List.getElem?_cons_zero] at x12
    go_wp2_with fail
    refine (must_at b _ _ lv ts r7b fin _ _ [59] _ ((S9.out.setSnap true).alloc _).p rfl (cell_one_at _ _ _ _ (by simp))).mono ?_
    intro e w10 ho
    rcases (out_cases ho).symm with ⟨re, hp, he, hg⟩ | ⟨a10, r10, v, hp, rfl, hv, hg, hw⟩
    · have HE := Lib.hid he
      clear he ho
      obtain rfl : e = _ := HE.out
      exact ⟨rfl, out_error (HPb.out.trans (then_err_eq hp.out)) rfl (grown_trans ((S9.out.setSnap true).alloc _).g hg)⟩
    obtain rfl : v = _ := hv
    have S10 := Lib.hid (((S9.out.setSnap true).alloc _).moved hg hw)
    have HP10 := Lib.hid (HPb.out.trans (then_ok_eq hp.out))
    clear hg hw ho hp HPb S9 pb x12 f12
    have x0 := S10.out.xcell 0
    have f0 := S10.out.xfree 0
    have x1 := S10.out.xcell 1
    have f1 := S10.out.xfree 1
    have x2 := S10.out.xcell 2
    have f2 := S10.out.xfree 2
    have x3 := S10.out.xcell 3
    have f3 := S10.out.xfree 3
    have x4 := S10.out.xcell 4
    have f4 := S10.out.xfree 4
    have x5 := S10.out.xcell 5
    have f5 := S10.out.xfree 5
    have x6 := S10.out.xcell 6
    have f6 := S10.out.xfree 6
    have x7 := S10.out.xcell 7
    have f7 := S10.out.xfree 7
    have x8 := S10.out.xcell 8
    have f8 := S10.out.xfree 8
    have x9 := S10.out.xcell 9
    have f9 := S10.out.xfree 9
    have x10 := S10.out.xcell 10
    have f10 := S10.out.xfree 10
    have x11 := S10.out.xcell 11
    have f11 := S10.out.xfree 11
    have x12 := S10.out.xcell 12
    have f12 := S10.out.xfree 12
    simp only [stCells, List.getElem?_cons_succ, List.getElem?_cons_zero] at x0 x1 x2 x3 x4 x5 x6 x7 x8 x9 x10 x11 x12
    have q0 := S10.out.rcell
    have q1 := S10.out.rfree
    obtain ⟨q00, q01, q02, q03, q04, q05, q06, q07, q08, q09, q010, q011, q012⟩ := q0
    obtain ⟨q10, q11, q12, q13, q14, q15, q16, q17, q18, q19, q110, q111, q112⟩ := q1
    go_wp2
    refine S10.out.ret HP10.out Tryz.results36 ?_ rfl ?_
    · rfl
    · rfl
end Go.Proofs.YtdjklnlkocconaaGreatDoor

namespace Go.Proofs.YtdjklnlkocconaaGreatDoor
open Go Go.RowKit

theorem rules_w (w : World) :
    Calls Tryz.prog 61 #[] w fun e w' => ∃ g, e = .returned (.slice (some ⟨g, 0, none⟩) 6 6) ∧ w.grownBy w' none ∧ Hid (w'.heap[g]? = some (txts rulesL) ∧ w.heap.size ≤ g ∧ g < w'.heap.size) :=
  (rules_any w).mono fun e w' ⟨he, hw⟩ => ⟨w.heap.size, he, by rw [hw]; exact grown_alloc _ _ _, by
    subst hw
    exact ⟨(MapKept.heap_alloc w _).1, Nat.le_refl _, by simp⟩⟩

theorem txts_row {w : World} {g : Nat} {l : List (List UInt8)} {n cap : Nat} (h : w.heap[g]? = some (txts l)) (hn : n = l.length) (hl : l.length ≤ 9223372036854775807) : TxtRow w (.slice (some ⟨g, 0, none⟩) n cap) l := by
  subst hn
  refine ⟨g, cap, rfl, hl, fun j hj => ?_⟩
  simp [World.cell?, h, txts, hj]

theorem index_is (g : Nat) (x : List UInt8) (k : Int) (w : World) (hk : Hid (Lib.idxOfS (rulesL.map bs) (bs x) = k)) (hc : w.heap[g]? = some (txts rulesL)) :
    Calls Tryz.prog 47 #[.slice (some ⟨g, 0, none⟩) 6 6, .string (bs x)] w fun e w' => e = .returned (.int .i64 k) ∧ w = w' := by
  have := Tryz.slices_Index_string g 0 6 6 (rulesL.map bs) (bs x) w (by simp [rulesL]) (by omega) (by
    intro j hj
    simp only [List.length_map] at hj
    have h1 : w.cell? ⟨g, 0 + j, none⟩ = ((rulesL.map fun s => Value.string (bs s)).toArray)[j]? := by
      simp [World.cell?, hc, txts]
    rw [h1]
    simp [hj])
  rw [show (rulesL.map bs).take 6 = rulesL.map bs from rfl, hk.out] at this
  exact this.mono fun _ _ ⟨he, hw⟩ => ⟨he, hw.symm⟩

theorem ruleNo_no {t : Tok} {r : List Tok} (h : seesR (t :: r) rulesL = false) : ruleNo t = 0 := by
  simp only [seesR, rulesL, List.contains_cons, List.contains_nil, Bool.or_false] at h
  unfold ruleNo isT
  cases hk : (t.kind != 2)
  · rfl
  · rw [hk] at h
    simp only [Bool.true_and, Bool.or_eq_false_iff] at h
    rw [h.1, h.2.1, h.2.2.1, h.2.2.2.1, h.2.2.2.2.1, h.2.2.2.2.2]; rfl
theorem ruleNo_yes {t : Tok} {r : List Tok} (h : seesR (t :: r) rulesL = true) : ruleNo t ≠ 0 ∧ 1 ≤ ruleNo t ∧ ruleNo t ≤ 6 ∧ Lib.idxOfS (rulesL.map bs) (bs t.text) = ruleNo t - 1 := by
  simp only [seesR, rulesL, List.contains_cons, List.contains_nil, Bool.or_false, Bool.and_eq_true, Bool.or_eq_true, beq_iff_eq] at h
  unfold ruleNo isT
  rw [h.1]
  rcases h.2 with e | e | e | e | e | e <;> rw [e] <;> decide +kernel

theorem sCheck_no {s : List UInt8} {r : List Tok} (h : seesR r rulesL = false) : sCheck s r = .error r := by
  cases r with
  | nil => rfl
  | cons t r => rw [sCheck, if_pos (ruleNo_no h)]
theorem sCheck_yes {s : List UInt8} {t : Tok} {r : List Tok} (h : seesR (t :: r) rulesL = true) : sCheck s (t :: r) =
    (pMust [40] r).then fun _ r2 => (pExpr 1 r2).then fun a r3 => (pMust [44] r3).then fun _ r4 => sCheck1 { St.zero with kind := 3, name := s, rule := ruleNo t, a := a.nd } r4 := by
  rw [sCheck, if_neg (ruleNo_yes h).1]
theorem sCheck1_no {x : St} {r : List Tok} (h : x.rule ≤ 3) : sCheck1 x r = sCheck2 x r := by rw [sCheck1, if_neg (by omega)]
theorem sCheck1_yes {x : St} {r : List Tok} (h : 3 < x.rule) : sCheck1 x r = (pExpr 1 r).then fun b r1 => (pMust [44] r1).then fun _ r2 => sCheck2 { x with b := b.nd } r2 := by rw [sCheck1, if_pos h]
end Go.Proofs.YtdjklnlkocconaaGreatDoor

namespace Go.Proofs.YtdjklnlkocconaaGreatDoor
open Go Go.RowKit

set_option maxHeartbeats 1000000 in
set_option maxRecDepth 100000 in
theorem stmt_check (b : Nat) (lv : Value) (ts r : List Tok) (fin : Int) (t : Tok) (P : PR St) (w : World) (h : PW w b lv ts (t :: r) fin ((0 : Nat) : Int)) (hs : Hid (seesR (t :: r) [w_input, w_let, w_check, w_small, w_write] = true)) (e0 : ((bs t.text).toList == [105, 110, 112, 117, 116]) = false) (e1 : ((bs t.text).toList == [108, 101, 116]) = false) (e2 : ((bs t.text).toList == [99, 104, 101, 99, 107]) = true)
    (HP0 : Hid (P = (pName r).then fun s r2 => (pMust [61] r2).then fun _ r3 => sCheck s r3)) :
    Calls Tryz.prog 36 #[.pointer (some ⟨b, 0, none⟩)] w fun e w' => StOut w b lv ts fin P e w' := by
  have S0 := Lib.hid (SS.start h)
  clear h
  have hmf : ∀ (fn : Fn) (first cap : Array Value) (w : World), (Instr.makeFunc fn first cap).run Tryz.prog w = .ok (.func fn first cap) w := fun _ _ _ _ => rfl
  have pb := S0.out.pcell
  have pb2 := fun o => (S0.out.alloc o).pcell
  go_enter Tryz.func36, Tryz.ntmps36
  go_wp2_with fail
  refine (sees_w b lv ts (t :: r) fin _ _ [w_input, w_let, w_check, w_small, w_write] true _ hs (S0.out.alloc _).p (txtRow_at _ _ [w_input, w_let, w_check, w_small, w_write] _ _ _ _ rfl rfl (by simp) (by simp))).mono ?_
  rintro e w1 ⟨rfl, hg⟩
  have S1 := Lib.hid ((S0.out.alloc _).still hg)
  clear hg S0 pb pb2
  have pb := S1.out.pcell
  go_wp2_with fail
  refine (take_at b lv ts r t fin _ _ (S1.out).p).mono ?_
  rintro e w2 ⟨rfl, hg, hw⟩
  have S2 := Lib.hid ((S1.out).moved hg hw)
  clear hg hw S1 pb
  have pb := S2.out.pcell
  go_wp2_with fail
  refine (name_at b lv ts r fin _ _ (S2.out).p).mono ?_
  intro e w3 ho
  rcases (out_cases ho).symm with ⟨re, hp, he, hg⟩ | ⟨a3, r3, v, hp, rfl, hv, hg, hw⟩
  · have HE := Lib.hid he
    clear he ho
    obtain rfl : e = _ := HE.out
    exact ⟨rfl, out_error (HP0.out.trans (then_err_eq hp.out)) rfl (grown_trans (S2.out).g hg)⟩
  obtain rfl : v = _ := hv
  have S3 := Lib.hid ((S2.out).moved hg hw)
  have HP3 := Lib.hid (HP0.out.trans (then_ok_eq hp.out))
  clear hg hw ho hp HP0 S2 pb
  have pb := S3.out.pcell
  have x1 := S3.out.xcell 1
  have f1 := S3.out.xfree 1
  simp only [stCells, List.getElem?_cons_succ, List.getElem?_cons_zero] at x1
  go_wp2_with fail
  refine (must_at b _ _ lv ts r3 fin _ _ [61] _ ((S3.out.setName a3).alloc _).p rfl (cell_one_at _ _ _ _ (by simp))).mono ?_
  intro e w4 ho
  rcases (out_cases ho).symm with ⟨re, hp, he, hg⟩ | ⟨a4, r4, v, hp, rfl, hv, hg, hw⟩
  · have HE := Lib.hid he
    clear he ho
    obtain rfl : e = _ := HE.out
    exact ⟨rfl, out_error (HP3.out.trans (then_err_eq hp.out)) rfl (grown_trans ((S3.out.setName a3).alloc _).g hg)⟩
  obtain rfl : v = _ := hv
  have S4 := Lib.hid (((S3.out.setName a3).alloc _).moved hg hw)
  have HP4 := Lib.hid (HP3.out.trans (then_ok_eq hp.out))
  clear hg hw ho hp HP3 S3 pb x1 f1
  have pb := S4.out.pcell
  have x0 := S4.out.xcell 0
  have f0 := S4.out.xfree 0
  simp only [stCells, List.getElem?_cons_zero] at x0
  go_wp2_with fail
  have SK := Lib.hid (S4.out.setKind 3)
  clear pb x0 f0 S4
  generalize (w4.setCell ⟨w.heap.size + 1 + 1, 0, none⟩ (.int .i64 3)) = wk at *
  have pb := SK.out.pcell
  have HD : Hid (wk.grownBy wk.drew none) := grown_drew wk 1 none
  cases hβ : seesR r4 rulesL
  · have HB := Lib.hid hβ
    clear hβ
    have HPb := Lib.hid (HP4.out.trans (sCheck_no HB.out))
    go_region_held3 (fun w' => w'.cell? ⟨w.heap.size, 0, none⟩ = some (.pointer (some ⟨b, 0, none⟩))) (first | exact pb | exact pbr | exact pbs)
    (first
      | (go_at_call 61; refine (rules_w _).mono ?_; rintro e wr ⟨gr, rfl, hg, HT⟩; have SR := Lib.hid ((SK.out.still HD.out).still hg); have pbr := SR.out.pcell; clear hg)
      | (go_at_call 54; refine (sees_w b lv ts r4 fin _ _ rulesL false _ HB SR.out.p (txts_row HT.out.1 rfl (by simp [rulesL]))).mono ?_; rintro e ws ⟨rfl, hg⟩; have SZ := Lib.hid (SR.out.still hg); have pbs := SZ.out.pcell; clear hg))
    go_wp2_with fail
    refine (fail_at b lv ts r4 fin _ _ SZ.out.p).mono ?_
    rintro e w9 ⟨he, q, rfl⟩
    have HE := Lib.hid he
    clear he
    obtain rfl : e = _ := HE.out
    exact ⟨rfl, out_error HPb.out rfl (grown_trans SZ.out.g (grown_drew _ q _))⟩
  · obtain ⟨t4, r4b, rfl⟩ : ∃ t r, r4 = t :: r := by
      cases r4 with
      | nil => cases hβ
      | cons t r => exact ⟨t, r, rfl⟩
    have HB := Lib.hid hβ
    obtain ⟨k, hk⟩ : ∃ k, ruleNo t4 = k := ⟨_, rfl⟩
    have hy := ruleNo_yes hβ
    rw [hk] at hy
    have HPb := Lib.hid (HP4.out.trans (sCheck_yes HB.out))
    rw [hk] at HPb
    clear hβ hk
    obtain ⟨j, rfl⟩ : ∃ j, k = 1 + j := ⟨k - 1, by omega⟩
    have hj0 : 0 ≤ j := by omega
    have hj5 : j ≤ 5 := by omega
    have HI : Hid (Lib.idxOfS (rulesL.map bs) (bs t4.text) = j) := by
      have h1 := hy.2.2.2
      show _ = _
      omega
    clear hy
    go_region_held3 (fun w' => w'.cell? ⟨w.heap.size, 0, none⟩ = some (.pointer (some ⟨b, 0, none⟩))) (first | exact pb | exact pbr | exact pbs)
    (first
      | (go_at_call 61; refine (rules_w _).mono ?_; rintro e wr ⟨gr, rfl, hg, HT⟩; have SR := Lib.hid ((SK.out.still HD.out).still hg); have pbr := SR.out.pcell; clear hg)
      | (go_at_call 54; refine (sees_w b lv ts (t4 :: r4b) fin _ _ rulesL true _ HB SR.out.p (txts_row HT.out.1 rfl (by simp [rulesL]))).mono ?_; rintro e ws ⟨rfl, hg⟩; have SZ := Lib.hid (SR.out.still hg); have pbs := SZ.out.pcell; clear hg))
    have SZ2 := Lib.hid (SZ.out.still (grown_drew _ 1 none))
    clear pb pbr SR SK SZ HT
    go_wp2_with fail
    go_region_held3 (fun w' => w'.cell? ⟨w.heap.size, 0, none⟩ = some (.pointer (some ⟨b, 0, none⟩))) (first | exact pbs | exact pbv | exact pbu | exact pbf | (rw [World.cell?_setCell_other _ _ _ _ (by simp)]; exact pbf))
    (first
      | (go_at_call 61; refine (rules_w _).mono ?_; rintro e wr2 ⟨gr2, rfl, hg, HT2⟩; (first | (have SF := Lib.hid (SU.out.still hg); have HF := Lib.hid HT2.out.1) | (have SV := Lib.hid ((SZ2.out).still hg); have HV := Lib.hid HT2.out)); (first | have pbf := SF.out.pcell | have pbv := SV.out.pcell); clear hg HT2; try (have x8 := SF.out.xcell 8; have f8 := SF.out.xfree 8; simp only [stCells, List.getElem?_cons_succ, List.getElem?_cons_zero] at x8))
      | (go_at_call 55; refine (take_at b lv ts r4b t4 fin ((0 : Nat) : Int) _ ?_).mono ?_; (first | exact SV.out.p | exact SZ2.out.p); rintro e wu ⟨rfl, hg, hw⟩; (first | (have SF := Lib.hid (SV.out.moved hg hw); have HF : Hid (wu.heap[gr2]? = some (txts rulesL)) := (hg.block gr2 HV.out.2.2 (by intro e; have := Option.some.inj e; have h1 : ws.heap.size ≤ gr2 := HV.out.2.1; have h2 : w.heap.size + 3 ≤ ws.heap.size := SZ2.out.size; have h3 := SZ2.out.hb; omega)).trans HV.out.1) | (have SU := Lib.hid ((SZ2.out).moved hg hw))); (first | have pbf := SF.out.pcell | have pbu := SU.out.pcell); clear hg hw; try (have x8 := SF.out.xcell 8; have f8 := SF.out.xfree 8; simp only [stCells, List.getElem?_cons_succ, List.getElem?_cons_zero] at x8))
      | (go_at_call 47; refine (index_is gr2 t4.text _ _ HI HF.out).mono ?_; rintro e wi ⟨rfl, rfl⟩))
    all_goals
      clear pbs SZ2 HF x8 f8 HI
      try clear SV HV pbv
      try clear SU pbu
      go_wp2_with fail
      refine (open_must b lv ts r4b fin 0 _ (SF.out.setRule (1 + j)).p (by decide)).mono ?_
      intro e w21 ho
      rcases (out_cases ho).symm with ⟨re, hp, he, hg⟩ | ⟨a21, r21, v, hp, rfl, hv, hg, hw⟩
      · have HE := Lib.hid he
        clear he ho
        obtain rfl : e = _ := HE.out
        exact ⟨rfl, out_error (HPb.out.trans (then_err_eq hp.out)) rfl (grown_trans (SF.out.setRule (1 + j)).g hg)⟩
      obtain rfl : v = _ := hv
      have S21 := Lib.hid ((SF.out.setRule (1 + j)).moved hg hw)
      have HP21 := Lib.hid (HPb.out.trans (then_ok_eq hp.out))
      clear hg hw ho hp HPb SF pbf
      have pb := S21.out.pcell
      go_wp2_with fail
      refine (expr_at b lv ts r21 fin 1 _ (by decide) (S21.out).p).mono ?_
      intro e w22 ho
      rcases (out_cases ho).symm with ⟨re, hp, he, hg⟩ | ⟨a22, r22, v, hp, rfl, hv, hg, hw⟩
      · have HE := Lib.hid he
        clear he ho
        obtain rfl : e = _ := HE.out
        exact ⟨rfl, out_error (HP21.out.trans (then_err_eq hp.out)) rfl (grown_trans (S21.out).g hg)⟩
      obtain ⟨k22, s22, b22, m22, c22, rfl⟩ := hv.agg
      have HV22 : Hid (NdIs (w.heap.size + 3 ≤ ·) w22 (Ex.nd a22) (NV.val ⟨k22, s22, b22, m22, c22⟩)) := hv.from (S21.out).size
      have S22 := Lib.hid ((S21.out).moved hg hw)
      have HP22 := Lib.hid (HP21.out.trans (then_ok_eq hp.out))
      clear hg hw ho hp HP21 hv S21 pb
      have pb := S22.out.pcell
      have x2 := S22.out.xcell 2
      have f2 := S22.out.xfree 2
      have x3 := S22.out.xcell 3
      have f3 := S22.out.xfree 3
      have x4 := S22.out.xcell 4
      have f4 := S22.out.xfree 4
      simp only [stCells, List.getElem?_cons_succ, List.getElem?_cons_zero] at x2 x3 x4
      go_wp2_with fail
      refine (must_at b _ _ lv ts r22 fin _ _ [44] _ ((S22.out.setA _ _ HV22.out).alloc _).p rfl (cell_one_at _ _ _ _ (by simp))).mono ?_
      intro e w23 ho
      rcases (out_cases ho).symm with ⟨re, hp, he, hg⟩ | ⟨a23, r23, v, hp, rfl, hv, hg, hw⟩
      · have HE := Lib.hid he
        clear he ho
        obtain rfl : e = _ := HE.out
        exact ⟨rfl, out_error (HP22.out.trans (then_err_eq hp.out)) rfl (grown_trans ((S22.out.setA _ _ HV22.out).alloc _).g hg)⟩
      obtain rfl : v = _ := hv
      have S23 := Lib.hid (((S22.out.setA _ _ HV22.out).alloc _).moved hg hw)
      have HP23 := Lib.hid (HP22.out.trans (then_ok_eq hp.out))
      clear hg hw ho hp HP22 S22 pb x2 x3 x4 f2 f3 f4
      have pb := S23.out.pcell
      have x8 := S23.out.xcell 8
      have f8 := S23.out.xfree 8
      simp only [stCells, List.getElem?_cons_succ, List.getElem?_cons_zero] at x8
      by_cases hr : 3 < 1 + j
      · have HPc := Lib.hid (HP23.out.trans (sCheck1_yes hr))
        go_wp2_with fail
        refine (expr_at b lv ts r23 fin 1 _ (by decide) (S23.out).p).mono ?_
        intro e w24 ho
        rcases (out_cases ho).symm with ⟨re, hp, he, hg⟩ | ⟨a24, r24, v, hp, rfl, hv, hg, hw⟩
        · have HE := Lib.hid he
          clear he ho
          obtain rfl : e = _ := HE.out
          exact ⟨rfl, out_error (HPc.out.trans (then_err_eq hp.out)) rfl (grown_trans (S23.out).g hg)⟩
        obtain ⟨k24, s24, b24, m24, c24, rfl⟩ := hv.agg
        have HV24 : Hid (NdIs (w.heap.size + 3 ≤ ·) w24 (Ex.nd a24) (NV.val ⟨k24, s24, b24, m24, c24⟩)) := hv.from (S23.out).size
        have S24 := Lib.hid ((S23.out).moved hg hw)
        have HP24 := Lib.hid (HPc.out.trans (then_ok_eq hp.out))
        clear hg hw ho hp HPc hv S23 pb x8 f8
        have pb := S24.out.pcell
        have x5 := S24.out.xcell 5
        have f5 := S24.out.xfree 5
        have x6 := S24.out.xcell 6
        have f6 := S24.out.xfree 6
        have x7 := S24.out.xcell 7
        have f7 := S24.out.xfree 7
        simp only [stCells, List.getElem?_cons_succ, List.getElem?_cons_zero] at x5 x6 x7
        go_wp2_with fail
        refine (must_at b _ _ lv ts r24 fin _ _ [44] _ ((S24.out.setB _ _ HV24.out).alloc _).p rfl (cell_one_at _ _ _ _ (by simp))).mono ?_
        intro e w25 ho
        rcases (out_cases ho).symm with ⟨re, hp, he, hg⟩ | ⟨a25, r25, v, hp, rfl, hv, hg, hw⟩
        · have HE := Lib.hid he
          clear he ho
          obtain rfl : e = _ := HE.out
          exact ⟨rfl, out_error (HP24.out.trans (then_err_eq hp.out)) rfl (grown_trans ((S24.out.setB _ _ HV24.out).alloc _).g hg)⟩
        obtain rfl : v = _ := hv
        have S25 := Lib.hid (((S24.out.setB _ _ HV24.out).alloc _).moved hg hw)
        have HP25 := Lib.hid (HP24.out.trans (then_ok_eq hp.out))
        clear hg hw ho hp HP24 S24 pb x5 x6 x7 f5 f6 f7
        have pb := S25.out.pcell
        go_wp2_with fail
        refine (number_at b lv ts r25 fin _ 1 2147483647 _ (S25.out).p).mono ?_
        intro e w26 ho
        rcases (out_cases ho).symm with ⟨re, hp, he, hg⟩ | ⟨a26, r26, v, hp, rfl, hv, hg, hw⟩
        · have HE := Lib.hid he
          clear he ho
          obtain rfl : e = _ := HE.out
          exact ⟨rfl, out_error (HP25.out.trans (then_err_eq hp.out)) rfl (grown_trans (S25.out).g hg)⟩
        obtain rfl : v = _ := hv
        have S26 := Lib.hid ((S25.out).moved hg hw)
        have HP26 := Lib.hid (HP25.out.trans (then_ok_eq hp.out))
        clear hg hw ho hp HP25 S25 pb
        have pb := S26.out.pcell
        have x9 := S26.out.xcell 9
        have f9 := S26.out.xfree 9
        simp only [stCells, List.getElem?_cons_succ, List.getElem?_cons_zero] at x9
        go_wp2_with fail
        refine (shut_at b lv ts r26 fin 0 _ (S26.out.setN a26).p (by decide)).mono ?_
        intro e w27 ho
        rcases (out_cases ho).symm with ⟨re, hp, he, hg⟩ | ⟨a27, r27, v, hp, rfl, hv, hg, hw⟩
        · have HE := Lib.hid he
          clear he ho
          obtain rfl : e = _ := HE.out
          exact ⟨rfl, out_error (HP26.out.trans (then_err_eq hp.out)) rfl (grown_trans (S26.out.setN a26).g hg)⟩
        obtain rfl : v = _ := hv
        have S27 := Lib.hid ((S26.out.setN a26).moved hg hw)
        have HP27 := Lib.hid (HP26.out.trans (then_ok_eq hp.out))
        clear hg hw ho hp HP26 S26 pb x9 f9
        have pb := S27.out.pcell
        go_wp2_with fail
        refine (must_at b _ _ lv ts r27 fin _ _ [59] _ (S27.out.alloc _).p rfl (cell_one_at _ _ _ _ (by simp))).mono ?_
        intro e w28 ho
        rcases (out_cases ho).symm with ⟨re, hp, he, hg⟩ | ⟨a28, r28, v, hp, rfl, hv, hg, hw⟩
        · have HE := Lib.hid he
          clear he ho
          obtain rfl : e = _ := HE.out
          exact ⟨rfl, out_error (HP27.out.trans (then_err_eq hp.out)) rfl (grown_trans (S27.out.alloc _).g hg)⟩
        obtain rfl : v = _ := hv
        have S28 := Lib.hid ((S27.out.alloc _).moved hg hw)
        have HP28 := Lib.hid (HP27.out.trans (then_ok_eq hp.out))
        clear hg hw ho hp HP27 S27 pb
        have x0 := S28.out.xcell 0
        have f0 := S28.out.xfree 0
        have x1 := S28.out.xcell 1
        have f1 := S28.out.xfree 1
        have x2 := S28.out.xcell 2
        have f2 := S28.out.xfree 2
        have x3 := S28.out.xcell 3
        have f3 := S28.out.xfree 3
        have x4 := S28.out.xcell 4
        have f4 := S28.out.xfree 4
        have x5 := S28.out.xcell 5
        have f5 := S28.out.xfree 5
        have x6 := S28.out.xcell 6
        have f6 := S28.out.xfree 6
        have x7 := S28.out.xcell 7
        have f7 := S28.out.xfree 7
        have x8 := S28.out.xcell 8
        have f8 := S28.out.xfree 8
        have x9 := S28.out.xcell 9
        have f9 := S28.out.xfree 9
        have x10 := S28.out.xcell 10
        have f10 := S28.out.xfree 10
        have x11 := S28.out.xcell 11
        have f11 := S28.out.xfree 11
        have x12 := S28.out.xcell 12
        have f12 := S28.out.xfree 12
        simp only [stCells, List.getElem?_cons_succ, List.getElem?_cons_zero] at x0 x1 x2 x3 x4 x5 x6 x7 x8 x9 x10 x11 x12
        have q0 := S28.out.rcell
        have q1 := S28.out.rfree
        obtain ⟨q00, q01, q02, q03, q04, q05, q06, q07, q08, q09, q010, q011, q012⟩ := q0
        obtain ⟨q10, q11, q12, q13, q14, q15, q16, q17, q18, q19, q110, q111, q112⟩ := q1
        go_wp2
        refine S28.out.ret HP28.out Tryz.results36 ?_ rfl ?_
        · rfl
        · rfl
      · have HPc := Lib.hid (HP23.out.trans (sCheck1_no (by show 1 + j ≤ 3; omega)))
        go_wp2_with fail
        refine (number_at b lv ts r23 fin _ 1 2147483647 _ (S23.out).p).mono ?_
        intro e w24 ho
        rcases (out_cases ho).symm with ⟨re, hp, he, hg⟩ | ⟨a24, r24, v, hp, rfl, hv, hg, hw⟩
        · have HE := Lib.hid he
          clear he ho
          obtain rfl : e = _ := HE.out
          exact ⟨rfl, out_error (HPc.out.trans (then_err_eq hp.out)) rfl (grown_trans (S23.out).g hg)⟩
        obtain rfl : v = _ := hv
        have S24 := Lib.hid ((S23.out).moved hg hw)
        have HP24 := Lib.hid (HPc.out.trans (then_ok_eq hp.out))
        clear hg hw ho hp HPc S23 pb x8 f8
        have pb := S24.out.pcell
        have x9 := S24.out.xcell 9
        have f9 := S24.out.xfree 9
        simp only [stCells, List.getElem?_cons_succ, List.getElem?_cons_zero] at x9
        go_wp2_with fail
        refine (shut_at b lv ts r24 fin 0 _ (S24.out.setN a24).p (by decide)).mono ?_
        intro e w25 ho
        rcases (out_cases ho).symm with ⟨re, hp, he, hg⟩ | ⟨a25, r25, v, hp, rfl, hv, hg, hw⟩
        · have HE := Lib.hid he
          clear he ho
          obtain rfl : e = _ := HE.out
          exact ⟨rfl, out_error (HP24.out.trans (then_err_eq hp.out)) rfl (grown_trans (S24.out.setN a24).g hg)⟩
        obtain rfl : v = _ := hv
        have S25 := Lib.hid ((S24.out.setN a24).moved hg hw)
        have HP25 := Lib.hid (HP24.out.trans (then_ok_eq hp.out))
        clear hg hw ho hp HP24 S24 pb x9 f9
        have pb := S25.out.pcell
        go_wp2_with fail
        refine (must_at b _ _ lv ts r25 fin _ _ [59] _ (S25.out.alloc _).p rfl (cell_one_at _ _ _ _ (by simp))).mono ?_
        intro e w26 ho
        rcases (out_cases ho).symm with ⟨re, hp, he, hg⟩ | ⟨a26, r26, v, hp, rfl, hv, hg, hw⟩
        · have HE := Lib.hid he
          clear he ho
          obtain rfl : e = _ := HE.out
          exact ⟨rfl, out_error (HP25.out.trans (then_err_eq hp.out)) rfl (grown_trans (S25.out.alloc _).g hg)⟩
        obtain rfl : v = _ := hv
        have S26 := Lib.hid ((S25.out.alloc _).moved hg hw)
        have HP26 := Lib.hid (HP25.out.trans (then_ok_eq hp.out))
        clear hg hw ho hp HP25 S25 pb
        have x0 := S26.out.xcell 0
        have f0 := S26.out.xfree 0
        have x1 := S26.out.xcell 1
        have f1 := S26.out.xfree 1
        have x2 := S26.out.xcell 2
        have f2 := S26.out.xfree 2
        have x3 := S26.out.xcell 3
        have f3 := S26.out.xfree 3
        have x4 := S26.out.xcell 4
        have f4 := S26.out.xfree 4
        have x5 := S26.out.xcell 5
        have f5 := S26.out.xfree 5
        have x6 := S26.out.xcell 6
        have f6 := S26.out.xfree 6
        have x7 := S26.out.xcell 7
        have f7 := S26.out.xfree 7
        have x8 := S26.out.xcell 8
        have f8 := S26.out.xfree 8
        have x9 := S26.out.xcell 9
        have f9 := S26.out.xfree 9
        have x10 := S26.out.xcell 10
        have f10 := S26.out.xfree 10
        have x11 := S26.out.xcell 11
        have f11 := S26.out.xfree 11
        have x12 := S26.out.xcell 12
        have f12 := S26.out.xfree 12
        simp only [stCells, List.getElem?_cons_succ, List.getElem?_cons_zero] at x0 x1 x2 x3 x4 x5 x6 x7 x8 x9 x10 x11 x12
        have q0 := S26.out.rcell
        have q1 := S26.out.rfree
        obtain ⟨q00, q01, q02, q03, q04, q05, q06, q07, q08, q09, q010, q011, q012⟩ := q0
        obtain ⟨q10, q11, q12, q13, q14, q15, q16, q17, q18, q19, q110, q111, q112⟩ := q1
        go_wp2
        refine S26.out.ret HP26.out Tryz.results36 ?_ rfl ?_
        · rfl
        · rfl
end Go.Proofs.YtdjklnlkocconaaGreatDoor
