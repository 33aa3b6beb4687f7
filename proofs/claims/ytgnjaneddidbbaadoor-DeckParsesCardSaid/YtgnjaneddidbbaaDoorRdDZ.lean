/-
  The reference's reader: stmt at check: the walks.
  The reference's reader: stmt at small: the walks.
  The reference's reader: stmt at write: the walks.
  The reference's reader: stmt, whatever the tokens.
-/
import Derived.Test.YtgnjaneddidbbaaDoorRdCZ
namespace Go.Proofs.YtgnjaneddidbbaaDoor
open Go Go.RowKit

set_option maxHeartbeats 2000000 in
set_option maxRecDepth 100000 in
theorem rstmt_check0 (b : Nat) (lv : Value) (ts r : List Tok) (t : Tok) (x : List UInt8) (P : PR St) (w : World) (h : RW w b lv ts (t :: r) false) (HX : Hid (wordP (.ok ((), t :: r) : PR Unit) = x)) (HK : Hid (kindV x = 3)) (y : List UInt8) (ρ : Int) (HY : Hid (wordP (takeP [61] (nameP (.ok ((), r) : PR Unit))) = y)) (HR : Hid (ruleV y = ρ)) (hρ : (ρ == 0) = true)
    (HP : Hid (P = failP (takeP [61] (nameP (.ok ((), r) : PR Unit))))) :
    Calls Tryd.prog 32 #[.pointer (some ⟨b, 0, none⟩)] w fun e w' => RStOut w b lv ts P e w' := by
  have Y0 := Lib.hid (YS.start (p := (.ok ((), t :: r) : PR Unit)) h)
  clear h
  go_enter Tryd.func32, Tryd.ntmps32
  go_wp2_with fail
  refine (word_w b lv ts (.ok ((), t :: r) : PR Unit) x _ HX Y0.out.rp).mono ?_
  rintro e w1 ⟨rfl, hg⟩
  have Y1 := Lib.hid (Y0.out.still hg)
  clear hg Y0
  go_wp2_with fail
  refine (rkindOf_w x 3 _ HK).mono ?_
  rintro e w2 ⟨rfl, rfl⟩
  have Z1 : Hid (ZS w (w1.alloc (.cells #[.int .i64 3, .string ⟨#[]⟩, .int .i64 0, .string ⟨#[]⟩, .slice none 0 0, .int .i64 0, .string ⟨#[]⟩, .slice none 0 0, .int .i64 0, .int .i64 0, .int .i64 0, .int .i64 0, .bool false] 73)) b lv ts (.ok ((), t :: r) : PR Unit) w1.heap.size ⟨3, [], .zero, .zero, 0, 0, 0, 0, false⟩ .zero .zero noTree noTree) := Y1.out.make ⟨3, [], .zero, .zero, 0, 0, 0, 0, false⟩
  obtain ⟨k, hk, c1, g1, hs⟩ := Z1.out.rp.step rfl
  have x0 := Z1.out.blk.cell 0
  have f0 := Z1.out.blk.free 0
  simp only [stCells, List.getElem?_cons_zero] at x0
  have Z2 : Hid (ZS w ((w1.alloc (.cells #[.int .i64 3, .string ⟨#[]⟩, .int .i64 0, .string ⟨#[]⟩, .slice none 0 0, .int .i64 0, .string ⟨#[]⟩, .slice none 0 0, .int .i64 0, .int .i64 0, .int .i64 0, .int .i64 0, .bool false] 73)).setCell ⟨b, 1, none⟩ (.int .i64 ((k : Int) + 1))) b lv ts (.ok ((), r) : PR Unit) w1.heap.size ⟨3, [], .zero, .zero, 0, 0, 0, 0, false⟩ .zero .zero noTree noTree) := Z1.out.moved hs.out.1 hs.out.2 (fun a _ _ => ⟨a, _, rfl, rfl, rfl⟩)
  clear hs Z1 Y1
  go_wp2_with fail
  clear c1 g1 x0 f0
  generalize w1.heap.size = xb at *
  refine (rname_at b lv ts (.ok ((), r) : PR Unit) _ Z2.out.rp).mono ?_
  rintro e w3 ⟨s3, rfl, hg, hp, hv⟩
  have HV3 := Lib.hid hv
  have Z3 : Hid (ZS w w3 b lv ts (nameP (.ok ((), r) : PR Unit)) xb ⟨3, [], .zero, .zero, 0, 0, 0, 0, false⟩ .zero .zero noTree noTree) := Z2.out.moved hg hp (fun a r e => by obtain ⟨r1, e1⟩ := nameP_of e; exact ⟨_, r1, e1, rfl, rfl⟩)
  clear hg hp hv Z2
  have x0 := Z3.out.blk.cell 0
  have f0 := Z3.out.blk.free 0
  have x1 := Z3.out.blk.cell 1
  have f1 := Z3.out.blk.free 1
  simp only [stCells, List.getElem?_cons_succ, List.getElem?_cons_zero] at x0 x1
  have Z3Name : Hid (ZS w (w3.setCell ⟨xb, 1, none⟩ (.string (bs s3))) b lv ts (nameP (.ok ((), r) : PR Unit)) xb ⟨3, s3, .zero, .zero, 0, 0, 0, 0, false⟩ .zero .zero noTree noTree) := Z3.out.setName s3
  clear Z3
  go_wp2_with fail
  refine (rtake_at b lv ts (nameP (.ok ((), r) : PR Unit)) [61] (by decide) _ Z3Name.out.rp).mono ?_
  rintro e w4 ⟨rfl, hg, hp⟩
  have Z4 : Hid (ZS w w4 b lv ts (takeP [61] (nameP (.ok ((), r) : PR Unit))) xb ⟨3, s3, .zero, .zero, 0, 0, 0, 0, false⟩ .zero .zero noTree noTree) := Z3Name.out.moved hg hp (fun a r e => by obtain ⟨r1, e1⟩ := takeP_of e; exact ⟨_, r1, e1, rfl, rfl⟩)
  clear hg hp Z3Name
  clear x0 f0 x1 f1
  have x0 := Z4.out.blk.cell 0
  have f0 := Z4.out.blk.free 0
  simp only [stCells, List.getElem?_cons_zero] at x0
  go_wp2_with fail
  refine (word_w b lv ts (takeP [61] (nameP (.ok ((), r) : PR Unit))) y _ HY Z4.out.rp).mono ?_
  rintro e w5 ⟨rfl, hg⟩
  have Z5 : Hid (ZS w w5 b lv ts (takeP [61] (nameP (.ok ((), r) : PR Unit))) xb ⟨3, s3, .zero, .zero, 0, 0, 0, 0, false⟩ .zero .zero noTree noTree) := Z4.out.still hg
  clear hg Z4
  clear x0 f0
  have x0 := Z5.out.blk.cell 0
  have f0 := Z5.out.blk.free 0
  have x8 := Z5.out.blk.cell 8
  have f8 := Z5.out.blk.free 8
  simp only [stCells, List.getElem?_cons_succ, List.getElem?_cons_zero] at x0 x8
  go_wp2_with fail
  refine (ruleOf_w y ρ _ HR).mono ?_
  rintro e w2 ⟨rfl, rfl⟩
  have Z5Rule : Hid (ZS w (w5.setCell ⟨xb, 8, none⟩ (.int .i64 ρ)) b lv ts (takeP [61] (nameP (.ok ((), r) : PR Unit))) xb ⟨3, s3, .zero, .zero, ρ, 0, 0, 0, false⟩ .zero .zero noTree noTree) := Z5.out.setRule ρ
  clear Z5
  obtain ⟨bad, c2, f2b, hs⟩ := Z5Rule.out.rp.fails St
  have ZF : Hid (ZS w ((w5.setCell ⟨xb, 8, none⟩ (.int .i64 ρ)).setCell ⟨b, 2, none⟩ (.bool true)) b lv ts (failP (takeP [61] (nameP (.ok ((), r) : PR Unit))) : PR St) xb ⟨3, s3, .zero, .zero, ρ, 0, 0, 0, false⟩ .zero .zero noTree noTree) := Z5Rule.out.moved hs.out.1 hs.out.2 (fun a r e => absurd e (failP_ne _ a r))
  clear hs Z5Rule
  have x0 := ZF.out.blk.cell 0
  have f0 := ZF.out.blk.free 0
  have x1 := ZF.out.blk.cell 1
  have f1 := ZF.out.blk.free 1
  have x2 := ZF.out.blk.cell 2
  have f2 := ZF.out.blk.free 2
  have x3 := ZF.out.blk.cell 3
  have f3 := ZF.out.blk.free 3
  have x4 := ZF.out.blk.cell 4
  have f4 := ZF.out.blk.free 4
  have x5 := ZF.out.blk.cell 5
  have f5 := ZF.out.blk.free 5
  have x6 := ZF.out.blk.cell 6
  have f6 := ZF.out.blk.free 6
  have x7 := ZF.out.blk.cell 7
  have f7 := ZF.out.blk.free 7
  have x8 := ZF.out.blk.cell 8
  have f8 := ZF.out.blk.free 8
  have x9 := ZF.out.blk.cell 9
  have f9 := ZF.out.blk.free 9
  have x10 := ZF.out.blk.cell 10
  have f10 := ZF.out.blk.free 10
  have x11 := ZF.out.blk.cell 11
  have f11 := ZF.out.blk.free 11
  have x12 := ZF.out.blk.cell 12
  have f12 := ZF.out.blk.free 12
  simp only [stCells, List.getElem?_cons_succ, List.getElem?_cons_zero] at x0 x1 x2 x3 x4 x5 x6 x7 x8 x9 x10 x11 x12
  have q0 := ZF.out.rcell
  have q1 := ZF.out.rfree
  obtain ⟨q00, q01, q02, q03, q04, q05, q06, q07, q08, q09, q010, q011, q012⟩ := q0
  obtain ⟨q10, q11, q12, q13, q14, q15, q16, q17, q18, q19, q110, q111, q112⟩ := q1
  go_wp2
  refine ZF.out.ret (fun a => a) (HP.out.trans (then_pure _).symm) (fun a r e => absurd e (failP_ne _ a r)) Tryd.results32 ?_ rfl ?_
  · rfl
  · rfl

set_option maxHeartbeats 2000000 in
set_option maxRecDepth 100000 in
theorem rstmt_check1 (b : Nat) (lv : Value) (ts r : List Tok) (t : Tok) (x : List UInt8) (P : PR St) (w : World) (h : RW w b lv ts (t :: r) false) (HX : Hid (wordP (.ok ((), t :: r) : PR Unit) = x)) (HK : Hid (kindV x = 3)) (y : List UInt8) (ρ : Int) (HY : Hid (wordP (takeP [61] (nameP (.ok ((), r) : PR Unit))) = y)) (HR : Hid (ruleV y = ρ)) (hρ : (ρ == 0) = false) (a0 : Unit × List UInt8) (t0 : Tok) (r0 : List Tok) (HE : Hid ((takeP [61] (nameP (.ok ((), r) : PR Unit))) = .ok (a0, t0 :: r0))) (hρ3 : decide (3 < ρ) = false)
    (HP : Hid (P = (pMust [40] r0).then fun _ r2 => (pExpr 1 r2).then fun a r3 => (pMust [44] r3).then fun _ r4 => sCheck2 { St.zero with kind := 3, name := a0.2, rule := ρ, a := a.nd } r4)) :
    Calls Tryd.prog 32 #[.pointer (some ⟨b, 0, none⟩)] w fun e w' => RStOut w b lv ts P e w' := by
  have Y0 := Lib.hid (YS.start (p := (.ok ((), t :: r) : PR Unit)) h)
  clear h
  go_enter Tryd.func32, Tryd.ntmps32
  go_wp2_with fail
  refine (word_w b lv ts (.ok ((), t :: r) : PR Unit) x _ HX Y0.out.rp).mono ?_
  rintro e w1 ⟨rfl, hg⟩
  have Y1 := Lib.hid (Y0.out.still hg)
  clear hg Y0
  go_wp2_with fail
  refine (rkindOf_w x 3 _ HK).mono ?_
  rintro e w2 ⟨rfl, rfl⟩
  have Z1 : Hid (ZS w (w1.alloc (.cells #[.int .i64 3, .string ⟨#[]⟩, .int .i64 0, .string ⟨#[]⟩, .slice none 0 0, .int .i64 0, .string ⟨#[]⟩, .slice none 0 0, .int .i64 0, .int .i64 0, .int .i64 0, .int .i64 0, .bool false] 73)) b lv ts (.ok ((), t :: r) : PR Unit) w1.heap.size ⟨3, [], .zero, .zero, 0, 0, 0, 0, false⟩ .zero .zero noTree noTree) := Y1.out.make ⟨3, [], .zero, .zero, 0, 0, 0, 0, false⟩
  obtain ⟨k, hk, c1, g1, hs⟩ := Z1.out.rp.step rfl
  have x0 := Z1.out.blk.cell 0
  have f0 := Z1.out.blk.free 0
  simp only [stCells, List.getElem?_cons_zero] at x0
  have Z2 : Hid (ZS w ((w1.alloc (.cells #[.int .i64 3, .string ⟨#[]⟩, .int .i64 0, .string ⟨#[]⟩, .slice none 0 0, .int .i64 0, .string ⟨#[]⟩, .slice none 0 0, .int .i64 0, .int .i64 0, .int .i64 0, .int .i64 0, .bool false] 73)).setCell ⟨b, 1, none⟩ (.int .i64 ((k : Int) + 1))) b lv ts (.ok ((), r) : PR Unit) w1.heap.size ⟨3, [], .zero, .zero, 0, 0, 0, 0, false⟩ .zero .zero noTree noTree) := Z1.out.moved hs.out.1 hs.out.2 (fun a _ _ => ⟨a, _, rfl, rfl, rfl⟩)
  clear hs Z1 Y1
  go_wp2_with fail
  clear c1 g1 x0 f0
  generalize w1.heap.size = xb at *
  refine (rname_at b lv ts (.ok ((), r) : PR Unit) _ Z2.out.rp).mono ?_
  rintro e w3 ⟨s3, rfl, hg, hp, hv⟩
  have HV3 := Lib.hid hv
  have Z3 : Hid (ZS w w3 b lv ts (nameP (.ok ((), r) : PR Unit)) xb ⟨3, [], .zero, .zero, 0, 0, 0, 0, false⟩ .zero .zero noTree noTree) := Z2.out.moved hg hp (fun a r e => by obtain ⟨r1, e1⟩ := nameP_of e; exact ⟨_, r1, e1, rfl, rfl⟩)
  clear hg hp hv Z2
  have x0 := Z3.out.blk.cell 0
  have f0 := Z3.out.blk.free 0
  have x1 := Z3.out.blk.cell 1
  have f1 := Z3.out.blk.free 1
  simp only [stCells, List.getElem?_cons_succ, List.getElem?_cons_zero] at x0 x1
  have Z3Name : Hid (ZS w (w3.setCell ⟨xb, 1, none⟩ (.string (bs s3))) b lv ts (nameP (.ok ((), r) : PR Unit)) xb ⟨3, s3, .zero, .zero, 0, 0, 0, 0, false⟩ .zero .zero noTree noTree) := Z3.out.setName s3
  clear Z3
  go_wp2_with fail
  refine (rtake_at b lv ts (nameP (.ok ((), r) : PR Unit)) [61] (by decide) _ Z3Name.out.rp).mono ?_
  rintro e w4 ⟨rfl, hg, hp⟩
  have Z4 : Hid (ZS w w4 b lv ts (takeP [61] (nameP (.ok ((), r) : PR Unit))) xb ⟨3, s3, .zero, .zero, 0, 0, 0, 0, false⟩ .zero .zero noTree noTree) := Z3Name.out.moved hg hp (fun a r e => by obtain ⟨r1, e1⟩ := takeP_of e; exact ⟨_, r1, e1, rfl, rfl⟩)
  clear hg hp Z3Name
  clear x0 f0 x1 f1
  have x0 := Z4.out.blk.cell 0
  have f0 := Z4.out.blk.free 0
  simp only [stCells, List.getElem?_cons_zero] at x0
  go_wp2_with fail
  refine (word_w b lv ts (takeP [61] (nameP (.ok ((), r) : PR Unit))) y _ HY Z4.out.rp).mono ?_
  rintro e w5 ⟨rfl, hg⟩
  have Z5 : Hid (ZS w w5 b lv ts (takeP [61] (nameP (.ok ((), r) : PR Unit))) xb ⟨3, s3, .zero, .zero, 0, 0, 0, 0, false⟩ .zero .zero noTree noTree) := Z4.out.still hg
  clear hg Z4
  clear x0 f0
  have x0 := Z5.out.blk.cell 0
  have f0 := Z5.out.blk.free 0
  have x8 := Z5.out.blk.cell 8
  have f8 := Z5.out.blk.free 8
  simp only [stCells, List.getElem?_cons_succ, List.getElem?_cons_zero] at x0 x8
  go_wp2_with fail
  refine (ruleOf_w y ρ _ HR).mono ?_
  rintro e w2 ⟨rfl, rfl⟩
  have Z5Rule : Hid (ZS w (w5.setCell ⟨xb, 8, none⟩ (.int .i64 ρ)) b lv ts (takeP [61] (nameP (.ok ((), r) : PR Unit))) xb ⟨3, s3, .zero, .zero, ρ, 0, 0, 0, false⟩ .zero .zero noTree noTree) := Z5.out.setRule ρ
  clear Z5
  obtain ⟨k, hk, c1, g1, hs⟩ := Z5Rule.out.rp.step HE.out
  have Z6 : Hid (ZS w ((w5.setCell ⟨xb, 8, none⟩ (.int .i64 ρ)).setCell ⟨b, 1, none⟩ (.int .i64 ((k : Int) + 1))) b lv ts (.ok (a0, r0) : PR (Unit × List UInt8)) xb ⟨3, s3, .zero, .zero, ρ, 0, 0, 0, false⟩ .zero .zero noTree noTree) := Z5Rule.out.moved hs.out.1 hs.out.2 (fun a _ e => by cases e; exact ⟨_, _, HE.out, rfl, rfl⟩)
  clear hs Z5Rule
  go_wp2_with fail
  refine (rtake_at b lv ts (.ok (a0, r0) : PR (Unit × List UInt8)) [40] (by decide) _ Z6.out.rp).mono ?_
  rintro e w7 ⟨rfl, hg, hp⟩
  have Z7 : Hid (ZS w w7 b lv ts (takeP [40] (.ok (a0, r0) : PR (Unit × List UInt8))) xb ⟨3, s3, .zero, .zero, ρ, 0, 0, 0, false⟩ .zero .zero noTree noTree) := Z6.out.moved hg hp (fun a r e => by obtain ⟨r1, e1⟩ := takeP_of e; exact ⟨_, r1, e1, rfl, rfl⟩)
  clear hg hp Z6
  clear x0 f0 x8 f8
  have x0 := Z7.out.blk.cell 0
  have f0 := Z7.out.blk.free 0
  have x8 := Z7.out.blk.cell 8
  have f8 := Z7.out.blk.free 8
  simp only [stCells, List.getElem?_cons_succ, List.getElem?_cons_zero] at x0 x8
  go_wp2_with fail
  refine (rexpr_p b lv ts 1 (takeP [40] (.ok (a0, r0) : PR (Unit × List UInt8))) _ (by decide) Z7.out.rp).mono ?_
  rintro e w8 ⟨⟨k8, s8, a8, m8, c8⟩, rfl, hg, hp, hv⟩
  have HV8 : Hid (∀ a r9, (exP 1 (takeP [40] (.ok (a0, r0) : PR (Unit × List UInt8)))) = .ok (a, r9) → NdIs (xb + 1 ≤ ·) w8 a.2.nd (NV.val ⟨k8, s8, a8, m8, c8⟩)) := fun a r e => (hv a.1 a.2 r e).from Z7.out.size
  have Z8 : Hid (ZS w w8 b lv ts (exP 1 (takeP [40] (.ok (a0, r0) : PR (Unit × List UInt8)))) xb ⟨3, s3, .zero, .zero, ρ, 0, 0, 0, false⟩ .zero .zero noTree noTree) := Z7.out.moved hg hp (fun a r e => by obtain ⟨r1, e1⟩ := exP_of e; exact ⟨_, r1, e1, rfl, rfl⟩)
  clear hg hp hv Z7
  clear x0 f0 x8 f8
  have x0 := Z8.out.blk.cell 0
  have f0 := Z8.out.blk.free 0
  have x2 := Z8.out.blk.cell 2
  have f2 := Z8.out.blk.free 2
  have x3 := Z8.out.blk.cell 3
  have f3 := Z8.out.blk.free 3
  have x4 := Z8.out.blk.cell 4
  have f4 := Z8.out.blk.free 4
  have x8 := Z8.out.blk.cell 8
  have f8 := Z8.out.blk.free 8
  simp only [stCells, List.getElem?_cons_succ, List.getElem?_cons_zero] at x0 x2 x3 x4 x8
  have Z8A : Hid (ZS w (((w8.setCell ⟨xb, 2, none⟩ (.int .i64 k8)).setCell ⟨xb, 3, none⟩ (.string s8)).setCell ⟨xb, 4, none⟩ (.slice a8 m8 c8)) b lv ts (exP 1 (takeP [40] (.ok (a0, r0) : PR (Unit × List UInt8)))) xb ⟨3, s3, .zero, .zero, ρ, 0, 0, 0, false⟩ ⟨k8, s8, a8, m8, c8⟩ .zero (fun a => a.2.nd) noTree) := Z8.out.setA ⟨k8, s8, a8, m8, c8⟩ _ (fun a r e => HV8.out a r e)
  clear Z8
  go_wp2_with fail
  refine (rtake_at b lv ts (exP 1 (takeP [40] (.ok (a0, r0) : PR (Unit × List UInt8)))) [44] (by decide) _ Z8A.out.rp).mono ?_
  rintro e w9 ⟨rfl, hg, hp⟩
  have Z9 : Hid (ZS w w9 b lv ts (takeP [44] (exP 1 (takeP [40] (.ok (a0, r0) : PR (Unit × List UInt8))))) xb ⟨3, s3, .zero, .zero, ρ, 0, 0, 0, false⟩ ⟨k8, s8, a8, m8, c8⟩ .zero (fun a => a.2.nd) noTree) := Z8A.out.moved hg hp (fun a r e => by obtain ⟨r1, e1⟩ := takeP_of e; exact ⟨_, r1, e1, rfl, rfl⟩)
  clear hg hp Z8A
  clear x0 f0 x2 f2 x3 f3 x4 f4 x8 f8
  have x0 := Z9.out.blk.cell 0
  have f0 := Z9.out.blk.free 0
  simp only [stCells, List.getElem?_cons_zero] at x0
  go_wp2_with fail
  refine (rnum_at b lv ts 1 2147483647 (takeP [44] (exP 1 (takeP [40] (.ok (a0, r0) : PR (Unit × List UInt8))))) _ Z9.out.rp).mono ?_
  rintro e w10 ⟨n10, rfl, hg, hp, hv⟩
  have HV10 := Lib.hid hv
  have Z10 : Hid (ZS w w10 b lv ts (numP 1 2147483647 (takeP [44] (exP 1 (takeP [40] (.ok (a0, r0) : PR (Unit × List UInt8)))))) xb ⟨3, s3, .zero, .zero, ρ, 0, 0, 0, false⟩ ⟨k8, s8, a8, m8, c8⟩ .zero (fun a => a.1.2.nd) noTree) := Z9.out.moved hg hp (fun a r e => by obtain ⟨r1, e1⟩ := numP_of e; exact ⟨_, r1, e1, rfl, rfl⟩)
  clear hg hp hv Z9
  clear x0 f0
  have x0 := Z10.out.blk.cell 0
  have f0 := Z10.out.blk.free 0
  have x9 := Z10.out.blk.cell 9
  have f9 := Z10.out.blk.free 9
  simp only [stCells, List.getElem?_cons_succ, List.getElem?_cons_zero] at x0 x9
  have Z10N : Hid (ZS w (w10.setCell ⟨xb, 9, none⟩ (.int .i64 n10)) b lv ts (numP 1 2147483647 (takeP [44] (exP 1 (takeP [40] (.ok (a0, r0) : PR (Unit × List UInt8)))))) xb ⟨3, s3, .zero, .zero, ρ, n10, 0, 0, false⟩ ⟨k8, s8, a8, m8, c8⟩ .zero (fun a => a.1.2.nd) noTree) := Z10.out.setN n10
  clear Z10
  go_wp2_with fail
  refine (rtake_at b lv ts (numP 1 2147483647 (takeP [44] (exP 1 (takeP [40] (.ok (a0, r0) : PR (Unit × List UInt8)))))) [41] (by decide) _ Z10N.out.rp).mono ?_
  rintro e w11 ⟨rfl, hg, hp⟩
  have Z11 : Hid (ZS w w11 b lv ts (takeP [41] (numP 1 2147483647 (takeP [44] (exP 1 (takeP [40] (.ok (a0, r0) : PR (Unit × List UInt8))))))) xb ⟨3, s3, .zero, .zero, ρ, n10, 0, 0, false⟩ ⟨k8, s8, a8, m8, c8⟩ .zero (fun a => a.1.2.nd) noTree) := Z10N.out.moved hg hp (fun a r e => by obtain ⟨r1, e1⟩ := takeP_of e; exact ⟨_, r1, e1, rfl, rfl⟩)
  clear hg hp Z10N
  clear x0 f0 x9 f9
  have x0 := Z11.out.blk.cell 0
  have f0 := Z11.out.blk.free 0
  simp only [stCells, List.getElem?_cons_zero] at x0
  go_wp2_with fail
  refine (rtake_at b lv ts (takeP [41] (numP 1 2147483647 (takeP [44] (exP 1 (takeP [40] (.ok (a0, r0) : PR (Unit × List UInt8))))))) [59] (by decide) _ Z11.out.rp).mono ?_
  rintro e w12 ⟨rfl, hg, hp⟩
  have Z12 : Hid (ZS w w12 b lv ts (takeP [59] (takeP [41] (numP 1 2147483647 (takeP [44] (exP 1 (takeP [40] (.ok (a0, r0) : PR (Unit × List UInt8)))))))) xb ⟨3, s3, .zero, .zero, ρ, n10, 0, 0, false⟩ ⟨k8, s8, a8, m8, c8⟩ .zero (fun a => a.1.2.nd) noTree) := Z11.out.moved hg hp (fun a r e => by obtain ⟨r1, e1⟩ := takeP_of e; exact ⟨_, r1, e1, rfl, rfl⟩)
  clear hg hp Z11
  clear x0 f0
  have x0 := Z12.out.blk.cell 0
  have f0 := Z12.out.blk.free 0
  have x1 := Z12.out.blk.cell 1
  have f1 := Z12.out.blk.free 1
  have x2 := Z12.out.blk.cell 2
  have f2 := Z12.out.blk.free 2
  have x3 := Z12.out.blk.cell 3
  have f3 := Z12.out.blk.free 3
  have x4 := Z12.out.blk.cell 4
  have f4 := Z12.out.blk.free 4
  have x5 := Z12.out.blk.cell 5
  have f5 := Z12.out.blk.free 5
  have x6 := Z12.out.blk.cell 6
  have f6 := Z12.out.blk.free 6
  have x7 := Z12.out.blk.cell 7
  have f7 := Z12.out.blk.free 7
  have x8 := Z12.out.blk.cell 8
  have f8 := Z12.out.blk.free 8
  have x9 := Z12.out.blk.cell 9
  have f9 := Z12.out.blk.free 9
  have x10 := Z12.out.blk.cell 10
  have f10 := Z12.out.blk.free 10
  have x11 := Z12.out.blk.cell 11
  have f11 := Z12.out.blk.free 11
  have x12 := Z12.out.blk.cell 12
  have f12 := Z12.out.blk.free 12
  simp only [stCells, List.getElem?_cons_succ, List.getElem?_cons_zero] at x0 x1 x2 x3 x4 x5 x6 x7 x8 x9 x10 x11 x12
  have q0 := Z12.out.rcell
  have q1 := Z12.out.rfree
  obtain ⟨q00, q01, q02, q03, q04, q05, q06, q07, q08, q09, q010, q011, q012⟩ := q0
  obtain ⟨q10, q11, q12, q13, q14, q15, q16, q17, q18, q19, q110, q111, q112⟩ := q1
  go_wp2
  refine Z12.out.ret (fun a => ⟨3, a.1.1.2, (a.1.2).nd, .zero, ρ, a.2, 0, 0, false⟩) (by rw [HP.out]; simp only [sCheck2, pSemi, takeP, numP, exP, pExpr_eq, PR.then_then, PR.then_ok]; rfl) ?_ Tryd.results32 ?_ rfl ?_
  · rintro ⟨⟨⟨_, v3⟩, v8⟩, v10⟩ r0 e0
    obtain ⟨r1, e1⟩ := takeP_of e0
    obtain ⟨r2, e2⟩ := takeP_of e1
    obtain rfl := HV10.out _ _ _ e2
    obtain ⟨r3, e3⟩ := numP_of e2
    obtain ⟨r4, e4⟩ := takeP_of e3
    obtain ⟨r5, e5⟩ := exP_of e4
    obtain ⟨r6, e6⟩ := takeP_of e5
    cases e6
    have e7 := HE.out
    obtain ⟨r8, e8⟩ := takeP_of e7
    obtain rfl := HV3.out _ _ _ e8
    obtain ⟨r9, e9⟩ := nameP_of e8
    exact ⟨rfl, rfl, rfl⟩
  · rfl
  · rfl

set_option maxHeartbeats 2000000 in
set_option maxRecDepth 100000 in
theorem rstmt_check2 (b : Nat) (lv : Value) (ts r : List Tok) (t : Tok) (x : List UInt8) (P : PR St) (w : World) (h : RW w b lv ts (t :: r) false) (HX : Hid (wordP (.ok ((), t :: r) : PR Unit) = x)) (HK : Hid (kindV x = 3)) (y : List UInt8) (ρ : Int) (HY : Hid (wordP (takeP [61] (nameP (.ok ((), r) : PR Unit))) = y)) (HR : Hid (ruleV y = ρ)) (hρ : (ρ == 0) = false) (a0 : Unit × List UInt8) (t0 : Tok) (r0 : List Tok) (HE : Hid ((takeP [61] (nameP (.ok ((), r) : PR Unit))) = .ok (a0, t0 :: r0))) (hρ3 : decide (3 < ρ) = true)
    (HP : Hid (P = (pMust [40] r0).then fun _ r2 => (pExpr 1 r2).then fun a r3 => (pMust [44] r3).then fun _ r4 => (pExpr 1 r4).then fun b r1 => (pMust [44] r1).then fun _ r2 => sCheck2 { St.zero with kind := 3, name := a0.2, rule := ρ, a := a.nd, b := b.nd } r2)) :
    Calls Tryd.prog 32 #[.pointer (some ⟨b, 0, none⟩)] w fun e w' => RStOut w b lv ts P e w' := by
  have Y0 := Lib.hid (YS.start (p := (.ok ((), t :: r) : PR Unit)) h)
  clear h
  go_enter Tryd.func32, Tryd.ntmps32
  go_wp2_with fail
  refine (word_w b lv ts (.ok ((), t :: r) : PR Unit) x _ HX Y0.out.rp).mono ?_
  rintro e w1 ⟨rfl, hg⟩
  have Y1 := Lib.hid (Y0.out.still hg)
  clear hg Y0
  go_wp2_with fail
  refine (rkindOf_w x 3 _ HK).mono ?_
  rintro e w2 ⟨rfl, rfl⟩
  have Z1 : Hid (ZS w (w1.alloc (.cells #[.int .i64 3, .string ⟨#[]⟩, .int .i64 0, .string ⟨#[]⟩, .slice none 0 0, .int .i64 0, .string ⟨#[]⟩, .slice none 0 0, .int .i64 0, .int .i64 0, .int .i64 0, .int .i64 0, .bool false] 73)) b lv ts (.ok ((), t :: r) : PR Unit) w1.heap.size ⟨3, [], .zero, .zero, 0, 0, 0, 0, false⟩ .zero .zero noTree noTree) := Y1.out.make ⟨3, [], .zero, .zero, 0, 0, 0, 0, false⟩
  obtain ⟨k, hk, c1, g1, hs⟩ := Z1.out.rp.step rfl
  have x0 := Z1.out.blk.cell 0
  have f0 := Z1.out.blk.free 0
  simp only [stCells, List.getElem?_cons_zero] at x0
  have Z2 : Hid (ZS w ((w1.alloc (.cells #[.int .i64 3, .string ⟨#[]⟩, .int .i64 0, .string ⟨#[]⟩, .slice none 0 0, .int .i64 0, .string ⟨#[]⟩, .slice none 0 0, .int .i64 0, .int .i64 0, .int .i64 0, .int .i64 0, .bool false] 73)).setCell ⟨b, 1, none⟩ (.int .i64 ((k : Int) + 1))) b lv ts (.ok ((), r) : PR Unit) w1.heap.size ⟨3, [], .zero, .zero, 0, 0, 0, 0, false⟩ .zero .zero noTree noTree) := Z1.out.moved hs.out.1 hs.out.2 (fun a _ _ => ⟨a, _, rfl, rfl, rfl⟩)
  clear hs Z1 Y1
  go_wp2_with fail
  clear c1 g1 x0 f0
  generalize w1.heap.size = xb at *
  refine (rname_at b lv ts (.ok ((), r) : PR Unit) _ Z2.out.rp).mono ?_
  rintro e w3 ⟨s3, rfl, hg, hp, hv⟩
  have HV3 := Lib.hid hv
  have Z3 : Hid (ZS w w3 b lv ts (nameP (.ok ((), r) : PR Unit)) xb ⟨3, [], .zero, .zero, 0, 0, 0, 0, false⟩ .zero .zero noTree noTree) := Z2.out.moved hg hp (fun a r e => by obtain ⟨r1, e1⟩ := nameP_of e; exact ⟨_, r1, e1, rfl, rfl⟩)
  clear hg hp hv Z2
  have x0 := Z3.out.blk.cell 0
  have f0 := Z3.out.blk.free 0
  have x1 := Z3.out.blk.cell 1
  have f1 := Z3.out.blk.free 1
  simp only [stCells, List.getElem?_cons_succ, List.getElem?_cons_zero] at x0 x1
  have Z3Name : Hid (ZS w (w3.setCell ⟨xb, 1, none⟩ (.string (bs s3))) b lv ts (nameP (.ok ((), r) : PR Unit)) xb ⟨3, s3, .zero, .zero, 0, 0, 0, 0, false⟩ .zero .zero noTree noTree) := Z3.out.setName s3
  clear Z3
  go_wp2_with fail
  refine (rtake_at b lv ts (nameP (.ok ((), r) : PR Unit)) [61] (by decide) _ Z3Name.out.rp).mono ?_
  rintro e w4 ⟨rfl, hg, hp⟩
  have Z4 : Hid (ZS w w4 b lv ts (takeP [61] (nameP (.ok ((), r) : PR Unit))) xb ⟨3, s3, .zero, .zero, 0, 0, 0, 0, false⟩ .zero .zero noTree noTree) := Z3Name.out.moved hg hp (fun a r e => by obtain ⟨r1, e1⟩ := takeP_of e; exact ⟨_, r1, e1, rfl, rfl⟩)
  clear hg hp Z3Name
  clear x0 f0 x1 f1
  have x0 := Z4.out.blk.cell 0
  have f0 := Z4.out.blk.free 0
  simp only [stCells, List.getElem?_cons_zero] at x0
  go_wp2_with fail
  refine (word_w b lv ts (takeP [61] (nameP (.ok ((), r) : PR Unit))) y _ HY Z4.out.rp).mono ?_
  rintro e w5 ⟨rfl, hg⟩
  have Z5 : Hid (ZS w w5 b lv ts (takeP [61] (nameP (.ok ((), r) : PR Unit))) xb ⟨3, s3, .zero, .zero, 0, 0, 0, 0, false⟩ .zero .zero noTree noTree) := Z4.out.still hg
  clear hg Z4
  clear x0 f0
  have x0 := Z5.out.blk.cell 0
  have f0 := Z5.out.blk.free 0
  have x8 := Z5.out.blk.cell 8
  have f8 := Z5.out.blk.free 8
  simp only [stCells, List.getElem?_cons_succ, List.getElem?_cons_zero] at x0 x8
  go_wp2_with fail
  refine (ruleOf_w y ρ _ HR).mono ?_
  rintro e w2 ⟨rfl, rfl⟩
  have Z5Rule : Hid (ZS w (w5.setCell ⟨xb, 8, none⟩ (.int .i64 ρ)) b lv ts (takeP [61] (nameP (.ok ((), r) : PR Unit))) xb ⟨3, s3, .zero, .zero, ρ, 0, 0, 0, false⟩ .zero .zero noTree noTree) := Z5.out.setRule ρ
  clear Z5
  obtain ⟨k, hk, c1, g1, hs⟩ := Z5Rule.out.rp.step HE.out
  have Z6 : Hid (ZS w ((w5.setCell ⟨xb, 8, none⟩ (.int .i64 ρ)).setCell ⟨b, 1, none⟩ (.int .i64 ((k : Int) + 1))) b lv ts (.ok (a0, r0) : PR (Unit × List UInt8)) xb ⟨3, s3, .zero, .zero, ρ, 0, 0, 0, false⟩ .zero .zero noTree noTree) := Z5Rule.out.moved hs.out.1 hs.out.2 (fun a _ e => by cases e; exact ⟨_, _, HE.out, rfl, rfl⟩)
  clear hs Z5Rule
  go_wp2_with fail
  refine (rtake_at b lv ts (.ok (a0, r0) : PR (Unit × List UInt8)) [40] (by decide) _ Z6.out.rp).mono ?_
  rintro e w7 ⟨rfl, hg, hp⟩
  have Z7 : Hid (ZS w w7 b lv ts (takeP [40] (.ok (a0, r0) : PR (Unit × List UInt8))) xb ⟨3, s3, .zero, .zero, ρ, 0, 0, 0, false⟩ .zero .zero noTree noTree) := Z6.out.moved hg hp (fun a r e => by obtain ⟨r1, e1⟩ := takeP_of e; exact ⟨_, r1, e1, rfl, rfl⟩)
  clear hg hp Z6
  clear x0 f0 x8 f8
  have x0 := Z7.out.blk.cell 0
  have f0 := Z7.out.blk.free 0
  have x8 := Z7.out.blk.cell 8
  have f8 := Z7.out.blk.free 8
  simp only [stCells, List.getElem?_cons_succ, List.getElem?_cons_zero] at x0 x8
  go_wp2_with fail
  refine (rexpr_p b lv ts 1 (takeP [40] (.ok (a0, r0) : PR (Unit × List UInt8))) _ (by decide) Z7.out.rp).mono ?_
  rintro e w8 ⟨⟨k8, s8, a8, m8, c8⟩, rfl, hg, hp, hv⟩
  have HV8 : Hid (∀ a r9, (exP 1 (takeP [40] (.ok (a0, r0) : PR (Unit × List UInt8)))) = .ok (a, r9) → NdIs (xb + 1 ≤ ·) w8 a.2.nd (NV.val ⟨k8, s8, a8, m8, c8⟩)) := fun a r e => (hv a.1 a.2 r e).from Z7.out.size
  have Z8 : Hid (ZS w w8 b lv ts (exP 1 (takeP [40] (.ok (a0, r0) : PR (Unit × List UInt8)))) xb ⟨3, s3, .zero, .zero, ρ, 0, 0, 0, false⟩ .zero .zero noTree noTree) := Z7.out.moved hg hp (fun a r e => by obtain ⟨r1, e1⟩ := exP_of e; exact ⟨_, r1, e1, rfl, rfl⟩)
  clear hg hp hv Z7
  clear x0 f0 x8 f8
  have x0 := Z8.out.blk.cell 0
  have f0 := Z8.out.blk.free 0
  have x2 := Z8.out.blk.cell 2
  have f2 := Z8.out.blk.free 2
  have x3 := Z8.out.blk.cell 3
  have f3 := Z8.out.blk.free 3
  have x4 := Z8.out.blk.cell 4
  have f4 := Z8.out.blk.free 4
  have x8 := Z8.out.blk.cell 8
  have f8 := Z8.out.blk.free 8
  simp only [stCells, List.getElem?_cons_succ, List.getElem?_cons_zero] at x0 x2 x3 x4 x8
  have Z8A : Hid (ZS w (((w8.setCell ⟨xb, 2, none⟩ (.int .i64 k8)).setCell ⟨xb, 3, none⟩ (.string s8)).setCell ⟨xb, 4, none⟩ (.slice a8 m8 c8)) b lv ts (exP 1 (takeP [40] (.ok (a0, r0) : PR (Unit × List UInt8)))) xb ⟨3, s3, .zero, .zero, ρ, 0, 0, 0, false⟩ ⟨k8, s8, a8, m8, c8⟩ .zero (fun a => a.2.nd) noTree) := Z8.out.setA ⟨k8, s8, a8, m8, c8⟩ _ (fun a r e => HV8.out a r e)
  clear Z8
  go_wp2_with fail
  refine (rtake_at b lv ts (exP 1 (takeP [40] (.ok (a0, r0) : PR (Unit × List UInt8)))) [44] (by decide) _ Z8A.out.rp).mono ?_
  rintro e w9 ⟨rfl, hg, hp⟩
  have Z9 : Hid (ZS w w9 b lv ts (takeP [44] (exP 1 (takeP [40] (.ok (a0, r0) : PR (Unit × List UInt8))))) xb ⟨3, s3, .zero, .zero, ρ, 0, 0, 0, false⟩ ⟨k8, s8, a8, m8, c8⟩ .zero (fun a => a.2.nd) noTree) := Z8A.out.moved hg hp (fun a r e => by obtain ⟨r1, e1⟩ := takeP_of e; exact ⟨_, r1, e1, rfl, rfl⟩)
  clear hg hp Z8A
  clear x0 f0 x2 f2 x3 f3 x4 f4 x8 f8
  have x0 := Z9.out.blk.cell 0
  have f0 := Z9.out.blk.free 0
  simp only [stCells, List.getElem?_cons_zero] at x0
  go_wp2_with fail
  refine (rexpr_p b lv ts 1 (takeP [44] (exP 1 (takeP [40] (.ok (a0, r0) : PR (Unit × List UInt8))))) _ (by decide) Z9.out.rp).mono ?_
  rintro e w10 ⟨⟨k10, s10, a10, m10, c10⟩, rfl, hg, hp, hv⟩
  have HV10 : Hid (∀ a r9, (exP 1 (takeP [44] (exP 1 (takeP [40] (.ok (a0, r0) : PR (Unit × List UInt8)))))) = .ok (a, r9) → NdIs (xb + 1 ≤ ·) w10 a.2.nd (NV.val ⟨k10, s10, a10, m10, c10⟩)) := fun a r e => (hv a.1 a.2 r e).from Z9.out.size
  have Z10 : Hid (ZS w w10 b lv ts (exP 1 (takeP [44] (exP 1 (takeP [40] (.ok (a0, r0) : PR (Unit × List UInt8)))))) xb ⟨3, s3, .zero, .zero, ρ, 0, 0, 0, false⟩ ⟨k8, s8, a8, m8, c8⟩ .zero (fun a => a.1.2.nd) noTree) := Z9.out.moved hg hp (fun a r e => by obtain ⟨r1, e1⟩ := exP_of e; exact ⟨_, r1, e1, rfl, rfl⟩)
  clear hg hp hv Z9
  clear x0 f0
  have x0 := Z10.out.blk.cell 0
  have f0 := Z10.out.blk.free 0
  have x5 := Z10.out.blk.cell 5
  have f5 := Z10.out.blk.free 5
  have x6 := Z10.out.blk.cell 6
  have f6 := Z10.out.blk.free 6
  have x7 := Z10.out.blk.cell 7
  have f7 := Z10.out.blk.free 7
  simp only [stCells, List.getElem?_cons_succ, List.getElem?_cons_zero] at x0 x5 x6 x7
  have Z10B : Hid (ZS w (((w10.setCell ⟨xb, 5, none⟩ (.int .i64 k10)).setCell ⟨xb, 6, none⟩ (.string s10)).setCell ⟨xb, 7, none⟩ (.slice a10 m10 c10)) b lv ts (exP 1 (takeP [44] (exP 1 (takeP [40] (.ok (a0, r0) : PR (Unit × List UInt8)))))) xb ⟨3, s3, .zero, .zero, ρ, 0, 0, 0, false⟩ ⟨k8, s8, a8, m8, c8⟩ ⟨k10, s10, a10, m10, c10⟩ (fun a => a.1.2.nd) (fun a => a.2.nd)) := Z10.out.setB ⟨k10, s10, a10, m10, c10⟩ _ (fun a r e => HV10.out a r e)
  clear Z10
  go_wp2_with fail
  refine (rtake_at b lv ts (exP 1 (takeP [44] (exP 1 (takeP [40] (.ok (a0, r0) : PR (Unit × List UInt8)))))) [44] (by decide) _ Z10B.out.rp).mono ?_
  rintro e w11 ⟨rfl, hg, hp⟩
  have Z11 : Hid (ZS w w11 b lv ts (takeP [44] (exP 1 (takeP [44] (exP 1 (takeP [40] (.ok (a0, r0) : PR (Unit × List UInt8))))))) xb ⟨3, s3, .zero, .zero, ρ, 0, 0, 0, false⟩ ⟨k8, s8, a8, m8, c8⟩ ⟨k10, s10, a10, m10, c10⟩ (fun a => a.1.2.nd) (fun a => a.2.nd)) := Z10B.out.moved hg hp (fun a r e => by obtain ⟨r1, e1⟩ := takeP_of e; exact ⟨_, r1, e1, rfl, rfl⟩)
  clear hg hp Z10B
  clear x0 f0 x5 f5 x6 f6 x7 f7
  have x0 := Z11.out.blk.cell 0
  have f0 := Z11.out.blk.free 0
  simp only [stCells, List.getElem?_cons_zero] at x0
  go_wp2_with fail
  refine (rnum_at b lv ts 1 2147483647 (takeP [44] (exP 1 (takeP [44] (exP 1 (takeP [40] (.ok (a0, r0) : PR (Unit × List UInt8))))))) _ Z11.out.rp).mono ?_
  rintro e w12 ⟨n12, rfl, hg, hp, hv⟩
  have HV12 := Lib.hid hv
  have Z12 : Hid (ZS w w12 b lv ts (numP 1 2147483647 (takeP [44] (exP 1 (takeP [44] (exP 1 (takeP [40] (.ok (a0, r0) : PR (Unit × List UInt8)))))))) xb ⟨3, s3, .zero, .zero, ρ, 0, 0, 0, false⟩ ⟨k8, s8, a8, m8, c8⟩ ⟨k10, s10, a10, m10, c10⟩ (fun a => a.1.1.2.nd) (fun a => a.1.2.nd)) := Z11.out.moved hg hp (fun a r e => by obtain ⟨r1, e1⟩ := numP_of e; exact ⟨_, r1, e1, rfl, rfl⟩)
  clear hg hp hv Z11
  clear x0 f0
  have x0 := Z12.out.blk.cell 0
  have f0 := Z12.out.blk.free 0
  have x9 := Z12.out.blk.cell 9
  have f9 := Z12.out.blk.free 9
  simp only [stCells, List.getElem?_cons_succ, List.getElem?_cons_zero] at x0 x9
  have Z12N : Hid (ZS w (w12.setCell ⟨xb, 9, none⟩ (.int .i64 n12)) b lv ts (numP 1 2147483647 (takeP [44] (exP 1 (takeP [44] (exP 1 (takeP [40] (.ok (a0, r0) : PR (Unit × List UInt8)))))))) xb ⟨3, s3, .zero, .zero, ρ, n12, 0, 0, false⟩ ⟨k8, s8, a8, m8, c8⟩ ⟨k10, s10, a10, m10, c10⟩ (fun a => a.1.1.2.nd) (fun a => a.1.2.nd)) := Z12.out.setN n12
  clear Z12
  go_wp2_with fail
  refine (rtake_at b lv ts (numP 1 2147483647 (takeP [44] (exP 1 (takeP [44] (exP 1 (takeP [40] (.ok (a0, r0) : PR (Unit × List UInt8)))))))) [41] (by decide) _ Z12N.out.rp).mono ?_
  rintro e w13 ⟨rfl, hg, hp⟩
  have Z13 : Hid (ZS w w13 b lv ts (takeP [41] (numP 1 2147483647 (takeP [44] (exP 1 (takeP [44] (exP 1 (takeP [40] (.ok (a0, r0) : PR (Unit × List UInt8))))))))) xb ⟨3, s3, .zero, .zero, ρ, n12, 0, 0, false⟩ ⟨k8, s8, a8, m8, c8⟩ ⟨k10, s10, a10, m10, c10⟩ (fun a => a.1.1.2.nd) (fun a => a.1.2.nd)) := Z12N.out.moved hg hp (fun a r e => by obtain ⟨r1, e1⟩ := takeP_of e; exact ⟨_, r1, e1, rfl, rfl⟩)
  clear hg hp Z12N
  clear x0 f0 x9 f9
  have x0 := Z13.out.blk.cell 0
  have f0 := Z13.out.blk.free 0
  simp only [stCells, List.getElem?_cons_zero] at x0
  go_wp2_with fail
  refine (rtake_at b lv ts (takeP [41] (numP 1 2147483647 (takeP [44] (exP 1 (takeP [44] (exP 1 (takeP [40] (.ok (a0, r0) : PR (Unit × List UInt8))))))))) [59] (by decide) _ Z13.out.rp).mono ?_
  rintro e w14 ⟨rfl, hg, hp⟩
  have Z14 : Hid (ZS w w14 b lv ts (takeP [59] (takeP [41] (numP 1 2147483647 (takeP [44] (exP 1 (takeP [44] (exP 1 (takeP [40] (.ok (a0, r0) : PR (Unit × List UInt8)))))))))) xb ⟨3, s3, .zero, .zero, ρ, n12, 0, 0, false⟩ ⟨k8, s8, a8, m8, c8⟩ ⟨k10, s10, a10, m10, c10⟩ (fun a => a.1.1.2.nd) (fun a => a.1.2.nd)) := Z13.out.moved hg hp (fun a r e => by obtain ⟨r1, e1⟩ := takeP_of e; exact ⟨_, r1, e1, rfl, rfl⟩)
  clear hg hp Z13
  clear x0 f0
  have x0 := Z14.out.blk.cell 0
  have f0 := Z14.out.blk.free 0
  have x1 := Z14.out.blk.cell 1
  have f1 := Z14.out.blk.free 1
  have x2 := Z14.out.blk.cell 2
  have f2 := Z14.out.blk.free 2
  have x3 := Z14.out.blk.cell 3
  have f3 := Z14.out.blk.free 3
  have x4 := Z14.out.blk.cell 4
  have f4 := Z14.out.blk.free 4
  have x5 := Z14.out.blk.cell 5
  have f5 := Z14.out.blk.free 5
  have x6 := Z14.out.blk.cell 6
  have f6 := Z14.out.blk.free 6
  have x7 := Z14.out.blk.cell 7
  have f7 := Z14.out.blk.free 7
  have x8 := Z14.out.blk.cell 8
  have f8 := Z14.out.blk.free 8
  have x9 := Z14.out.blk.cell 9
  have f9 := Z14.out.blk.free 9
  have x10 := Z14.out.blk.cell 10
  have f10 := Z14.out.blk.free 10
  have x11 := Z14.out.blk.cell 11
  have f11 := Z14.out.blk.free 11
  have x12 := Z14.out.blk.cell 12
  have f12 := Z14.out.blk.free 12
  simp only [stCells, List.getElem?_cons_succ, List.getElem?_cons_zero] at x0 x1 x2 x3 x4 x5 x6 x7 x8 x9 x10 x11 x12
  have q0 := Z14.out.rcell
  have q1 := Z14.out.rfree
  obtain ⟨q00, q01, q02, q03, q04, q05, q06, q07, q08, q09, q010, q011, q012⟩ := q0
  obtain ⟨q10, q11, q12, q13, q14, q15, q16, q17, q18, q19, q110, q111, q112⟩ := q1
  go_wp2
  refine Z14.out.ret (fun a => ⟨3, a.1.1.1.2, (a.1.1.2).nd, (a.1.2).nd, ρ, a.2, 0, 0, false⟩) (by rw [HP.out]; simp only [sCheck2, pSemi, takeP, numP, exP, pExpr_eq, PR.then_then, PR.then_ok]; rfl) ?_ Tryd.results32 ?_ rfl ?_
  · rintro ⟨⟨⟨⟨_, v3⟩, v8⟩, v10⟩, v12⟩ r0 e0
    obtain ⟨r1, e1⟩ := takeP_of e0
    obtain ⟨r2, e2⟩ := takeP_of e1
    obtain rfl := HV12.out _ _ _ e2
    obtain ⟨r3, e3⟩ := numP_of e2
    obtain ⟨r4, e4⟩ := takeP_of e3
    obtain ⟨r5, e5⟩ := exP_of e4
    obtain ⟨r6, e6⟩ := takeP_of e5
    obtain ⟨r7, e7⟩ := exP_of e6
    obtain ⟨r8, e8⟩ := takeP_of e7
    cases e8
    have e9 := HE.out
    obtain ⟨r10, e10⟩ := takeP_of e9
    obtain rfl := HV3.out _ _ _ e10
    obtain ⟨r11, e11⟩ := nameP_of e10
    exact ⟨rfl, rfl, rfl⟩
  · rfl
  · rfl
end Go.Proofs.YtgnjaneddidbbaaDoor

namespace Go.Proofs.YtgnjaneddidbbaaDoor
open Go Go.RowKit

set_option maxHeartbeats 2000000 in
set_option maxRecDepth 100000 in
theorem rstmt_small0 (b : Nat) (lv : Value) (ts r : List Tok) (t : Tok) (x : List UInt8) (P : PR St) (w : World) (h : RW w b lv ts (t :: r) false) (HX : Hid (wordP (.ok ((), t :: r) : PR Unit) = x)) (HK : Hid (kindV x = 4)) (y : List UInt8) (HY : Hid (wordP (numP 0 2147483647 (takeP [44] (exP 0 (takeP [61] (nameP (.ok ((), r) : PR Unit)))))) = y)) (hy : ((bs y).toList == [47]) = false)
    (HP : Hid (P = (numP 0 2147483647 (takeP [44] (exP 0 (takeP [61] (nameP (.ok ((), r) : PR Unit)))))).then fun a r => pSemi ⟨4, a.1.1.2, a.1.2.nd, .zero, 0, a.2, 1, 0, false⟩ r)) :
    Calls Tryd.prog 32 #[.pointer (some ⟨b, 0, none⟩)] w fun e w' => RStOut w b lv ts P e w' := by
  have Y0 := Lib.hid (YS.start (p := (.ok ((), t :: r) : PR Unit)) h)
  clear h
  go_enter Tryd.func32, Tryd.ntmps32
  go_wp2_with fail
  refine (word_w b lv ts (.ok ((), t :: r) : PR Unit) x _ HX Y0.out.rp).mono ?_
  rintro e w1 ⟨rfl, hg⟩
  have Y1 := Lib.hid (Y0.out.still hg)
  clear hg Y0
  go_wp2_with fail
  refine (rkindOf_w x 4 _ HK).mono ?_
  rintro e w2 ⟨rfl, rfl⟩
  have Z1 : Hid (ZS w (w1.alloc (.cells #[.int .i64 4, .string ⟨#[]⟩, .int .i64 0, .string ⟨#[]⟩, .slice none 0 0, .int .i64 0, .string ⟨#[]⟩, .slice none 0 0, .int .i64 0, .int .i64 0, .int .i64 0, .int .i64 0, .bool false] 73)) b lv ts (.ok ((), t :: r) : PR Unit) w1.heap.size ⟨4, [], .zero, .zero, 0, 0, 0, 0, false⟩ .zero .zero noTree noTree) := Y1.out.make ⟨4, [], .zero, .zero, 0, 0, 0, 0, false⟩
  obtain ⟨k, hk, c1, g1, hs⟩ := Z1.out.rp.step rfl
  have x0 := Z1.out.blk.cell 0
  have f0 := Z1.out.blk.free 0
  simp only [stCells, List.getElem?_cons_zero] at x0
  have Z2 : Hid (ZS w ((w1.alloc (.cells #[.int .i64 4, .string ⟨#[]⟩, .int .i64 0, .string ⟨#[]⟩, .slice none 0 0, .int .i64 0, .string ⟨#[]⟩, .slice none 0 0, .int .i64 0, .int .i64 0, .int .i64 0, .int .i64 0, .bool false] 73)).setCell ⟨b, 1, none⟩ (.int .i64 ((k : Int) + 1))) b lv ts (.ok ((), r) : PR Unit) w1.heap.size ⟨4, [], .zero, .zero, 0, 0, 0, 0, false⟩ .zero .zero noTree noTree) := Z1.out.moved hs.out.1 hs.out.2 (fun a _ _ => ⟨a, _, rfl, rfl, rfl⟩)
  clear hs Z1 Y1
  go_wp2_with fail
  clear c1 g1 x0 f0
  generalize w1.heap.size = xb at *
  refine (rname_at b lv ts (.ok ((), r) : PR Unit) _ Z2.out.rp).mono ?_
  rintro e w3 ⟨s3, rfl, hg, hp, hv⟩
  have HV3 := Lib.hid hv
  have Z3 : Hid (ZS w w3 b lv ts (nameP (.ok ((), r) : PR Unit)) xb ⟨4, [], .zero, .zero, 0, 0, 0, 0, false⟩ .zero .zero noTree noTree) := Z2.out.moved hg hp (fun a r e => by obtain ⟨r1, e1⟩ := nameP_of e; exact ⟨_, r1, e1, rfl, rfl⟩)
  clear hg hp hv Z2
  have x0 := Z3.out.blk.cell 0
  have f0 := Z3.out.blk.free 0
  have x1 := Z3.out.blk.cell 1
  have f1 := Z3.out.blk.free 1
  simp only [stCells, List.getElem?_cons_succ, List.getElem?_cons_zero] at x0 x1
  have Z3Name : Hid (ZS w (w3.setCell ⟨xb, 1, none⟩ (.string (bs s3))) b lv ts (nameP (.ok ((), r) : PR Unit)) xb ⟨4, s3, .zero, .zero, 0, 0, 0, 0, false⟩ .zero .zero noTree noTree) := Z3.out.setName s3
  clear Z3
  go_wp2_with fail
  refine (rtake_at b lv ts (nameP (.ok ((), r) : PR Unit)) [61] (by decide) _ Z3Name.out.rp).mono ?_
  rintro e w4 ⟨rfl, hg, hp⟩
  have Z4 : Hid (ZS w w4 b lv ts (takeP [61] (nameP (.ok ((), r) : PR Unit))) xb ⟨4, s3, .zero, .zero, 0, 0, 0, 0, false⟩ .zero .zero noTree noTree) := Z3Name.out.moved hg hp (fun a r e => by obtain ⟨r1, e1⟩ := takeP_of e; exact ⟨_, r1, e1, rfl, rfl⟩)
  clear hg hp Z3Name
  clear x0 f0 x1 f1
  have x0 := Z4.out.blk.cell 0
  have f0 := Z4.out.blk.free 0
  simp only [stCells, List.getElem?_cons_zero] at x0
  go_wp2_with fail
  refine (rexpr_p b lv ts 0 (takeP [61] (nameP (.ok ((), r) : PR Unit))) _ (by decide) Z4.out.rp).mono ?_
  rintro e w5 ⟨⟨k5, s5, a5, m5, c5⟩, rfl, hg, hp, hv⟩
  have HV5 : Hid (∀ a r9, (exP 0 (takeP [61] (nameP (.ok ((), r) : PR Unit)))) = .ok (a, r9) → NdIs (xb + 1 ≤ ·) w5 a.2.nd (NV.val ⟨k5, s5, a5, m5, c5⟩)) := fun a r e => (hv a.1 a.2 r e).from Z4.out.size
  have Z5 : Hid (ZS w w5 b lv ts (exP 0 (takeP [61] (nameP (.ok ((), r) : PR Unit)))) xb ⟨4, s3, .zero, .zero, 0, 0, 0, 0, false⟩ .zero .zero noTree noTree) := Z4.out.moved hg hp (fun a r e => by obtain ⟨r1, e1⟩ := exP_of e; exact ⟨_, r1, e1, rfl, rfl⟩)
  clear hg hp hv Z4
  clear x0 f0
  have x0 := Z5.out.blk.cell 0
  have f0 := Z5.out.blk.free 0
  have x2 := Z5.out.blk.cell 2
  have f2 := Z5.out.blk.free 2
  have x3 := Z5.out.blk.cell 3
  have f3 := Z5.out.blk.free 3
  have x4 := Z5.out.blk.cell 4
  have f4 := Z5.out.blk.free 4
  simp only [stCells, List.getElem?_cons_succ, List.getElem?_cons_zero] at x0 x2 x3 x4
  have Z5A : Hid (ZS w (((w5.setCell ⟨xb, 2, none⟩ (.int .i64 k5)).setCell ⟨xb, 3, none⟩ (.string s5)).setCell ⟨xb, 4, none⟩ (.slice a5 m5 c5)) b lv ts (exP 0 (takeP [61] (nameP (.ok ((), r) : PR Unit)))) xb ⟨4, s3, .zero, .zero, 0, 0, 0, 0, false⟩ ⟨k5, s5, a5, m5, c5⟩ .zero (fun a => a.2.nd) noTree) := Z5.out.setA ⟨k5, s5, a5, m5, c5⟩ _ (fun a r e => HV5.out a r e)
  clear Z5
  go_wp2_with fail
  refine (rtake_at b lv ts (exP 0 (takeP [61] (nameP (.ok ((), r) : PR Unit)))) [44] (by decide) _ Z5A.out.rp).mono ?_
  rintro e w6 ⟨rfl, hg, hp⟩
  have Z6 : Hid (ZS w w6 b lv ts (takeP [44] (exP 0 (takeP [61] (nameP (.ok ((), r) : PR Unit))))) xb ⟨4, s3, .zero, .zero, 0, 0, 0, 0, false⟩ ⟨k5, s5, a5, m5, c5⟩ .zero (fun a => a.2.nd) noTree) := Z5A.out.moved hg hp (fun a r e => by obtain ⟨r1, e1⟩ := takeP_of e; exact ⟨_, r1, e1, rfl, rfl⟩)
  clear hg hp Z5A
  clear x0 f0 x2 f2 x3 f3 x4 f4
  have x0 := Z6.out.blk.cell 0
  have f0 := Z6.out.blk.free 0
  simp only [stCells, List.getElem?_cons_zero] at x0
  go_wp2_with fail
  refine (rnum_at b lv ts 0 2147483647 (takeP [44] (exP 0 (takeP [61] (nameP (.ok ((), r) : PR Unit))))) _ Z6.out.rp).mono ?_
  rintro e w7 ⟨n7, rfl, hg, hp, hv⟩
  have HV7 := Lib.hid hv
  have Z7 : Hid (ZS w w7 b lv ts (numP 0 2147483647 (takeP [44] (exP 0 (takeP [61] (nameP (.ok ((), r) : PR Unit)))))) xb ⟨4, s3, .zero, .zero, 0, 0, 0, 0, false⟩ ⟨k5, s5, a5, m5, c5⟩ .zero (fun a => a.1.2.nd) noTree) := Z6.out.moved hg hp (fun a r e => by obtain ⟨r1, e1⟩ := numP_of e; exact ⟨_, r1, e1, rfl, rfl⟩)
  clear hg hp hv Z6
  clear x0 f0
  have x0 := Z7.out.blk.cell 0
  have f0 := Z7.out.blk.free 0
  have x9 := Z7.out.blk.cell 9
  have f9 := Z7.out.blk.free 9
  have x10 := Z7.out.blk.cell 10
  have f10 := Z7.out.blk.free 10
  simp only [stCells, List.getElem?_cons_succ, List.getElem?_cons_zero] at x0 x9 x10
  have Z7N : Hid (ZS w (w7.setCell ⟨xb, 9, none⟩ (.int .i64 n7)) b lv ts (numP 0 2147483647 (takeP [44] (exP 0 (takeP [61] (nameP (.ok ((), r) : PR Unit)))))) xb ⟨4, s3, .zero, .zero, 0, n7, 0, 0, false⟩ ⟨k5, s5, a5, m5, c5⟩ .zero (fun a => a.1.2.nd) noTree) := Z7.out.setN n7
  clear Z7
  have Z7ND : Hid (ZS w ((w7.setCell ⟨xb, 9, none⟩ (.int .i64 n7)).setCell ⟨xb, 10, none⟩ (.int .i64 1)) b lv ts (numP 0 2147483647 (takeP [44] (exP 0 (takeP [61] (nameP (.ok ((), r) : PR Unit)))))) xb ⟨4, s3, .zero, .zero, 0, n7, 1, 0, false⟩ ⟨k5, s5, a5, m5, c5⟩ .zero (fun a => a.1.2.nd) noTree) := Z7N.out.setD 1
  clear Z7N
  go_wp2_with fail
  refine (word_w b lv ts (numP 0 2147483647 (takeP [44] (exP 0 (takeP [61] (nameP (.ok ((), r) : PR Unit)))))) y _ HY Z7ND.out.rp).mono ?_
  rintro e w8 ⟨rfl, hg⟩
  have Z8 : Hid (ZS w w8 b lv ts (numP 0 2147483647 (takeP [44] (exP 0 (takeP [61] (nameP (.ok ((), r) : PR Unit)))))) xb ⟨4, s3, .zero, .zero, 0, n7, 1, 0, false⟩ ⟨k5, s5, a5, m5, c5⟩ .zero (fun a => a.1.2.nd) noTree) := Z7ND.out.still hg
  clear hg Z7ND
  clear x0 f0 x9 f9 x10 f10
  have x0 := Z8.out.blk.cell 0
  have f0 := Z8.out.blk.free 0
  simp only [stCells, List.getElem?_cons_zero] at x0
  go_wp2_with fail
  refine (rtake_at b lv ts (numP 0 2147483647 (takeP [44] (exP 0 (takeP [61] (nameP (.ok ((), r) : PR Unit)))))) [59] (by decide) _ Z8.out.rp).mono ?_
  rintro e w9 ⟨rfl, hg, hp⟩
  have Z9 : Hid (ZS w w9 b lv ts (takeP [59] (numP 0 2147483647 (takeP [44] (exP 0 (takeP [61] (nameP (.ok ((), r) : PR Unit))))))) xb ⟨4, s3, .zero, .zero, 0, n7, 1, 0, false⟩ ⟨k5, s5, a5, m5, c5⟩ .zero (fun a => a.1.2.nd) noTree) := Z8.out.moved hg hp (fun a r e => by obtain ⟨r1, e1⟩ := takeP_of e; exact ⟨_, r1, e1, rfl, rfl⟩)
  clear hg hp Z8
  clear x0 f0
  have x0 := Z9.out.blk.cell 0
  have f0 := Z9.out.blk.free 0
  have x1 := Z9.out.blk.cell 1
  have f1 := Z9.out.blk.free 1
  have x2 := Z9.out.blk.cell 2
  have f2 := Z9.out.blk.free 2
  have x3 := Z9.out.blk.cell 3
  have f3 := Z9.out.blk.free 3
  have x4 := Z9.out.blk.cell 4
  have f4 := Z9.out.blk.free 4
  have x5 := Z9.out.blk.cell 5
  have f5 := Z9.out.blk.free 5
  have x6 := Z9.out.blk.cell 6
  have f6 := Z9.out.blk.free 6
  have x7 := Z9.out.blk.cell 7
  have f7 := Z9.out.blk.free 7
  have x8 := Z9.out.blk.cell 8
  have f8 := Z9.out.blk.free 8
  have x9 := Z9.out.blk.cell 9
  have f9 := Z9.out.blk.free 9
  have x10 := Z9.out.blk.cell 10
  have f10 := Z9.out.blk.free 10
  have x11 := Z9.out.blk.cell 11
  have f11 := Z9.out.blk.free 11
  have x12 := Z9.out.blk.cell 12
  have f12 := Z9.out.blk.free 12
  simp only [stCells, List.getElem?_cons_succ, List.getElem?_cons_zero] at x0 x1 x2 x3 x4 x5 x6 x7 x8 x9 x10 x11 x12
  have q0 := Z9.out.rcell
  have q1 := Z9.out.rfree
  obtain ⟨q00, q01, q02, q03, q04, q05, q06, q07, q08, q09, q010, q011, q012⟩ := q0
  obtain ⟨q10, q11, q12, q13, q14, q15, q16, q17, q18, q19, q110, q111, q112⟩ := q1
  go_wp2
  refine Z9.out.ret (fun a => ⟨4, a.1.1.2, (a.1.2).nd, .zero, 0, a.2, 1, 0, false⟩) (by rw [HP.out]; simp only [pSemi, takeP, PR.then_then, PR.then_ok]) ?_ Tryd.results32 ?_ rfl ?_
  · rintro ⟨⟨⟨_, v3⟩, v5⟩, v7⟩ r0 e0
    obtain ⟨r1, e1⟩ := takeP_of e0
    obtain rfl := HV7.out _ _ _ e1
    obtain ⟨r2, e2⟩ := numP_of e1
    obtain ⟨r3, e3⟩ := takeP_of e2
    obtain ⟨r4, e4⟩ := exP_of e3
    obtain ⟨r5, e5⟩ := takeP_of e4
    obtain rfl := HV3.out _ _ _ e5
    obtain ⟨r6, e6⟩ := nameP_of e5
    exact ⟨rfl, rfl, rfl⟩
  · rfl
  · rfl

set_option maxHeartbeats 2000000 in
set_option maxRecDepth 100000 in
theorem rstmt_small1 (b : Nat) (lv : Value) (ts r : List Tok) (t : Tok) (x : List UInt8) (P : PR St) (w : World) (h : RW w b lv ts (t :: r) false) (HX : Hid (wordP (.ok ((), t :: r) : PR Unit) = x)) (HK : Hid (kindV x = 4)) (y : List UInt8) (HY : Hid (wordP (numP 0 2147483647 (takeP [44] (exP 0 (takeP [61] (nameP (.ok ((), r) : PR Unit)))))) = y)) (hy : ((bs y).toList == [47]) = true) (a0 : ((Unit × List UInt8) × Ex) × Int) (t0 : Tok) (r0 : List Tok) (HE : Hid ((numP 0 2147483647 (takeP [44] (exP 0 (takeP [61] (nameP (.ok ((), r) : PR Unit)))))) = .ok (a0, t0 :: r0)))
    (HP : Hid (P = (pNum 1 2147483647 r0).then fun d r2 => pSemi ⟨4, a0.1.1.2, a0.1.2.nd, .zero, 0, a0.2, d, 0, false⟩ r2)) :
    Calls Tryd.prog 32 #[.pointer (some ⟨b, 0, none⟩)] w fun e w' => RStOut w b lv ts P e w' := by
  have Y0 := Lib.hid (YS.start (p := (.ok ((), t :: r) : PR Unit)) h)
  clear h
  go_enter Tryd.func32, Tryd.ntmps32
  go_wp2_with fail
  refine (word_w b lv ts (.ok ((), t :: r) : PR Unit) x _ HX Y0.out.rp).mono ?_
  rintro e w1 ⟨rfl, hg⟩
  have Y1 := Lib.hid (Y0.out.still hg)
  clear hg Y0
  go_wp2_with fail
  refine (rkindOf_w x 4 _ HK).mono ?_
  rintro e w2 ⟨rfl, rfl⟩
  have Z1 : Hid (ZS w (w1.alloc (.cells #[.int .i64 4, .string ⟨#[]⟩, .int .i64 0, .string ⟨#[]⟩, .slice none 0 0, .int .i64 0, .string ⟨#[]⟩, .slice none 0 0, .int .i64 0, .int .i64 0, .int .i64 0, .int .i64 0, .bool false] 73)) b lv ts (.ok ((), t :: r) : PR Unit) w1.heap.size ⟨4, [], .zero, .zero, 0, 0, 0, 0, false⟩ .zero .zero noTree noTree) := Y1.out.make ⟨4, [], .zero, .zero, 0, 0, 0, 0, false⟩
  obtain ⟨k, hk, c1, g1, hs⟩ := Z1.out.rp.step rfl
  have x0 := Z1.out.blk.cell 0
  have f0 := Z1.out.blk.free 0
  simp only [stCells, List.getElem?_cons_zero] at x0
  have Z2 : Hid (ZS w ((w1.alloc (.cells #[.int .i64 4, .string ⟨#[]⟩, .int .i64 0, .string ⟨#[]⟩, .slice none 0 0, .int .i64 0, .string ⟨#[]⟩, .slice none 0 0, .int .i64 0, .int .i64 0, .int .i64 0, .int .i64 0, .bool false] 73)).setCell ⟨b, 1, none⟩ (.int .i64 ((k : Int) + 1))) b lv ts (.ok ((), r) : PR Unit) w1.heap.size ⟨4, [], .zero, .zero, 0, 0, 0, 0, false⟩ .zero .zero noTree noTree) := Z1.out.moved hs.out.1 hs.out.2 (fun a _ _ => ⟨a, _, rfl, rfl, rfl⟩)
  clear hs Z1 Y1
  go_wp2_with fail
  clear c1 g1 x0 f0
  generalize w1.heap.size = xb at *
  refine (rname_at b lv ts (.ok ((), r) : PR Unit) _ Z2.out.rp).mono ?_
  rintro e w3 ⟨s3, rfl, hg, hp, hv⟩
  have HV3 := Lib.hid hv
  have Z3 : Hid (ZS w w3 b lv ts (nameP (.ok ((), r) : PR Unit)) xb ⟨4, [], .zero, .zero, 0, 0, 0, 0, false⟩ .zero .zero noTree noTree) := Z2.out.moved hg hp (fun a r e => by obtain ⟨r1, e1⟩ := nameP_of e; exact ⟨_, r1, e1, rfl, rfl⟩)
  clear hg hp hv Z2
  have x0 := Z3.out.blk.cell 0
  have f0 := Z3.out.blk.free 0
  have x1 := Z3.out.blk.cell 1
  have f1 := Z3.out.blk.free 1
  simp only [stCells, List.getElem?_cons_succ, List.getElem?_cons_zero] at x0 x1
  have Z3Name : Hid (ZS w (w3.setCell ⟨xb, 1, none⟩ (.string (bs s3))) b lv ts (nameP (.ok ((), r) : PR Unit)) xb ⟨4, s3, .zero, .zero, 0, 0, 0, 0, false⟩ .zero .zero noTree noTree) := Z3.out.setName s3
  clear Z3
  go_wp2_with fail
  refine (rtake_at b lv ts (nameP (.ok ((), r) : PR Unit)) [61] (by decide) _ Z3Name.out.rp).mono ?_
  rintro e w4 ⟨rfl, hg, hp⟩
  have Z4 : Hid (ZS w w4 b lv ts (takeP [61] (nameP (.ok ((), r) : PR Unit))) xb ⟨4, s3, .zero, .zero, 0, 0, 0, 0, false⟩ .zero .zero noTree noTree) := Z3Name.out.moved hg hp (fun a r e => by obtain ⟨r1, e1⟩ := takeP_of e; exact ⟨_, r1, e1, rfl, rfl⟩)
  clear hg hp Z3Name
  clear x0 f0 x1 f1
  have x0 := Z4.out.blk.cell 0
  have f0 := Z4.out.blk.free 0
  simp only [stCells, List.getElem?_cons_zero] at x0
  go_wp2_with fail
  refine (rexpr_p b lv ts 0 (takeP [61] (nameP (.ok ((), r) : PR Unit))) _ (by decide) Z4.out.rp).mono ?_
  rintro e w5 ⟨⟨k5, s5, a5, m5, c5⟩, rfl, hg, hp, hv⟩
  have HV5 : Hid (∀ a r9, (exP 0 (takeP [61] (nameP (.ok ((), r) : PR Unit)))) = .ok (a, r9) → NdIs (xb + 1 ≤ ·) w5 a.2.nd (NV.val ⟨k5, s5, a5, m5, c5⟩)) := fun a r e => (hv a.1 a.2 r e).from Z4.out.size
  have Z5 : Hid (ZS w w5 b lv ts (exP 0 (takeP [61] (nameP (.ok ((), r) : PR Unit)))) xb ⟨4, s3, .zero, .zero, 0, 0, 0, 0, false⟩ .zero .zero noTree noTree) := Z4.out.moved hg hp (fun a r e => by obtain ⟨r1, e1⟩ := exP_of e; exact ⟨_, r1, e1, rfl, rfl⟩)
  clear hg hp hv Z4
  clear x0 f0
  have x0 := Z5.out.blk.cell 0
  have f0 := Z5.out.blk.free 0
  have x2 := Z5.out.blk.cell 2
  have f2 := Z5.out.blk.free 2
  have x3 := Z5.out.blk.cell 3
  have f3 := Z5.out.blk.free 3
  have x4 := Z5.out.blk.cell 4
  have f4 := Z5.out.blk.free 4
  simp only [stCells, List.getElem?_cons_succ, List.getElem?_cons_zero] at x0 x2 x3 x4
  have Z5A : Hid (ZS w (((w5.setCell ⟨xb, 2, none⟩ (.int .i64 k5)).setCell ⟨xb, 3, none⟩ (.string s5)).setCell ⟨xb, 4, none⟩ (.slice a5 m5 c5)) b lv ts (exP 0 (takeP [61] (nameP (.ok ((), r) : PR Unit)))) xb ⟨4, s3, .zero, .zero, 0, 0, 0, 0, false⟩ ⟨k5, s5, a5, m5, c5⟩ .zero (fun a => a.2.nd) noTree) := Z5.out.setA ⟨k5, s5, a5, m5, c5⟩ _ (fun a r e => HV5.out a r e)
  clear Z5
  go_wp2_with fail
  refine (rtake_at b lv ts (exP 0 (takeP [61] (nameP (.ok ((), r) : PR Unit)))) [44] (by decide) _ Z5A.out.rp).mono ?_
  rintro e w6 ⟨rfl, hg, hp⟩
  have Z6 : Hid (ZS w w6 b lv ts (takeP [44] (exP 0 (takeP [61] (nameP (.ok ((), r) : PR Unit))))) xb ⟨4, s3, .zero, .zero, 0, 0, 0, 0, false⟩ ⟨k5, s5, a5, m5, c5⟩ .zero (fun a => a.2.nd) noTree) := Z5A.out.moved hg hp (fun a r e => by obtain ⟨r1, e1⟩ := takeP_of e; exact ⟨_, r1, e1, rfl, rfl⟩)
  clear hg hp Z5A
  clear x0 f0 x2 f2 x3 f3 x4 f4
  have x0 := Z6.out.blk.cell 0
  have f0 := Z6.out.blk.free 0
  simp only [stCells, List.getElem?_cons_zero] at x0
  go_wp2_with fail
  refine (rnum_at b lv ts 0 2147483647 (takeP [44] (exP 0 (takeP [61] (nameP (.ok ((), r) : PR Unit))))) _ Z6.out.rp).mono ?_
  rintro e w7 ⟨n7, rfl, hg, hp, hv⟩
  have HV7 := Lib.hid hv
  have Z7 : Hid (ZS w w7 b lv ts (numP 0 2147483647 (takeP [44] (exP 0 (takeP [61] (nameP (.ok ((), r) : PR Unit)))))) xb ⟨4, s3, .zero, .zero, 0, 0, 0, 0, false⟩ ⟨k5, s5, a5, m5, c5⟩ .zero (fun a => a.1.2.nd) noTree) := Z6.out.moved hg hp (fun a r e => by obtain ⟨r1, e1⟩ := numP_of e; exact ⟨_, r1, e1, rfl, rfl⟩)
  clear hg hp hv Z6
  clear x0 f0
  have x0 := Z7.out.blk.cell 0
  have f0 := Z7.out.blk.free 0
  have x9 := Z7.out.blk.cell 9
  have f9 := Z7.out.blk.free 9
  have x10 := Z7.out.blk.cell 10
  have f10 := Z7.out.blk.free 10
  simp only [stCells, List.getElem?_cons_succ, List.getElem?_cons_zero] at x0 x9 x10
  have Z7N : Hid (ZS w (w7.setCell ⟨xb, 9, none⟩ (.int .i64 n7)) b lv ts (numP 0 2147483647 (takeP [44] (exP 0 (takeP [61] (nameP (.ok ((), r) : PR Unit)))))) xb ⟨4, s3, .zero, .zero, 0, n7, 0, 0, false⟩ ⟨k5, s5, a5, m5, c5⟩ .zero (fun a => a.1.2.nd) noTree) := Z7.out.setN n7
  clear Z7
  have Z7ND : Hid (ZS w ((w7.setCell ⟨xb, 9, none⟩ (.int .i64 n7)).setCell ⟨xb, 10, none⟩ (.int .i64 1)) b lv ts (numP 0 2147483647 (takeP [44] (exP 0 (takeP [61] (nameP (.ok ((), r) : PR Unit)))))) xb ⟨4, s3, .zero, .zero, 0, n7, 1, 0, false⟩ ⟨k5, s5, a5, m5, c5⟩ .zero (fun a => a.1.2.nd) noTree) := Z7N.out.setD 1
  clear Z7N
  go_wp2_with fail
  refine (word_w b lv ts (numP 0 2147483647 (takeP [44] (exP 0 (takeP [61] (nameP (.ok ((), r) : PR Unit)))))) y _ HY Z7ND.out.rp).mono ?_
  rintro e w8 ⟨rfl, hg⟩
  have Z8 : Hid (ZS w w8 b lv ts (numP 0 2147483647 (takeP [44] (exP 0 (takeP [61] (nameP (.ok ((), r) : PR Unit)))))) xb ⟨4, s3, .zero, .zero, 0, n7, 1, 0, false⟩ ⟨k5, s5, a5, m5, c5⟩ .zero (fun a => a.1.2.nd) noTree) := Z7ND.out.still hg
  clear hg Z7ND
  clear x0 f0 x9 f9 x10 f10
  have x0 := Z8.out.blk.cell 0
  have f0 := Z8.out.blk.free 0
  have x10 := Z8.out.blk.cell 10
  have f10 := Z8.out.blk.free 10
  simp only [stCells, List.getElem?_cons_succ, List.getElem?_cons_zero] at x0 x10
  obtain ⟨k, hk, c1, g1, hs⟩ := Z8.out.rp.step HE.out
  have Z9 : Hid (ZS w (w8.setCell ⟨b, 1, none⟩ (.int .i64 ((k : Int) + 1))) b lv ts (.ok (a0, r0) : PR (((Unit × List UInt8) × Ex) × Int)) xb ⟨4, s3, .zero, .zero, 0, n7, 1, 0, false⟩ ⟨k5, s5, a5, m5, c5⟩ .zero (fun a => a.1.2.nd) noTree) := Z8.out.moved hs.out.1 hs.out.2 (fun a _ e => by cases e; exact ⟨_, _, HE.out, rfl, rfl⟩)
  clear hs Z8
  go_wp2_with fail
  refine (rnum_at b lv ts 1 2147483647 (.ok (a0, r0) : PR (((Unit × List UInt8) × Ex) × Int)) _ Z9.out.rp).mono ?_
  rintro e w10 ⟨n10, rfl, hg, hp, hv⟩
  have HV10 := Lib.hid hv
  have Z10 : Hid (ZS w w10 b lv ts (numP 1 2147483647 (.ok (a0, r0) : PR (((Unit × List UInt8) × Ex) × Int))) xb ⟨4, s3, .zero, .zero, 0, n7, 1, 0, false⟩ ⟨k5, s5, a5, m5, c5⟩ .zero (fun a => a.1.1.2.nd) noTree) := Z9.out.moved hg hp (fun a r e => by obtain ⟨r1, e1⟩ := numP_of e; exact ⟨_, r1, e1, rfl, rfl⟩)
  clear hg hp hv Z9
  clear x0 f0 x10 f10
  have x0 := Z10.out.blk.cell 0
  have f0 := Z10.out.blk.free 0
  have x10 := Z10.out.blk.cell 10
  have f10 := Z10.out.blk.free 10
  simp only [stCells, List.getElem?_cons_succ, List.getElem?_cons_zero] at x0 x10
  have Z10D : Hid (ZS w (w10.setCell ⟨xb, 10, none⟩ (.int .i64 n10)) b lv ts (numP 1 2147483647 (.ok (a0, r0) : PR (((Unit × List UInt8) × Ex) × Int))) xb ⟨4, s3, .zero, .zero, 0, n7, n10, 0, false⟩ ⟨k5, s5, a5, m5, c5⟩ .zero (fun a => a.1.1.2.nd) noTree) := Z10.out.setD n10
  clear Z10
  go_wp2_with fail
  refine (rtake_at b lv ts (numP 1 2147483647 (.ok (a0, r0) : PR (((Unit × List UInt8) × Ex) × Int))) [59] (by decide) _ Z10D.out.rp).mono ?_
  rintro e w11 ⟨rfl, hg, hp⟩
  have Z11 : Hid (ZS w w11 b lv ts (takeP [59] (numP 1 2147483647 (.ok (a0, r0) : PR (((Unit × List UInt8) × Ex) × Int)))) xb ⟨4, s3, .zero, .zero, 0, n7, n10, 0, false⟩ ⟨k5, s5, a5, m5, c5⟩ .zero (fun a => a.1.1.2.nd) noTree) := Z10D.out.moved hg hp (fun a r e => by obtain ⟨r1, e1⟩ := takeP_of e; exact ⟨_, r1, e1, rfl, rfl⟩)
  clear hg hp Z10D
  clear x0 f0 x10 f10
  have x0 := Z11.out.blk.cell 0
  have f0 := Z11.out.blk.free 0
  have x1 := Z11.out.blk.cell 1
  have f1 := Z11.out.blk.free 1
  have x2 := Z11.out.blk.cell 2
  have f2 := Z11.out.blk.free 2
  have x3 := Z11.out.blk.cell 3
  have f3 := Z11.out.blk.free 3
  have x4 := Z11.out.blk.cell 4
  have f4 := Z11.out.blk.free 4
  have x5 := Z11.out.blk.cell 5
  have f5 := Z11.out.blk.free 5
  have x6 := Z11.out.blk.cell 6
  have f6 := Z11.out.blk.free 6
  have x7 := Z11.out.blk.cell 7
  have f7 := Z11.out.blk.free 7
  have x8 := Z11.out.blk.cell 8
  have f8 := Z11.out.blk.free 8
  have x9 := Z11.out.blk.cell 9
  have f9 := Z11.out.blk.free 9
  have x10 := Z11.out.blk.cell 10
  have f10 := Z11.out.blk.free 10
  have x11 := Z11.out.blk.cell 11
  have f11 := Z11.out.blk.free 11
  have x12 := Z11.out.blk.cell 12
  have f12 := Z11.out.blk.free 12
  simp only [stCells, List.getElem?_cons_succ, List.getElem?_cons_zero] at x0 x1 x2 x3 x4 x5 x6 x7 x8 x9 x10 x11 x12
  have q0 := Z11.out.rcell
  have q1 := Z11.out.rfree
  obtain ⟨q00, q01, q02, q03, q04, q05, q06, q07, q08, q09, q010, q011, q012⟩ := q0
  obtain ⟨q10, q11, q12, q13, q14, q15, q16, q17, q18, q19, q110, q111, q112⟩ := q1
  go_wp2
  refine Z11.out.ret (fun a => ⟨4, a.1.1.1.2, (a.1.1.2).nd, .zero, 0, a.1.2, a.2, 0, false⟩) (by rw [HP.out]; simp only [pSemi, takeP, numP, PR.then_then, PR.then_ok]) ?_ Tryd.results32 ?_ rfl ?_
  · rintro ⟨⟨⟨⟨_, v3⟩, v5⟩, v7⟩, v10⟩ r0 e0
    obtain ⟨r1, e1⟩ := takeP_of e0
    obtain rfl := HV10.out _ _ _ e1
    obtain ⟨r2, e2⟩ := numP_of e1
    cases e2
    have e3 := HE.out
    obtain rfl := HV7.out _ _ _ e3
    obtain ⟨r4, e4⟩ := numP_of e3
    obtain ⟨r5, e5⟩ := takeP_of e4
    obtain ⟨r6, e6⟩ := exP_of e5
    obtain ⟨r7, e7⟩ := takeP_of e6
    obtain rfl := HV3.out _ _ _ e7
    obtain ⟨r8, e8⟩ := nameP_of e7
    exact ⟨rfl, rfl, rfl⟩
  · rfl
  · rfl
end Go.Proofs.YtgnjaneddidbbaaDoor

namespace Go.Proofs.YtgnjaneddidbbaaDoor
open Go Go.RowKit

set_option maxHeartbeats 2000000 in
set_option maxRecDepth 100000 in
theorem rstmt_write0 (b : Nat) (lv : Value) (ts r : List Tok) (t : Tok) (x : List UInt8) (P : PR St) (w : World) (h : RW w b lv ts (t :: r) false) (HX : Hid (wordP (.ok ((), t :: r) : PR Unit) = x)) (HK : Hid (kindV x = 5)) (y : List UInt8) (HY : Hid (wordP (numP 0 32767 (takeP [47] (numP 0 32767 (takeP [44] (exP 0 (takeP [61] (nameP (.ok ((), r) : PR Unit)))))))) = y)) (hy : ((bs y).toList == [115, 110, 97, 112]) = false)
    (HP : Hid (P = (numP 0 32767 (takeP [47] (numP 0 32767 (takeP [44] (exP 0 (takeP [61] (nameP (.ok ((), r) : PR Unit)))))))).then fun a r => pSemi ⟨5, a.1.1.1.2, a.1.1.2.nd, .zero, 0, a.1.2, 0, a.2, false⟩ r)) :
    Calls Tryd.prog 32 #[.pointer (some ⟨b, 0, none⟩)] w fun e w' => RStOut w b lv ts P e w' := by
  have Y0 := Lib.hid (YS.start (p := (.ok ((), t :: r) : PR Unit)) h)
  clear h
  go_enter Tryd.func32, Tryd.ntmps32
  go_wp2_with fail
  refine (word_w b lv ts (.ok ((), t :: r) : PR Unit) x _ HX Y0.out.rp).mono ?_
  rintro e w1 ⟨rfl, hg⟩
  have Y1 := Lib.hid (Y0.out.still hg)
  clear hg Y0
  go_wp2_with fail
  refine (rkindOf_w x 5 _ HK).mono ?_
  rintro e w2 ⟨rfl, rfl⟩
  have Z1 : Hid (ZS w (w1.alloc (.cells #[.int .i64 5, .string ⟨#[]⟩, .int .i64 0, .string ⟨#[]⟩, .slice none 0 0, .int .i64 0, .string ⟨#[]⟩, .slice none 0 0, .int .i64 0, .int .i64 0, .int .i64 0, .int .i64 0, .bool false] 73)) b lv ts (.ok ((), t :: r) : PR Unit) w1.heap.size ⟨5, [], .zero, .zero, 0, 0, 0, 0, false⟩ .zero .zero noTree noTree) := Y1.out.make ⟨5, [], .zero, .zero, 0, 0, 0, 0, false⟩
  obtain ⟨k, hk, c1, g1, hs⟩ := Z1.out.rp.step rfl
  have x0 := Z1.out.blk.cell 0
  have f0 := Z1.out.blk.free 0
  simp only [stCells, List.getElem?_cons_zero] at x0
  have Z2 : Hid (ZS w ((w1.alloc (.cells #[.int .i64 5, .string ⟨#[]⟩, .int .i64 0, .string ⟨#[]⟩, .slice none 0 0, .int .i64 0, .string ⟨#[]⟩, .slice none 0 0, .int .i64 0, .int .i64 0, .int .i64 0, .int .i64 0, .bool false] 73)).setCell ⟨b, 1, none⟩ (.int .i64 ((k : Int) + 1))) b lv ts (.ok ((), r) : PR Unit) w1.heap.size ⟨5, [], .zero, .zero, 0, 0, 0, 0, false⟩ .zero .zero noTree noTree) := Z1.out.moved hs.out.1 hs.out.2 (fun a _ _ => ⟨a, _, rfl, rfl, rfl⟩)
  clear hs Z1 Y1
  go_wp2_with fail
  clear c1 g1 x0 f0
  generalize w1.heap.size = xb at *
  refine (rname_at b lv ts (.ok ((), r) : PR Unit) _ Z2.out.rp).mono ?_
  rintro e w3 ⟨s3, rfl, hg, hp, hv⟩
  have HV3 := Lib.hid hv
  have Z3 : Hid (ZS w w3 b lv ts (nameP (.ok ((), r) : PR Unit)) xb ⟨5, [], .zero, .zero, 0, 0, 0, 0, false⟩ .zero .zero noTree noTree) := Z2.out.moved hg hp (fun a r e => by obtain ⟨r1, e1⟩ := nameP_of e; exact ⟨_, r1, e1, rfl, rfl⟩)
  clear hg hp hv Z2
  have x0 := Z3.out.blk.cell 0
  have f0 := Z3.out.blk.free 0
  have x1 := Z3.out.blk.cell 1
  have f1 := Z3.out.blk.free 1
  simp only [stCells, List.getElem?_cons_succ, List.getElem?_cons_zero] at x0 x1
  have Z3Name : Hid (ZS w (w3.setCell ⟨xb, 1, none⟩ (.string (bs s3))) b lv ts (nameP (.ok ((), r) : PR Unit)) xb ⟨5, s3, .zero, .zero, 0, 0, 0, 0, false⟩ .zero .zero noTree noTree) := Z3.out.setName s3
  clear Z3
  go_wp2_with fail
  refine (rtake_at b lv ts (nameP (.ok ((), r) : PR Unit)) [61] (by decide) _ Z3Name.out.rp).mono ?_
  rintro e w4 ⟨rfl, hg, hp⟩
  have Z4 : Hid (ZS w w4 b lv ts (takeP [61] (nameP (.ok ((), r) : PR Unit))) xb ⟨5, s3, .zero, .zero, 0, 0, 0, 0, false⟩ .zero .zero noTree noTree) := Z3Name.out.moved hg hp (fun a r e => by obtain ⟨r1, e1⟩ := takeP_of e; exact ⟨_, r1, e1, rfl, rfl⟩)
  clear hg hp Z3Name
  clear x0 f0 x1 f1
  have x0 := Z4.out.blk.cell 0
  have f0 := Z4.out.blk.free 0
  simp only [stCells, List.getElem?_cons_zero] at x0
  go_wp2_with fail
  refine (rexpr_p b lv ts 0 (takeP [61] (nameP (.ok ((), r) : PR Unit))) _ (by decide) Z4.out.rp).mono ?_
  rintro e w5 ⟨⟨k5, s5, a5, m5, c5⟩, rfl, hg, hp, hv⟩
  have HV5 : Hid (∀ a r9, (exP 0 (takeP [61] (nameP (.ok ((), r) : PR Unit)))) = .ok (a, r9) → NdIs (xb + 1 ≤ ·) w5 a.2.nd (NV.val ⟨k5, s5, a5, m5, c5⟩)) := fun a r e => (hv a.1 a.2 r e).from Z4.out.size
  have Z5 : Hid (ZS w w5 b lv ts (exP 0 (takeP [61] (nameP (.ok ((), r) : PR Unit)))) xb ⟨5, s3, .zero, .zero, 0, 0, 0, 0, false⟩ .zero .zero noTree noTree) := Z4.out.moved hg hp (fun a r e => by obtain ⟨r1, e1⟩ := exP_of e; exact ⟨_, r1, e1, rfl, rfl⟩)
  clear hg hp hv Z4
  clear x0 f0
  have x0 := Z5.out.blk.cell 0
  have f0 := Z5.out.blk.free 0
  have x2 := Z5.out.blk.cell 2
  have f2 := Z5.out.blk.free 2
  have x3 := Z5.out.blk.cell 3
  have f3 := Z5.out.blk.free 3
  have x4 := Z5.out.blk.cell 4
  have f4 := Z5.out.blk.free 4
  simp only [stCells, List.getElem?_cons_succ, List.getElem?_cons_zero] at x0 x2 x3 x4
  have Z5A : Hid (ZS w (((w5.setCell ⟨xb, 2, none⟩ (.int .i64 k5)).setCell ⟨xb, 3, none⟩ (.string s5)).setCell ⟨xb, 4, none⟩ (.slice a5 m5 c5)) b lv ts (exP 0 (takeP [61] (nameP (.ok ((), r) : PR Unit)))) xb ⟨5, s3, .zero, .zero, 0, 0, 0, 0, false⟩ ⟨k5, s5, a5, m5, c5⟩ .zero (fun a => a.2.nd) noTree) := Z5.out.setA ⟨k5, s5, a5, m5, c5⟩ _ (fun a r e => HV5.out a r e)
  clear Z5
  go_wp2_with fail
  refine (rtake_at b lv ts (exP 0 (takeP [61] (nameP (.ok ((), r) : PR Unit)))) [44] (by decide) _ Z5A.out.rp).mono ?_
  rintro e w6 ⟨rfl, hg, hp⟩
  have Z6 : Hid (ZS w w6 b lv ts (takeP [44] (exP 0 (takeP [61] (nameP (.ok ((), r) : PR Unit))))) xb ⟨5, s3, .zero, .zero, 0, 0, 0, 0, false⟩ ⟨k5, s5, a5, m5, c5⟩ .zero (fun a => a.2.nd) noTree) := Z5A.out.moved hg hp (fun a r e => by obtain ⟨r1, e1⟩ := takeP_of e; exact ⟨_, r1, e1, rfl, rfl⟩)
  clear hg hp Z5A
  clear x0 f0 x2 f2 x3 f3 x4 f4
  have x0 := Z6.out.blk.cell 0
  have f0 := Z6.out.blk.free 0
  simp only [stCells, List.getElem?_cons_zero] at x0
  go_wp2_with fail
  refine (rnum_at b lv ts 0 32767 (takeP [44] (exP 0 (takeP [61] (nameP (.ok ((), r) : PR Unit))))) _ Z6.out.rp).mono ?_
  rintro e w7 ⟨n7, rfl, hg, hp, hv⟩
  have HV7 := Lib.hid hv
  have Z7 : Hid (ZS w w7 b lv ts (numP 0 32767 (takeP [44] (exP 0 (takeP [61] (nameP (.ok ((), r) : PR Unit)))))) xb ⟨5, s3, .zero, .zero, 0, 0, 0, 0, false⟩ ⟨k5, s5, a5, m5, c5⟩ .zero (fun a => a.1.2.nd) noTree) := Z6.out.moved hg hp (fun a r e => by obtain ⟨r1, e1⟩ := numP_of e; exact ⟨_, r1, e1, rfl, rfl⟩)
  clear hg hp hv Z6
  clear x0 f0
  have x0 := Z7.out.blk.cell 0
  have f0 := Z7.out.blk.free 0
  have x9 := Z7.out.blk.cell 9
  have f9 := Z7.out.blk.free 9
  simp only [stCells, List.getElem?_cons_succ, List.getElem?_cons_zero] at x0 x9
  have Z7N : Hid (ZS w (w7.setCell ⟨xb, 9, none⟩ (.int .i64 n7)) b lv ts (numP 0 32767 (takeP [44] (exP 0 (takeP [61] (nameP (.ok ((), r) : PR Unit)))))) xb ⟨5, s3, .zero, .zero, 0, n7, 0, 0, false⟩ ⟨k5, s5, a5, m5, c5⟩ .zero (fun a => a.1.2.nd) noTree) := Z7.out.setN n7
  clear Z7
  go_wp2_with fail
  refine (rtake_at b lv ts (numP 0 32767 (takeP [44] (exP 0 (takeP [61] (nameP (.ok ((), r) : PR Unit)))))) [47] (by decide) _ Z7N.out.rp).mono ?_
  rintro e w8 ⟨rfl, hg, hp⟩
  have Z8 : Hid (ZS w w8 b lv ts (takeP [47] (numP 0 32767 (takeP [44] (exP 0 (takeP [61] (nameP (.ok ((), r) : PR Unit))))))) xb ⟨5, s3, .zero, .zero, 0, n7, 0, 0, false⟩ ⟨k5, s5, a5, m5, c5⟩ .zero (fun a => a.1.2.nd) noTree) := Z7N.out.moved hg hp (fun a r e => by obtain ⟨r1, e1⟩ := takeP_of e; exact ⟨_, r1, e1, rfl, rfl⟩)
  clear hg hp Z7N
  clear x0 f0 x9 f9
  have x0 := Z8.out.blk.cell 0
  have f0 := Z8.out.blk.free 0
  simp only [stCells, List.getElem?_cons_zero] at x0
  go_wp2_with fail
  refine (rnum_at b lv ts 0 32767 (takeP [47] (numP 0 32767 (takeP [44] (exP 0 (takeP [61] (nameP (.ok ((), r) : PR Unit))))))) _ Z8.out.rp).mono ?_
  rintro e w9 ⟨n9, rfl, hg, hp, hv⟩
  have HV9 := Lib.hid hv
  have Z9 : Hid (ZS w w9 b lv ts (numP 0 32767 (takeP [47] (numP 0 32767 (takeP [44] (exP 0 (takeP [61] (nameP (.ok ((), r) : PR Unit)))))))) xb ⟨5, s3, .zero, .zero, 0, n7, 0, 0, false⟩ ⟨k5, s5, a5, m5, c5⟩ .zero (fun a => a.1.1.2.nd) noTree) := Z8.out.moved hg hp (fun a r e => by obtain ⟨r1, e1⟩ := numP_of e; exact ⟨_, r1, e1, rfl, rfl⟩)
  clear hg hp hv Z8
  clear x0 f0
  have x0 := Z9.out.blk.cell 0
  have f0 := Z9.out.blk.free 0
  have x11 := Z9.out.blk.cell 11
  have f11 := Z9.out.blk.free 11
  simp only [stCells, List.getElem?_cons_succ, List.getElem?_cons_zero] at x0 x11
  have Z9K : Hid (ZS w (w9.setCell ⟨xb, 11, none⟩ (.int .i64 n9)) b lv ts (numP 0 32767 (takeP [47] (numP 0 32767 (takeP [44] (exP 0 (takeP [61] (nameP (.ok ((), r) : PR Unit)))))))) xb ⟨5, s3, .zero, .zero, 0, n7, 0, n9, false⟩ ⟨k5, s5, a5, m5, c5⟩ .zero (fun a => a.1.1.2.nd) noTree) := Z9.out.setK n9
  clear Z9
  go_wp2_with fail
  refine (word_w b lv ts (numP 0 32767 (takeP [47] (numP 0 32767 (takeP [44] (exP 0 (takeP [61] (nameP (.ok ((), r) : PR Unit)))))))) y _ HY Z9K.out.rp).mono ?_
  rintro e w10 ⟨rfl, hg⟩
  have Z10 : Hid (ZS w w10 b lv ts (numP 0 32767 (takeP [47] (numP 0 32767 (takeP [44] (exP 0 (takeP [61] (nameP (.ok ((), r) : PR Unit)))))))) xb ⟨5, s3, .zero, .zero, 0, n7, 0, n9, false⟩ ⟨k5, s5, a5, m5, c5⟩ .zero (fun a => a.1.1.2.nd) noTree) := Z9K.out.still hg
  clear hg Z9K
  clear x0 f0 x11 f11
  have x0 := Z10.out.blk.cell 0
  have f0 := Z10.out.blk.free 0
  simp only [stCells, List.getElem?_cons_zero] at x0
  go_wp2_with fail
  refine (rtake_at b lv ts (numP 0 32767 (takeP [47] (numP 0 32767 (takeP [44] (exP 0 (takeP [61] (nameP (.ok ((), r) : PR Unit)))))))) [59] (by decide) _ Z10.out.rp).mono ?_
  rintro e w11 ⟨rfl, hg, hp⟩
  have Z11 : Hid (ZS w w11 b lv ts (takeP [59] (numP 0 32767 (takeP [47] (numP 0 32767 (takeP [44] (exP 0 (takeP [61] (nameP (.ok ((), r) : PR Unit))))))))) xb ⟨5, s3, .zero, .zero, 0, n7, 0, n9, false⟩ ⟨k5, s5, a5, m5, c5⟩ .zero (fun a => a.1.1.2.nd) noTree) := Z10.out.moved hg hp (fun a r e => by obtain ⟨r1, e1⟩ := takeP_of e; exact ⟨_, r1, e1, rfl, rfl⟩)
  clear hg hp Z10
  clear x0 f0
  have x0 := Z11.out.blk.cell 0
  have f0 := Z11.out.blk.free 0
  have x1 := Z11.out.blk.cell 1
  have f1 := Z11.out.blk.free 1
  have x2 := Z11.out.blk.cell 2
  have f2 := Z11.out.blk.free 2
  have x3 := Z11.out.blk.cell 3
  have f3 := Z11.out.blk.free 3
  have x4 := Z11.out.blk.cell 4
  have f4 := Z11.out.blk.free 4
  have x5 := Z11.out.blk.cell 5
  have f5 := Z11.out.blk.free 5
  have x6 := Z11.out.blk.cell 6
  have f6 := Z11.out.blk.free 6
  have x7 := Z11.out.blk.cell 7
  have f7 := Z11.out.blk.free 7
  have x8 := Z11.out.blk.cell 8
  have f8 := Z11.out.blk.free 8
  have x9 := Z11.out.blk.cell 9
  have f9 := Z11.out.blk.free 9
  have x10 := Z11.out.blk.cell 10
  have f10 := Z11.out.blk.free 10
  have x11 := Z11.out.blk.cell 11
  have f11 := Z11.out.blk.free 11
  have x12 := Z11.out.blk.cell 12
  have f12 := Z11.out.blk.free 12
  simp only [stCells, List.getElem?_cons_succ, List.getElem?_cons_zero] at x0 x1 x2 x3 x4 x5 x6 x7 x8 x9 x10 x11 x12
  have q0 := Z11.out.rcell
  have q1 := Z11.out.rfree
  obtain ⟨q00, q01, q02, q03, q04, q05, q06, q07, q08, q09, q010, q011, q012⟩ := q0
  obtain ⟨q10, q11, q12, q13, q14, q15, q16, q17, q18, q19, q110, q111, q112⟩ := q1
  go_wp2
  refine Z11.out.ret (fun a => ⟨5, a.1.1.1.2, (a.1.1.2).nd, .zero, 0, a.1.2, 0, a.2, false⟩) (by rw [HP.out]; simp only [pSemi, takeP, PR.then_then, PR.then_ok]) ?_ Tryd.results32 ?_ rfl ?_
  · rintro ⟨⟨⟨⟨_, v3⟩, v5⟩, v7⟩, v9⟩ r0 e0
    obtain ⟨r1, e1⟩ := takeP_of e0
    obtain rfl := HV9.out _ _ _ e1
    obtain ⟨r2, e2⟩ := numP_of e1
    obtain ⟨r3, e3⟩ := takeP_of e2
    obtain rfl := HV7.out _ _ _ e3
    obtain ⟨r4, e4⟩ := numP_of e3
    obtain ⟨r5, e5⟩ := takeP_of e4
    obtain ⟨r6, e6⟩ := exP_of e5
    obtain ⟨r7, e7⟩ := takeP_of e6
    obtain rfl := HV3.out _ _ _ e7
    obtain ⟨r8, e8⟩ := nameP_of e7
    exact ⟨rfl, rfl, rfl⟩
  · rfl
  · rfl

set_option maxHeartbeats 2000000 in
set_option maxRecDepth 100000 in
theorem rstmt_write1 (b : Nat) (lv : Value) (ts r : List Tok) (t : Tok) (x : List UInt8) (P : PR St) (w : World) (h : RW w b lv ts (t :: r) false) (HX : Hid (wordP (.ok ((), t :: r) : PR Unit) = x)) (HK : Hid (kindV x = 5)) (y : List UInt8) (HY : Hid (wordP (numP 0 32767 (takeP [47] (numP 0 32767 (takeP [44] (exP 0 (takeP [61] (nameP (.ok ((), r) : PR Unit)))))))) = y)) (hy : ((bs y).toList == [115, 110, 97, 112]) = true) (a0 : (((Unit × List UInt8) × Ex) × Int) × Int) (t0 : Tok) (r0 : List Tok) (HE : Hid ((numP 0 32767 (takeP [47] (numP 0 32767 (takeP [44] (exP 0 (takeP [61] (nameP (.ok ((), r) : PR Unit)))))))) = .ok (a0, t0 :: r0)))
    (HP : Hid (P = pSemi ⟨5, a0.1.1.1.2, a0.1.1.2.nd, .zero, 0, a0.1.2, 0, a0.2, true⟩ r0)) :
    Calls Tryd.prog 32 #[.pointer (some ⟨b, 0, none⟩)] w fun e w' => RStOut w b lv ts P e w' := by
  have Y0 := Lib.hid (YS.start (p := (.ok ((), t :: r) : PR Unit)) h)
  clear h
  go_enter Tryd.func32, Tryd.ntmps32
  go_wp2_with fail
  refine (word_w b lv ts (.ok ((), t :: r) : PR Unit) x _ HX Y0.out.rp).mono ?_
  rintro e w1 ⟨rfl, hg⟩
  have Y1 := Lib.hid (Y0.out.still hg)
  clear hg Y0
  go_wp2_with fail
  refine (rkindOf_w x 5 _ HK).mono ?_
  rintro e w2 ⟨rfl, rfl⟩
  have Z1 : Hid (ZS w (w1.alloc (.cells #[.int .i64 5, .string ⟨#[]⟩, .int .i64 0, .string ⟨#[]⟩, .slice none 0 0, .int .i64 0, .string ⟨#[]⟩, .slice none 0 0, .int .i64 0, .int .i64 0, .int .i64 0, .int .i64 0, .bool false] 73)) b lv ts (.ok ((), t :: r) : PR Unit) w1.heap.size ⟨5, [], .zero, .zero, 0, 0, 0, 0, false⟩ .zero .zero noTree noTree) := Y1.out.make ⟨5, [], .zero, .zero, 0, 0, 0, 0, false⟩
  obtain ⟨k, hk, c1, g1, hs⟩ := Z1.out.rp.step rfl
  have x0 := Z1.out.blk.cell 0
  have f0 := Z1.out.blk.free 0
  simp only [stCells, List.getElem?_cons_zero] at x0
  have Z2 : Hid (ZS w ((w1.alloc (.cells #[.int .i64 5, .string ⟨#[]⟩, .int .i64 0, .string ⟨#[]⟩, .slice none 0 0, .int .i64 0, .string ⟨#[]⟩, .slice none 0 0, .int .i64 0, .int .i64 0, .int .i64 0, .int .i64 0, .bool false] 73)).setCell ⟨b, 1, none⟩ (.int .i64 ((k : Int) + 1))) b lv ts (.ok ((), r) : PR Unit) w1.heap.size ⟨5, [], .zero, .zero, 0, 0, 0, 0, false⟩ .zero .zero noTree noTree) := Z1.out.moved hs.out.1 hs.out.2 (fun a _ _ => ⟨a, _, rfl, rfl, rfl⟩)
  clear hs Z1 Y1
  go_wp2_with fail
  clear c1 g1 x0 f0
  generalize w1.heap.size = xb at *
  refine (rname_at b lv ts (.ok ((), r) : PR Unit) _ Z2.out.rp).mono ?_
  rintro e w3 ⟨s3, rfl, hg, hp, hv⟩
  have HV3 := Lib.hid hv
  have Z3 : Hid (ZS w w3 b lv ts (nameP (.ok ((), r) : PR Unit)) xb ⟨5, [], .zero, .zero, 0, 0, 0, 0, false⟩ .zero .zero noTree noTree) := Z2.out.moved hg hp (fun a r e => by obtain ⟨r1, e1⟩ := nameP_of e; exact ⟨_, r1, e1, rfl, rfl⟩)
  clear hg hp hv Z2
  have x0 := Z3.out.blk.cell 0
  have f0 := Z3.out.blk.free 0
  have x1 := Z3.out.blk.cell 1
  have f1 := Z3.out.blk.free 1
  simp only [stCells, List.getElem?_cons_succ, List.getElem?_cons_zero] at x0 x1
  have Z3Name : Hid (ZS w (w3.setCell ⟨xb, 1, none⟩ (.string (bs s3))) b lv ts (nameP (.ok ((), r) : PR Unit)) xb ⟨5, s3, .zero, .zero, 0, 0, 0, 0, false⟩ .zero .zero noTree noTree) := Z3.out.setName s3
  clear Z3
  go_wp2_with fail
  refine (rtake_at b lv ts (nameP (.ok ((), r) : PR Unit)) [61] (by decide) _ Z3Name.out.rp).mono ?_
  rintro e w4 ⟨rfl, hg, hp⟩
  have Z4 : Hid (ZS w w4 b lv ts (takeP [61] (nameP (.ok ((), r) : PR Unit))) xb ⟨5, s3, .zero, .zero, 0, 0, 0, 0, false⟩ .zero .zero noTree noTree) := Z3Name.out.moved hg hp (fun a r e => by obtain ⟨r1, e1⟩ := takeP_of e; exact ⟨_, r1, e1, rfl, rfl⟩)
  clear hg hp Z3Name
  clear x0 f0 x1 f1
  have x0 := Z4.out.blk.cell 0
  have f0 := Z4.out.blk.free 0
  simp only [stCells, List.getElem?_cons_zero] at x0
  go_wp2_with fail
  refine (rexpr_p b lv ts 0 (takeP [61] (nameP (.ok ((), r) : PR Unit))) _ (by decide) Z4.out.rp).mono ?_
  rintro e w5 ⟨⟨k5, s5, a5, m5, c5⟩, rfl, hg, hp, hv⟩
  have HV5 : Hid (∀ a r9, (exP 0 (takeP [61] (nameP (.ok ((), r) : PR Unit)))) = .ok (a, r9) → NdIs (xb + 1 ≤ ·) w5 a.2.nd (NV.val ⟨k5, s5, a5, m5, c5⟩)) := fun a r e => (hv a.1 a.2 r e).from Z4.out.size
  have Z5 : Hid (ZS w w5 b lv ts (exP 0 (takeP [61] (nameP (.ok ((), r) : PR Unit)))) xb ⟨5, s3, .zero, .zero, 0, 0, 0, 0, false⟩ .zero .zero noTree noTree) := Z4.out.moved hg hp (fun a r e => by obtain ⟨r1, e1⟩ := exP_of e; exact ⟨_, r1, e1, rfl, rfl⟩)
  clear hg hp hv Z4
  clear x0 f0
  have x0 := Z5.out.blk.cell 0
  have f0 := Z5.out.blk.free 0
  have x2 := Z5.out.blk.cell 2
  have f2 := Z5.out.blk.free 2
  have x3 := Z5.out.blk.cell 3
  have f3 := Z5.out.blk.free 3
  have x4 := Z5.out.blk.cell 4
  have f4 := Z5.out.blk.free 4
  simp only [stCells, List.getElem?_cons_succ, List.getElem?_cons_zero] at x0 x2 x3 x4
  have Z5A : Hid (ZS w (((w5.setCell ⟨xb, 2, none⟩ (.int .i64 k5)).setCell ⟨xb, 3, none⟩ (.string s5)).setCell ⟨xb, 4, none⟩ (.slice a5 m5 c5)) b lv ts (exP 0 (takeP [61] (nameP (.ok ((), r) : PR Unit)))) xb ⟨5, s3, .zero, .zero, 0, 0, 0, 0, false⟩ ⟨k5, s5, a5, m5, c5⟩ .zero (fun a => a.2.nd) noTree) := Z5.out.setA ⟨k5, s5, a5, m5, c5⟩ _ (fun a r e => HV5.out a r e)
  clear Z5
  go_wp2_with fail
  refine (rtake_at b lv ts (exP 0 (takeP [61] (nameP (.ok ((), r) : PR Unit)))) [44] (by decide) _ Z5A.out.rp).mono ?_
  rintro e w6 ⟨rfl, hg, hp⟩
  have Z6 : Hid (ZS w w6 b lv ts (takeP [44] (exP 0 (takeP [61] (nameP (.ok ((), r) : PR Unit))))) xb ⟨5, s3, .zero, .zero, 0, 0, 0, 0, false⟩ ⟨k5, s5, a5, m5, c5⟩ .zero (fun a => a.2.nd) noTree) := Z5A.out.moved hg hp (fun a r e => by obtain ⟨r1, e1⟩ := takeP_of e; exact ⟨_, r1, e1, rfl, rfl⟩)
  clear hg hp Z5A
  clear x0 f0 x2 f2 x3 f3 x4 f4
  have x0 := Z6.out.blk.cell 0
  have f0 := Z6.out.blk.free 0
  simp only [stCells, List.getElem?_cons_zero] at x0
  go_wp2_with fail
  refine (rnum_at b lv ts 0 32767 (takeP [44] (exP 0 (takeP [61] (nameP (.ok ((), r) : PR Unit))))) _ Z6.out.rp).mono ?_
  rintro e w7 ⟨n7, rfl, hg, hp, hv⟩
  have HV7 := Lib.hid hv
  have Z7 : Hid (ZS w w7 b lv ts (numP 0 32767 (takeP [44] (exP 0 (takeP [61] (nameP (.ok ((), r) : PR Unit)))))) xb ⟨5, s3, .zero, .zero, 0, 0, 0, 0, false⟩ ⟨k5, s5, a5, m5, c5⟩ .zero (fun a => a.1.2.nd) noTree) := Z6.out.moved hg hp (fun a r e => by obtain ⟨r1, e1⟩ := numP_of e; exact ⟨_, r1, e1, rfl, rfl⟩)
  clear hg hp hv Z6
  clear x0 f0
  have x0 := Z7.out.blk.cell 0
  have f0 := Z7.out.blk.free 0
  have x9 := Z7.out.blk.cell 9
  have f9 := Z7.out.blk.free 9
  simp only [stCells, List.getElem?_cons_succ, List.getElem?_cons_zero] at x0 x9
  have Z7N : Hid (ZS w (w7.setCell ⟨xb, 9, none⟩ (.int .i64 n7)) b lv ts (numP 0 32767 (takeP [44] (exP 0 (takeP [61] (nameP (.ok ((), r) : PR Unit)))))) xb ⟨5, s3, .zero, .zero, 0, n7, 0, 0, false⟩ ⟨k5, s5, a5, m5, c5⟩ .zero (fun a => a.1.2.nd) noTree) := Z7.out.setN n7
  clear Z7
  go_wp2_with fail
  refine (rtake_at b lv ts (numP 0 32767 (takeP [44] (exP 0 (takeP [61] (nameP (.ok ((), r) : PR Unit)))))) [47] (by decide) _ Z7N.out.rp).mono ?_
  rintro e w8 ⟨rfl, hg, hp⟩
  have Z8 : Hid (ZS w w8 b lv ts (takeP [47] (numP 0 32767 (takeP [44] (exP 0 (takeP [61] (nameP (.ok ((), r) : PR Unit))))))) xb ⟨5, s3, .zero, .zero, 0, n7, 0, 0, false⟩ ⟨k5, s5, a5, m5, c5⟩ .zero (fun a => a.1.2.nd) noTree) := Z7N.out.moved hg hp (fun a r e => by obtain ⟨r1, e1⟩ := takeP_of e; exact ⟨_, r1, e1, rfl, rfl⟩)
  clear hg hp Z7N
  clear x0 f0 x9 f9
  have x0 := Z8.out.blk.cell 0
  have f0 := Z8.out.blk.free 0
  simp only [stCells, List.getElem?_cons_zero] at x0
  go_wp2_with fail
  refine (rnum_at b lv ts 0 32767 (takeP [47] (numP 0 32767 (takeP [44] (exP 0 (takeP [61] (nameP (.ok ((), r) : PR Unit))))))) _ Z8.out.rp).mono ?_
  rintro e w9 ⟨n9, rfl, hg, hp, hv⟩
  have HV9 := Lib.hid hv
  have Z9 : Hid (ZS w w9 b lv ts (numP 0 32767 (takeP [47] (numP 0 32767 (takeP [44] (exP 0 (takeP [61] (nameP (.ok ((), r) : PR Unit)))))))) xb ⟨5, s3, .zero, .zero, 0, n7, 0, 0, false⟩ ⟨k5, s5, a5, m5, c5⟩ .zero (fun a => a.1.1.2.nd) noTree) := Z8.out.moved hg hp (fun a r e => by obtain ⟨r1, e1⟩ := numP_of e; exact ⟨_, r1, e1, rfl, rfl⟩)
  clear hg hp hv Z8
  clear x0 f0
  have x0 := Z9.out.blk.cell 0
  have f0 := Z9.out.blk.free 0
  have x11 := Z9.out.blk.cell 11
  have f11 := Z9.out.blk.free 11
  simp only [stCells, List.getElem?_cons_succ, List.getElem?_cons_zero] at x0 x11
  have Z9K : Hid (ZS w (w9.setCell ⟨xb, 11, none⟩ (.int .i64 n9)) b lv ts (numP 0 32767 (takeP [47] (numP 0 32767 (takeP [44] (exP 0 (takeP [61] (nameP (.ok ((), r) : PR Unit)))))))) xb ⟨5, s3, .zero, .zero, 0, n7, 0, n9, false⟩ ⟨k5, s5, a5, m5, c5⟩ .zero (fun a => a.1.1.2.nd) noTree) := Z9.out.setK n9
  clear Z9
  go_wp2_with fail
  refine (word_w b lv ts (numP 0 32767 (takeP [47] (numP 0 32767 (takeP [44] (exP 0 (takeP [61] (nameP (.ok ((), r) : PR Unit)))))))) y _ HY Z9K.out.rp).mono ?_
  rintro e w10 ⟨rfl, hg⟩
  have Z10 : Hid (ZS w w10 b lv ts (numP 0 32767 (takeP [47] (numP 0 32767 (takeP [44] (exP 0 (takeP [61] (nameP (.ok ((), r) : PR Unit)))))))) xb ⟨5, s3, .zero, .zero, 0, n7, 0, n9, false⟩ ⟨k5, s5, a5, m5, c5⟩ .zero (fun a => a.1.1.2.nd) noTree) := Z9K.out.still hg
  clear hg Z9K
  clear x0 f0 x11 f11
  have x0 := Z10.out.blk.cell 0
  have f0 := Z10.out.blk.free 0
  have x12 := Z10.out.blk.cell 12
  have f12 := Z10.out.blk.free 12
  simp only [stCells, List.getElem?_cons_succ, List.getElem?_cons_zero] at x0 x12
  obtain ⟨k, hk, c1, g1, hs⟩ := Z10.out.rp.step HE.out
  have Z11 : Hid (ZS w (w10.setCell ⟨b, 1, none⟩ (.int .i64 ((k : Int) + 1))) b lv ts (.ok (a0, r0) : PR ((((Unit × List UInt8) × Ex) × Int) × Int)) xb ⟨5, s3, .zero, .zero, 0, n7, 0, n9, false⟩ ⟨k5, s5, a5, m5, c5⟩ .zero (fun a => a.1.1.2.nd) noTree) := Z10.out.moved hs.out.1 hs.out.2 (fun a _ e => by cases e; exact ⟨_, _, HE.out, rfl, rfl⟩)
  clear hs Z10
  have Z11Snap : Hid (ZS w ((w10.setCell ⟨b, 1, none⟩ (.int .i64 ((k : Int) + 1))).setCell ⟨xb, 12, none⟩ (.bool true)) b lv ts (.ok (a0, r0) : PR ((((Unit × List UInt8) × Ex) × Int) × Int)) xb ⟨5, s3, .zero, .zero, 0, n7, 0, n9, true⟩ ⟨k5, s5, a5, m5, c5⟩ .zero (fun a => a.1.1.2.nd) noTree) := Z11.out.setSnap true
  clear Z11
  go_wp2_with fail
  refine (rtake_at b lv ts (.ok (a0, r0) : PR ((((Unit × List UInt8) × Ex) × Int) × Int)) [59] (by decide) _ Z11Snap.out.rp).mono ?_
  rintro e w12 ⟨rfl, hg, hp⟩
  have Z12 : Hid (ZS w w12 b lv ts (takeP [59] (.ok (a0, r0) : PR ((((Unit × List UInt8) × Ex) × Int) × Int))) xb ⟨5, s3, .zero, .zero, 0, n7, 0, n9, true⟩ ⟨k5, s5, a5, m5, c5⟩ .zero (fun a => a.1.1.2.nd) noTree) := Z11Snap.out.moved hg hp (fun a r e => by obtain ⟨r1, e1⟩ := takeP_of e; exact ⟨_, r1, e1, rfl, rfl⟩)
  clear hg hp Z11Snap
  clear x0 f0 x12 f12
  have x0 := Z12.out.blk.cell 0
  have f0 := Z12.out.blk.free 0
  have x1 := Z12.out.blk.cell 1
  have f1 := Z12.out.blk.free 1
  have x2 := Z12.out.blk.cell 2
  have f2 := Z12.out.blk.free 2
  have x3 := Z12.out.blk.cell 3
  have f3 := Z12.out.blk.free 3
  have x4 := Z12.out.blk.cell 4
  have f4 := Z12.out.blk.free 4
  have x5 := Z12.out.blk.cell 5
  have f5 := Z12.out.blk.free 5
  have x6 := Z12.out.blk.cell 6
  have f6 := Z12.out.blk.free 6
  have x7 := Z12.out.blk.cell 7
  have f7 := Z12.out.blk.free 7
  have x8 := Z12.out.blk.cell 8
  have f8 := Z12.out.blk.free 8
  have x9 := Z12.out.blk.cell 9
  have f9 := Z12.out.blk.free 9
  have x10 := Z12.out.blk.cell 10
  have f10 := Z12.out.blk.free 10
  have x11 := Z12.out.blk.cell 11
  have f11 := Z12.out.blk.free 11
  have x12 := Z12.out.blk.cell 12
  have f12 := Z12.out.blk.free 12
  simp only [stCells, List.getElem?_cons_succ, List.getElem?_cons_zero] at x0 x1 x2 x3 x4 x5 x6 x7 x8 x9 x10 x11 x12
  have q0 := Z12.out.rcell
  have q1 := Z12.out.rfree
  obtain ⟨q00, q01, q02, q03, q04, q05, q06, q07, q08, q09, q010, q011, q012⟩ := q0
  obtain ⟨q10, q11, q12, q13, q14, q15, q16, q17, q18, q19, q110, q111, q112⟩ := q1
  go_wp2
  refine Z12.out.ret (fun a => ⟨5, a.1.1.1.2, (a.1.1.2).nd, .zero, 0, a.1.2, 0, a.2, true⟩) (by rw [HP.out]; simp only [pSemi, takeP, PR.then_then, PR.then_ok]) ?_ Tryd.results32 ?_ rfl ?_
  · rintro ⟨⟨⟨⟨_, v3⟩, v5⟩, v7⟩, v9⟩ r0 e0
    obtain ⟨r1, e1⟩ := takeP_of e0
    cases e1
    have e2 := HE.out
    obtain rfl := HV9.out _ _ _ e2
    obtain ⟨r3, e3⟩ := numP_of e2
    obtain ⟨r4, e4⟩ := takeP_of e3
    obtain rfl := HV7.out _ _ _ e4
    obtain ⟨r5, e5⟩ := numP_of e4
    obtain ⟨r6, e6⟩ := takeP_of e5
    obtain ⟨r7, e7⟩ := exP_of e6
    obtain ⟨r8, e8⟩ := takeP_of e7
    obtain rfl := HV3.out _ _ _ e8
    obtain ⟨r9, e9⟩ := nameP_of e8
    exact ⟨rfl, rfl, rfl⟩
  · rfl
  · rfl
end Go.Proofs.YtgnjaneddidbbaaDoor

namespace Go.Proofs.YtgnjaneddidbbaaDoor
open Go Go.RowKit

set_option maxHeartbeats 2000000 in
set_option maxRecDepth 100000 in
theorem rstmt_none (b : Nat) (lv : Value) (ts r : List Tok) (t : Tok) (x : List UInt8) (w : World) (h : RW w b lv ts (t :: r) false) (HX : Hid (wordP (.ok ((), t :: r) : PR Unit) = x)) (HK : Hid (kindV x = 0)) :
    Calls Tryd.prog 32 #[.pointer (some ⟨b, 0, none⟩)] w fun e w' => RStOut w b lv ts (.error (t :: r)) e w' := by
  have Y0 := Lib.hid (YS.start (p := (.ok ((), t :: r) : PR Unit)) h)
  clear h
  go_enter Tryd.func32, Tryd.ntmps32
  go_wp2_with fail
  refine (word_w b lv ts (.ok ((), t :: r) : PR Unit) x _ HX Y0.out.rp).mono ?_
  rintro e w1 ⟨rfl, hg⟩
  have Y1 := Lib.hid (Y0.out.still hg)
  clear hg Y0
  go_wp2_with fail
  refine (rkindOf_w x 0 _ HK).mono ?_
  rintro e w2 ⟨rfl, rfl⟩
  have Z1 : Hid (ZS w (w1.alloc (.cells #[.int .i64 0, .string ⟨#[]⟩, .int .i64 0, .string ⟨#[]⟩, .slice none 0 0, .int .i64 0, .string ⟨#[]⟩, .slice none 0 0, .int .i64 0, .int .i64 0, .int .i64 0, .int .i64 0, .bool false] 73)) b lv ts (.ok ((), t :: r) : PR Unit) w1.heap.size ⟨0, [], .zero, .zero, 0, 0, 0, 0, false⟩ .zero .zero noTree noTree) := Y1.out.make ⟨0, [], .zero, .zero, 0, 0, 0, 0, false⟩
  obtain ⟨bad, c2, f2b, hs⟩ := Z1.out.rp.fails St
  have ZF : Hid (ZS w ((w1.alloc (.cells #[.int .i64 0, .string ⟨#[]⟩, .int .i64 0, .string ⟨#[]⟩, .slice none 0 0, .int .i64 0, .string ⟨#[]⟩, .slice none 0 0, .int .i64 0, .int .i64 0, .int .i64 0, .int .i64 0, .bool false] 73)).setCell ⟨b, 2, none⟩ (.bool true)) b lv ts (failP (.ok ((), t :: r) : PR Unit) : PR St) w1.heap.size ⟨0, [], .zero, .zero, 0, 0, 0, 0, false⟩ .zero .zero noTree noTree) := Z1.out.moved hs.out.1 hs.out.2 (fun a r e => absurd e (failP_ne _ a r))
  have y0 := Z1.out.blk.cell 0
  simp only [stCells, List.getElem?_cons_zero] at y0
  clear hs Z1 Y1
  have x0 := ZF.out.blk.cell 0
  have x1 := ZF.out.blk.cell 1
  have x2 := ZF.out.blk.cell 2
  have x3 := ZF.out.blk.cell 3
  have x4 := ZF.out.blk.cell 4
  have x5 := ZF.out.blk.cell 5
  have x6 := ZF.out.blk.cell 6
  have x7 := ZF.out.blk.cell 7
  have x8 := ZF.out.blk.cell 8
  have x9 := ZF.out.blk.cell 9
  have x10 := ZF.out.blk.cell 10
  have x11 := ZF.out.blk.cell 11
  have x12 := ZF.out.blk.cell 12
  simp only [stCells, List.getElem?_cons_succ, List.getElem?_cons_zero] at x0 x1 x2 x3 x4 x5 x6 x7 x8 x9 x10 x11 x12
  have q0 := ZF.out.rcell
  have q1 := ZF.out.rfree
  obtain ⟨q00, q01, q02, q03, q04, q05, q06, q07, q08, q09, q010, q011, q012⟩ := q0
  obtain ⟨q10, q11, q12, q13, q14, q15, q16, q17, q18, q19, q110, q111, q112⟩ := q1
  go_wp2
  refine ZF.out.ret (P := .error (t :: r)) (fun a => a) rfl (fun a r e => absurd e (failP_ne _ a r)) Tryd.results32 ?_ rfl ?_
  · rfl
  · rfl

theorem kindV_cases (x : List UInt8) : kindV x = 0 ∨ kindV x = 1 ∨ kindV x = 2 ∨ kindV x = 3 ∨ kindV x = 4 ∨ kindV x = 5 := by
  unfold kindV
  repeat' split
  all_goals simp

theorem chain2 {α : Type} (r : List Tok) (f : List UInt8 → List Tok → PR α) : ((pName r).then fun s r2 => (pMust [61] r2).then fun _ r3 => f s r3) = (takeP [61] (nameP (.ok ((), r) : PR Unit))).then fun a r => f a.2 r := by
  simp only [nameP, takeP, PR.then_then, PR.then_ok]

/-- The reader's stmt. -/
theorem rstmt_at (b : Nat) (lv : Value) (ts r : List Tok) (t : Tok) (w : World) (h : RW w b lv ts (t :: r) false) :
    Calls Tryd.prog 32 #[.pointer (some ⟨b, 0, none⟩)] w fun e w' => RStOut w b lv ts (pStmt (t :: r)) e w' := by
  have hk := kindNo_word () t r
  have e0 : pStmt (t :: r) = if kindNo t = 0 then .error (t :: r) else (pName r).then fun s r2 => (pMust [61] r2).then fun _ r3 => sBody (kindNo t) s r3 := rfl
  rw [e0, hk]
  rcases kindV_cases (wordP (.ok ((), t :: r) : PR Unit)) with h0 | h0 | h0 | h0 | h0 | h0
  · rw [if_pos h0]
    exact rstmt_none b lv ts r t _ w h rfl h0
  · rw [h0, if_neg (by decide)]
    exact rstmt_input b lv ts r t _ _ w h rfl h0 rfl
  · rw [h0, if_neg (by decide)]
    exact rstmt_let b lv ts r t _ _ w h rfl h0 rfl
  · rw [h0, if_neg (by decide)]
    have e1 : ∀ s r3, sBody 3 s r3 = sCheck s r3 := fun _ _ => rfl
    simp only [e1]
    rw [chain2]
    by_cases hρ : ruleV (wordP (takeP [61] (nameP (.ok ((), r) : PR Unit)))) = 0
    · rw [check_no _ _ hρ]
      exact rstmt_check0 b lv ts r t _ _ w h rfl h0 _ 0 rfl hρ rfl rfl
    · obtain ⟨a0, t0, r0, he, hr⟩ := check_yes _ _ rfl hρ
      have hn : ruleNo t0 ≠ 0 := by rw [hr]; exact hρ
      have hd : ((ruleV (wordP (takeP [61] (nameP (.ok ((), r) : PR Unit)))) == 0) : Bool) = false := by simpa using hρ
      have e2 : (takeP [61] (nameP (.ok ((), r) : PR Unit))).then (fun a r => sCheck a.2 r) = (pMust [40] r0).then fun _ r2 => (pExpr 1 r2).then fun a r3 => (pMust [44] r3).then fun _ r4 => sCheck1 { St.zero with kind := 3, name := a0.2, rule := ruleV (wordP (takeP [61] (nameP (.ok ((), r) : PR Unit)))), a := a.nd } r4 := by
        rw [← hr, he, PR.then_ok]
        simp only [sCheck]
        rw [if_neg hn]
      rw [e2]
      by_cases h3 : 3 < ruleV (wordP (takeP [61] (nameP (.ok ((), r) : PR Unit))))
      · refine rstmt_check2 b lv ts r t _ _ w h rfl h0 _ _ rfl rfl hd a0 t0 r0 he (decide_eq_true h3) ?_
        show _ = _
        simp only [sCheck1, if_pos h3]
      · refine rstmt_check1 b lv ts r t _ _ w h rfl h0 _ _ rfl rfl hd a0 t0 r0 he (decide_eq_false h3) ?_
        show _ = _
        simp only [sCheck1, if_neg h3]
  · rw [h0, if_neg (by decide)]
    have e1 : ((pName r).then fun s r2 => (pMust [61] r2).then fun _ r3 => sBody 4 s r3) = (numP 0 2147483647 (takeP [44] (exP 0 (takeP [61] (nameP (.ok ((), r) : PR Unit)))))).then fun a r => sSmall1 ⟨4, a.1.1.2, a.1.2.nd, .zero, 0, a.2, 1, 0, false⟩ r := by
      have e2 : ∀ s r3, sBody 4 s r3 = sSmall s r3 := fun _ _ => rfl
      simp only [e2, sSmall, nameP, takeP, numP, exP, pExpr_eq, PR.then_then, PR.then_ok]
      rfl
    rw [e1]
    by_cases hy : wordP (numP 0 2147483647 (takeP [44] (exP 0 (takeP [61] (nameP (.ok ((), r) : PR Unit)))))) = [47]
    · obtain ⟨a0, t0, r0, he, ht⟩ := word_yes _ _ hy (by decide)
      refine rstmt_small1 b lv ts r t _ _ w h rfl h0 _ hy (bs_is rfl) a0 t0 r0 he ?_
      show _ = _
      rw [he, PR.then_ok]
      simp only [sSmall1]
      rw [if_pos ht]
    · exact rstmt_small0 b lv ts r t _ _ w h rfl h0 _ rfl (bs_not hy) (small_no _ _ hy)
  · rw [h0, if_neg (by decide)]
    have e1 : ((pName r).then fun s r2 => (pMust [61] r2).then fun _ r3 => sBody 5 s r3) = (numP 0 32767 (takeP [47] (numP 0 32767 (takeP [44] (exP 0 (takeP [61] (nameP (.ok ((), r) : PR Unit)))))))).then fun a r => sWrite1 ⟨5, a.1.1.1.2, a.1.1.2.nd, .zero, 0, a.1.2, 0, a.2, false⟩ r := by
      have e2 : ∀ s r3, sBody 5 s r3 = sWrite s r3 := fun _ _ => rfl
      simp only [e2, sWrite, pLayers, nameP, takeP, numP, exP, pExpr_eq, PR.then_then, PR.then_ok]
      rfl
    rw [e1]
    by_cases hy : wordP (numP 0 32767 (takeP [47] (numP 0 32767 (takeP [44] (exP 0 (takeP [61] (nameP (.ok ((), r) : PR Unit)))))))) = w_snap
    · obtain ⟨a0, t0, r0, he, ht⟩ := word_yes _ _ hy (by decide)
      refine rstmt_write1 b lv ts r t _ _ w h rfl h0 _ hy (bs_is rfl) a0 t0 r0 he ?_
      show _ = _
      rw [he, PR.then_ok]
      simp only [sWrite1]
      rw [if_pos ht]
    · exact rstmt_write0 b lv ts r t _ _ w h rfl h0 _ rfl (bs_not hy) (write_no _ _ hy)
end Go.Proofs.YtgnjaneddidbbaaDoor
