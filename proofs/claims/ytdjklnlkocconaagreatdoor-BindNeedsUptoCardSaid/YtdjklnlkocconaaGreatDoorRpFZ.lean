/-
  The reference's fits: a check, a kind that is none; all.
-/
import Derived.Test.YtdjklnlkocconaaGreatDoorRpEZ
namespace Go.Proofs.YtdjklnlkocconaaGreatDoor
open Go Go.RowKit

set_option maxHeartbeats 8000000 in
set_option maxRecDepth 100000 in
theorem fits3 (name : List UInt8) (xa xb : Nd) (rule n d k : Int) (snap : Bool) (A B : NV) (w : World) (hn : name.length ≤ maxLen) (ha : NdIs Any w xa A.val) (hb : NdIs Any w xb B.val) (hba : NdB xa) (hbb : NdB xb) :
    Calls Tryz.prog 39 #[.agg #[.int .i64 3, .string (bs name), .int .i64 A.k, .string A.s, .slice A.a A.n A.c, .int .i64 B.k, .string B.s, .slice B.a B.n B.c, .int .i64 rule, .int .i64 n, .int .i64 d, .int .i64 k, .bool snap]] w fun e w' => e = .returned (.bool (fitB ⟨3, name, xa, xb, rule, n, d, k, snap⟩)) ∧ Below w.heap.size w w' := by
  have g1 := grown_alloc w (.cells (stCells ⟨3, name, xa, xb, rule, n, d, k, snap⟩ A B).toArray 39) none
  have S0 : Hid (FS w (w.alloc (.cells (stCells ⟨3, name, xa, xb, rule, n, d, k, snap⟩ A B).toArray 39)) ⟨3, name, xa, xb, rule, n, d, k, snap⟩ A B) := ⟨(MapKept.heap_alloc w _).1, ha.still g1, hb.still g1, below_still0 g1⟩
  have HBA := Lib.hid hba
  have HBB := Lib.hid hbb
  have HN := Lib.hid hn
  obtain ⟨R0, hr⟩ : ∃ b, fitB ⟨3, name, xa, xb, rule, n, d, k, snap⟩ = b := ⟨_, rfl⟩
  rw [hr]
  have HR0 := Lib.hid hr
  clear g1 ha hb hba hbb hn hr
  have x0 := S0.out.cell 0
  have x1 := S0.out.cell 1
  have x2 := S0.out.cell 2
  have x3 := S0.out.cell 3
  have x4 := S0.out.cell 4
  have x5 := S0.out.cell 5
  have x6 := S0.out.cell 6
  have x7 := S0.out.cell 7
  have x8 := S0.out.cell 8
  have x9 := S0.out.cell 9
  have x10 := S0.out.cell 10
  have x11 := S0.out.cell 11
  have x12 := S0.out.cell 12
  simp only [stCells, List.getElem?_cons_succ, List.getElem?_cons_zero] at x0 x1 x2 x3 x4 x5 x6 x7 x8 x9 x10 x11 x12
  go_enter Tryz.func39, Tryz.ntmps39
  obtain ⟨b0, hb0⟩ : ∃ b, nameB name = b := ⟨_, rfl⟩
  have HB0 := Lib.hid hb0
  clear hb0
  go_wp2_with fail
  refine (rname_any name _ HN.out).mono ?_
  rintro e w1 ⟨he, hb1⟩
  rw [HB0.out] at he
  subst he
  have T0 := Lib.hid (S0.out.next hb1)
  clear x0 x2 x3 x4 x5 x6 x7 x8 x9 x10 x11 x12 x1 hb1 S0
  have x0 := T0.out.cell 0
  have x2 := T0.out.cell 2
  have x3 := T0.out.cell 3
  have x4 := T0.out.cell 4
  have x5 := T0.out.cell 5
  have x6 := T0.out.cell 6
  have x7 := T0.out.cell 7
  have x8 := T0.out.cell 8
  have x9 := T0.out.cell 9
  have x10 := T0.out.cell 10
  have x11 := T0.out.cell 11
  have x12 := T0.out.cell 12
  simp only [stCells, List.getElem?_cons_succ, List.getElem?_cons_zero] at x0 x2 x3 x4 x5 x6 x7 x8 x9 x10 x11 x12
  cases b0 with
  | false =>
    first
    | (exfalso; omega; done)
    | (obtain rfl : R0 = false := by rw [← HR0.out]; simp [fitB, HB0.out]
       go_wp2
       go_ret
       exact ⟨rfl, T0.out.bw⟩)
  | true =>
    by_cases h3 : 3 < rule
    case pos =>
      have h3b : ¬ rule ≤ 3 := by omega
      obtain ⟨b1, hb1⟩ : ∃ b, rightB xb 1 63 = b := ⟨_, rfl⟩
      have HD := Lib.hid hb1
      clear hb1
      go_wp2_with fail
      all_goals
        refine (right_any xb 1 63 _ _ (by decide) (by decide) (by decide) (by decide) HBB.out T0.out.nb).mono ?_
        rintro e w99 ⟨he, hb99⟩
        rw [HD.out] at he
        subst he
        have T1 := Lib.hid (T0.out.next hb99)
        clear x0 x2 x3 x4 x5 x6 x7 x8 x9 x10 x11 x12 hb99 T0
        have x0 := T1.out.cell 0
        have x2 := T1.out.cell 2
        have x3 := T1.out.cell 3
        have x4 := T1.out.cell 4
        have x5 := T1.out.cell 5
        have x6 := T1.out.cell 6
        have x7 := T1.out.cell 7
        have x8 := T1.out.cell 8
        have x9 := T1.out.cell 9
        have x10 := T1.out.cell 10
        have x11 := T1.out.cell 11
        have x12 := T1.out.cell 12
        simp only [stCells, List.getElem?_cons_succ, List.getElem?_cons_zero] at x0 x2 x3 x4 x5 x6 x7 x8 x9 x10 x11 x12
        have HTW : Hid (∀ (n d k : Int) (snap : Bool), twoB ⟨3, name, xa, xb, rule, n, d, k, snap⟩ = b1) := by
          intro n d k snap
          show ((decide (3 < rule) && rightB xb 1 63) || (decide (rule ≤ 3) && noneB xb)) = b1
          rw [HD.out]
          first
          | (have e1 : decide (3 < rule) = true := (by rw [decide_eq_true_eq]; omega); have e2 : decide (rule ≤ 3) = false := (by rw [decide_eq_false_iff_not]; omega); rw [e1, e2]; simp; done)
          | (have e1 : decide (3 < rule) = false := (by rw [decide_eq_false_iff_not]; omega); have e2 : decide (rule ≤ 3) = true := (by rw [decide_eq_true_eq]; omega); rw [e1, e2]; simp; done)
        clear HD
        cases b1 with
        | false =>
          by_cases r1 : 1 ≤ rule
          case pos =>
            by_cases r2 : rule ≤ 6
            case pos =>
              first
              | (exfalso; omega; done)
              | (obtain rfl : R0 = false := by rw [← HR0.out]; simp [fitB, HB0.out, HTW.out]
                 go_wp2
                 go_ret
                 exact ⟨rfl, T1.out.bw⟩)
            first
            | (exfalso; omega; done)
            | (obtain rfl : R0 = false := by rw [← HR0.out]; simp [fitB, HB0.out, HTW.out]
               go_wp2
               go_ret
               exact ⟨rfl, T1.out.bw⟩)
          first
          | (exfalso; omega; done)
          | (obtain rfl : R0 = false := by rw [← HR0.out]; simp [fitB, HB0.out, HTW.out]
             go_wp2
             go_ret
             exact ⟨rfl, T1.out.bw⟩)
        | true =>
          by_cases q0 : 1 ≤ rule
          case neg =>
            first
            | (exfalso; omega; done)
            | (obtain rfl : R0 = false := by rw [← HR0.out]; simp [fitB, HB0.out, HTW.out, q0]
               go_wp2
               go_ret
               exact ⟨rfl, T1.out.bw⟩)
          by_cases q1 : rule ≤ 6
          case neg =>
            first
            | (exfalso; omega; done)
            | (obtain rfl : R0 = false := by rw [← HR0.out]; simp [fitB, HB0.out, HTW.out, q0, q1]
               go_wp2
               go_ret
               exact ⟨rfl, T1.out.bw⟩)
          obtain ⟨c2, hc2⟩ : ∃ b, rightB xa 1 63 = b := ⟨_, rfl⟩
          have HC2 := Lib.hid hc2
          clear hc2
          go_wp2_with fail
          refine (right_any xa 1 63 _ _ (by decide) (by decide) (by decide) (by decide) HBA.out T1.out.na).mono ?_
          rintro e w102 ⟨he, hb102⟩
          rw [HC2.out] at he
          subst he
          have T2 := Lib.hid (T1.out.next hb102)
          clear x0 x2 x3 x4 x5 x6 x7 x8 x9 x10 x11 x12 hb102 T1
          have x0 := T2.out.cell 0
          have x2 := T2.out.cell 2
          have x3 := T2.out.cell 3
          have x4 := T2.out.cell 4
          have x5 := T2.out.cell 5
          have x6 := T2.out.cell 6
          have x7 := T2.out.cell 7
          have x8 := T2.out.cell 8
          have x9 := T2.out.cell 9
          have x10 := T2.out.cell 10
          have x11 := T2.out.cell 11
          have x12 := T2.out.cell 12
          simp only [stCells, List.getElem?_cons_succ, List.getElem?_cons_zero] at x0 x2 x3 x4 x5 x6 x7 x8 x9 x10 x11 x12
          cases c2 with
          | false =>
            first
            | (exfalso; omega; done)
            | (obtain rfl : R0 = false := by rw [← HR0.out]; simp [fitB, HB0.out, HTW.out, q0, q1, HC2.out]
               go_wp2
               go_ret
               exact ⟨rfl, T2.out.bw⟩)
          | true =>
            by_cases q3 : 1 ≤ n
            case neg =>
              first
              | (exfalso; omega; done)
              | (obtain rfl : R0 = false := by rw [← HR0.out]; simp [fitB, HB0.out, HTW.out, q0, q1, HC2.out, q3]
                 go_wp2
                 go_ret
                 exact ⟨rfl, T2.out.bw⟩)
            by_cases q4 : n ≤ 2147483647
            case neg =>
              first
              | (exfalso; omega; done)
              | (obtain rfl : R0 = false := by rw [← HR0.out]; simp [fitB, HB0.out, HTW.out, q0, q1, HC2.out, q3, q4]
                 go_wp2
                 go_ret
                 exact ⟨rfl, T2.out.bw⟩)
            by_cases q5 : d = 0
            case neg =>
              have fq5 := bne_of q5
              first
              | (exfalso; omega; done)
              | (obtain rfl : R0 = false := by rw [← HR0.out]; simp [fitB, HB0.out, HTW.out, q0, q1, HC2.out, q3, q4, q5]
                 go_wp2
                 go_ret
                 exact ⟨rfl, T2.out.bw⟩)
            by_cases q6 : k = 0
            case neg =>
              have fq6 := bne_of q6
              first
              | (exfalso; omega; done)
              | (obtain rfl : R0 = false := by rw [← HR0.out]; simp [fitB, HB0.out, HTW.out, q0, q1, HC2.out, q3, q4, q5, q6]
                 go_wp2
                 go_ret
                 exact ⟨rfl, T2.out.bw⟩)
            by_cases q7 : snap = false
            case neg =>
              obtain rfl : snap = true := by cases snap with | false => exact absurd rfl q7 | true => rfl
              first
              | (exfalso; omega; done)
              | (obtain rfl : R0 = false := by rw [← HR0.out]; simp [fitB, HB0.out, HTW.out, q0, q1, HC2.out, q3, q4, q5, q6]
                 go_wp2
                 go_ret
                 exact ⟨rfl, T2.out.bw⟩)
            subst q7
            first
            | (exfalso; omega; done)
            | (obtain rfl : R0 = true := by rw [← HR0.out]; simp [fitB, HB0.out, HTW.out, q0, q1, HC2.out, q3, q4, q5, q6]
               go_wp2
               go_ret
               exact ⟨rfl, T2.out.bw⟩)
    have h3b : rule ≤ 3 := by omega
    obtain ⟨b1, hb1⟩ : ∃ b, noneB xb = b := ⟨_, rfl⟩
    have HD := Lib.hid hb1
    clear hb1
    go_wp2_with fail
    all_goals
      refine (none_any xb _ _ T0.out.nb).mono ?_
      rintro e w99 ⟨he, hb99⟩
      rw [HD.out] at he
      subst he
      have T1 := Lib.hid (T0.out.next (below_still0 hb99))
      clear x0 x2 x3 x4 x5 x6 x7 x8 x9 x10 x11 x12 hb99 T0
      have x0 := T1.out.cell 0
      have x2 := T1.out.cell 2
      have x3 := T1.out.cell 3
      have x4 := T1.out.cell 4
      have x5 := T1.out.cell 5
      have x6 := T1.out.cell 6
      have x7 := T1.out.cell 7
      have x8 := T1.out.cell 8
      have x9 := T1.out.cell 9
      have x10 := T1.out.cell 10
      have x11 := T1.out.cell 11
      have x12 := T1.out.cell 12
      simp only [stCells, List.getElem?_cons_succ, List.getElem?_cons_zero] at x0 x2 x3 x4 x5 x6 x7 x8 x9 x10 x11 x12
      have HTW : Hid (∀ (n d k : Int) (snap : Bool), twoB ⟨3, name, xa, xb, rule, n, d, k, snap⟩ = b1) := by
        intro n d k snap
        show ((decide (3 < rule) && rightB xb 1 63) || (decide (rule ≤ 3) && noneB xb)) = b1
        rw [HD.out]
        first
        | (have e1 : decide (3 < rule) = true := (by rw [decide_eq_true_eq]; omega); have e2 : decide (rule ≤ 3) = false := (by rw [decide_eq_false_iff_not]; omega); rw [e1, e2]; simp; done)
        | (have e1 : decide (3 < rule) = false := (by rw [decide_eq_false_iff_not]; omega); have e2 : decide (rule ≤ 3) = true := (by rw [decide_eq_true_eq]; omega); rw [e1, e2]; simp; done)
      clear HD
      cases b1 with
      | false =>
        by_cases r1 : 1 ≤ rule
        case pos =>
          by_cases r2 : rule ≤ 6
          case pos =>
            first
            | (exfalso; omega; done)
            | (obtain rfl : R0 = false := by rw [← HR0.out]; simp [fitB, HB0.out, HTW.out]
               go_wp2
               go_ret
               exact ⟨rfl, T1.out.bw⟩)
          first
          | (exfalso; omega; done)
          | (obtain rfl : R0 = false := by rw [← HR0.out]; simp [fitB, HB0.out, HTW.out]
             go_wp2
             go_ret
             exact ⟨rfl, T1.out.bw⟩)
        first
        | (exfalso; omega; done)
        | (obtain rfl : R0 = false := by rw [← HR0.out]; simp [fitB, HB0.out, HTW.out]
           go_wp2
           go_ret
           exact ⟨rfl, T1.out.bw⟩)
      | true =>
        by_cases q0 : 1 ≤ rule
        case neg =>
          first
          | (exfalso; omega; done)
          | (obtain rfl : R0 = false := by rw [← HR0.out]; simp [fitB, HB0.out, HTW.out, q0]
             go_wp2
             go_ret
             exact ⟨rfl, T1.out.bw⟩)
        by_cases q1 : rule ≤ 6
        case neg =>
          first
          | (exfalso; omega; done)
          | (obtain rfl : R0 = false := by rw [← HR0.out]; simp [fitB, HB0.out, HTW.out, q0, q1]
             go_wp2
             go_ret
             exact ⟨rfl, T1.out.bw⟩)
        obtain ⟨c2, hc2⟩ : ∃ b, rightB xa 1 63 = b := ⟨_, rfl⟩
        have HC2 := Lib.hid hc2
        clear hc2
        go_wp2_with fail
        refine (right_any xa 1 63 _ _ (by decide) (by decide) (by decide) (by decide) HBA.out T1.out.na).mono ?_
        rintro e w102 ⟨he, hb102⟩
        rw [HC2.out] at he
        subst he
        have T2 := Lib.hid (T1.out.next hb102)
        clear x0 x2 x3 x4 x5 x6 x7 x8 x9 x10 x11 x12 hb102 T1
        have x0 := T2.out.cell 0
        have x2 := T2.out.cell 2
        have x3 := T2.out.cell 3
        have x4 := T2.out.cell 4
        have x5 := T2.out.cell 5
        have x6 := T2.out.cell 6
        have x7 := T2.out.cell 7
        have x8 := T2.out.cell 8
        have x9 := T2.out.cell 9
        have x10 := T2.out.cell 10
        have x11 := T2.out.cell 11
        have x12 := T2.out.cell 12
        simp only [stCells, List.getElem?_cons_succ, List.getElem?_cons_zero] at x0 x2 x3 x4 x5 x6 x7 x8 x9 x10 x11 x12
        cases c2 with
        | false =>
          first
          | (exfalso; omega; done)
          | (obtain rfl : R0 = false := by rw [← HR0.out]; simp [fitB, HB0.out, HTW.out, q0, q1, HC2.out]
             go_wp2
             go_ret
             exact ⟨rfl, T2.out.bw⟩)
        | true =>
          by_cases q3 : 1 ≤ n
          case neg =>
            first
            | (exfalso; omega; done)
            | (obtain rfl : R0 = false := by rw [← HR0.out]; simp [fitB, HB0.out, HTW.out, q0, q1, HC2.out, q3]
               go_wp2
               go_ret
               exact ⟨rfl, T2.out.bw⟩)
          by_cases q4 : n ≤ 2147483647
          case neg =>
            first
            | (exfalso; omega; done)
            | (obtain rfl : R0 = false := by rw [← HR0.out]; simp [fitB, HB0.out, HTW.out, q0, q1, HC2.out, q3, q4]
               go_wp2
               go_ret
               exact ⟨rfl, T2.out.bw⟩)
          by_cases q5 : d = 0
          case neg =>
            have fq5 := bne_of q5
            first
            | (exfalso; omega; done)
            | (obtain rfl : R0 = false := by rw [← HR0.out]; simp [fitB, HB0.out, HTW.out, q0, q1, HC2.out, q3, q4, q5]
               go_wp2
               go_ret
               exact ⟨rfl, T2.out.bw⟩)
          by_cases q6 : k = 0
          case neg =>
            have fq6 := bne_of q6
            first
            | (exfalso; omega; done)
            | (obtain rfl : R0 = false := by rw [← HR0.out]; simp [fitB, HB0.out, HTW.out, q0, q1, HC2.out, q3, q4, q5, q6]
               go_wp2
               go_ret
               exact ⟨rfl, T2.out.bw⟩)
          by_cases q7 : snap = false
          case neg =>
            obtain rfl : snap = true := by cases snap with | false => exact absurd rfl q7 | true => rfl
            first
            | (exfalso; omega; done)
            | (obtain rfl : R0 = false := by rw [← HR0.out]; simp [fitB, HB0.out, HTW.out, q0, q1, HC2.out, q3, q4, q5, q6]
               go_wp2
               go_ret
               exact ⟨rfl, T2.out.bw⟩)
          subst q7
          first
          | (exfalso; omega; done)
          | (obtain rfl : R0 = true := by rw [← HR0.out]; simp [fitB, HB0.out, HTW.out, q0, q1, HC2.out, q3, q4, q5, q6]
             go_wp2
             go_ret
             exact ⟨rfl, T2.out.bw⟩)

set_option maxHeartbeats 4000000 in
set_option maxRecDepth 100000 in
theorem fits0 (kind : Int) (name : List UInt8) (xa xb : Nd) (rule n d k : Int) (snap : Bool) (A B : NV) (w : World) (hn : name.length ≤ maxLen) (ha : NdIs Any w xa A.val) (hb : NdIs Any w xb B.val) (hk : kind < 1 ∨ 5 < kind) :
    Calls Tryz.prog 39 #[.agg #[.int .i64 kind, .string (bs name), .int .i64 A.k, .string A.s, .slice A.a A.n A.c, .int .i64 B.k, .string B.s, .slice B.a B.n B.c, .int .i64 rule, .int .i64 n, .int .i64 d, .int .i64 k, .bool snap]] w fun e w' => e = .returned (.bool (fitB ⟨kind, name, xa, xb, rule, n, d, k, snap⟩)) ∧ Below w.heap.size w w' := by
  have g1 := grown_alloc w (.cells (stCells ⟨kind, name, xa, xb, rule, n, d, k, snap⟩ A B).toArray 39) none
  have S0 : Hid (FS w (w.alloc (.cells (stCells ⟨kind, name, xa, xb, rule, n, d, k, snap⟩ A B).toArray 39)) ⟨kind, name, xa, xb, rule, n, d, k, snap⟩ A B) := ⟨(MapKept.heap_alloc w _).1, ha.still g1, hb.still g1, below_still0 g1⟩
  have HN := Lib.hid hn
  obtain ⟨R0, hr⟩ : ∃ b, fitB ⟨kind, name, xa, xb, rule, n, d, k, snap⟩ = b := ⟨_, rfl⟩
  rw [hr]
  have HR0 := Lib.hid hr
  have k1 : kind ≠ 1 := by omega
  have k2 : kind ≠ 2 := by omega
  have k3 : kind ≠ 3 := by omega
  have k4 : kind ≠ 4 := by omega
  have k5 : kind ≠ 5 := by omega
  obtain rfl : R0 = false := by rw [← HR0.out]; simp [fitB, k1, k2, k3, k4, k5]
  have g1 := bne_of k1
  have g2 := bne_of k2
  have g3 := bne_of k3
  have g4 := bne_of k4
  have g5 := bne_of k5
  clear ha hb hn hr hk k1 k2 k3 k4 k5 HR0
  have x0 := S0.out.cell 0
  have x1 := S0.out.cell 1
  have x2 := S0.out.cell 2
  have x3 := S0.out.cell 3
  have x4 := S0.out.cell 4
  have x5 := S0.out.cell 5
  have x6 := S0.out.cell 6
  have x7 := S0.out.cell 7
  have x8 := S0.out.cell 8
  have x9 := S0.out.cell 9
  have x10 := S0.out.cell 10
  have x11 := S0.out.cell 11
  have x12 := S0.out.cell 12
  simp only [stCells, List.getElem?_cons_succ, List.getElem?_cons_zero] at x0 x1 x2 x3 x4 x5 x6 x7 x8 x9 x10 x11 x12
  go_enter Tryz.func39, Tryz.ntmps39
  obtain ⟨b0, hb0⟩ : ∃ b, nameB name = b := ⟨_, rfl⟩
  have HB0 := Lib.hid hb0
  clear hb0
  go_wp2_with fail
  refine (rname_any name _ HN.out).mono ?_
  rintro e w1 ⟨he, hb1⟩
  rw [HB0.out] at he
  subst he
  have T0 := Lib.hid (S0.out.next hb1)
  clear x0 x2 x3 x4 x5 x6 x7 x8 x9 x10 x11 x12 x1 hb1 S0
  have x0 := T0.out.cell 0
  have x2 := T0.out.cell 2
  have x3 := T0.out.cell 3
  have x4 := T0.out.cell 4
  have x5 := T0.out.cell 5
  have x6 := T0.out.cell 6
  have x7 := T0.out.cell 7
  have x8 := T0.out.cell 8
  have x9 := T0.out.cell 9
  have x10 := T0.out.cell 10
  have x11 := T0.out.cell 11
  have x12 := T0.out.cell 12
  simp only [stCells, List.getElem?_cons_succ, List.getElem?_cons_zero] at x0 x2 x3 x4 x5 x6 x7 x8 x9 x10 x11 x12
  cases b0 with
  | false =>
    go_wp2
    go_ret
    exact ⟨rfl, T0.out.bw⟩
  | true =>
    go_wp2
    all_goals go_ret
    all_goals exact ⟨rfl, T0.out.bw⟩

/-- fits, at any statement. -/
theorem fits_any (x : St) (A B : NV) (w : World) (hn : x.name.length ≤ maxLen) (ha : NdIs Any w x.a A.val) (hb : NdIs Any w x.b B.val) (hba : NdB x.a) (hbb : NdB x.b) :
    Calls Tryz.prog 39 #[stVal x A B] w fun e w' => e = .returned (.bool (fitB x)) ∧ Below w.heap.size w w' := by
  obtain ⟨kind, name, xa, xb, rule, n, d, k, snap⟩ := x
  by_cases hk : kind < 1 ∨ 5 < kind
  · exact fits0 kind name xa xb rule n d k snap A B w hn ha hb hk
  · obtain rfl | rfl | rfl | rfl | rfl : kind = 1 ∨ kind = 2 ∨ kind = 3 ∨ kind = 4 ∨ kind = 5 := by omega
    · exact fits1 name xa xb rule n d k snap A B w hn ha hb hba hbb
    · exact fits2 name xa xb rule n d k snap A B w hn ha hb hba hbb
    · exact fits3 name xa xb rule n d k snap A B w hn ha hb hba hbb
    · exact fits4 name xa xb rule n d k snap A B w hn ha hb hba hbb
    · exact fits5 name xa xb rule n d k snap A B w hn ha hb hba hbb
end Go.Proofs.YtdjklnlkocconaaGreatDoor
