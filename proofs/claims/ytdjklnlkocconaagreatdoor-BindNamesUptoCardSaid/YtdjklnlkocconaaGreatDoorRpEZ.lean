/-
  The reference's fits: the walk.
-/
import Derived.Test.YtdjklnlkocconaaGreatDoorRpCZ
import Derived.Test.YtdjklnlkocconaaGreatDoorPaFZ
import Derived.Test.YtdjklnlkocconaaGreatDoorPrintDZ
namespace Go.Proofs.YtdjklnlkocconaaGreatDoor
open Go Go.RowKit

theorem BlkS.below {w w' : World} {g : Nat} {cs : List Value} (h : BlkS w g cs) (hb : Below w.heap.size w w') : BlkS w' g cs := h.grown (grown_of_below hb none) (by simp)
theorem NdIs.below {w w' : World} {n : Nd} {v : Value} (h : NdIs Any w n v) (hb : Below w.heap.size w w') : NdIs Any w' n v := h.still (grown_of_below hb none)

/-- fits at work. -/
structure FS (w w' : World) (x : St) (A B : NV) : Prop where
  bx : BlkS w' w.heap.size (stCells x A B)
  na : NdIs Any w' x.a A.val
  nb : NdIs Any w' x.b B.val
  bw : Below w.heap.size w w'
theorem FS.next {w w' w'' : World} {x : St} {A B : NV} (h : FS w w' x A B) (hb : Below w'.heap.size w' w'') : FS w w'' x A B :=
  ⟨h.bx.below hb, h.na.below hb, h.nb.below hb, h.bw.trans (hb.mono h.bw.size)⟩
theorem FS.cell {w w' : World} {x : St} {A B : NV} (h : FS w w' x A B) (j : Nat) : w'.cell? ⟨w.heap.size, j, none⟩ = (stCells x A B)[j]? := h.bx.cell j

theorem bne_of {a b : Int} (h : a ≠ b) : (a == b) = false := by simpa using h

set_option maxHeartbeats 8000000 in
set_option maxRecDepth 100000 in
theorem fits1 (name : List UInt8) (xa xb : Nd) (rule n d k : Int) (snap : Bool) (A B : NV) (w : World) (hn : name.length ≤ maxLen) (ha : NdIs Any w xa A.val) (hb : NdIs Any w xb B.val) (hba : NdB xa) (hbb : NdB xb) :
    Calls Tryz.prog 39 #[.agg #[.int .i64 1, .string (bs name), .int .i64 A.k, .string A.s, .slice A.a A.n A.c, .int .i64 B.k, .string B.s, .slice B.a B.n B.c, .int .i64 rule, .int .i64 n, .int .i64 d, .int .i64 k, .bool snap]] w fun e w' => e = .returned (.bool (fitB ⟨1, name, xa, xb, rule, n, d, k, snap⟩)) ∧ Below w.heap.size w w' := by
  have g1 := grown_alloc w (.cells (stCells ⟨1, name, xa, xb, rule, n, d, k, snap⟩ A B).toArray 39) none
  have S0 : Hid (FS w (w.alloc (.cells (stCells ⟨1, name, xa, xb, rule, n, d, k, snap⟩ A B).toArray 39)) ⟨1, name, xa, xb, rule, n, d, k, snap⟩ A B) := ⟨(MapKept.heap_alloc w _).1, ha.still g1, hb.still g1, below_still0 g1⟩
  have HBA := Lib.hid hba
  have HBB := Lib.hid hbb
  have HN := Lib.hid hn
  obtain ⟨R0, hr⟩ : ∃ b, fitB ⟨1, name, xa, xb, rule, n, d, k, snap⟩ = b := ⟨_, rfl⟩
  rw [hr]
  have HR0 := Lib.hid hr
  clear g1 ha hb hba hbb hn hr
  have x0 := S0.out.cell 0
  have x1 := S0.out.cell 1
  have x2 := S0.out.cell 2
  have x3 := S0.out.cell 3
  have x4 := S0.out.cell 4
  have x5 := S0.out.cell 5
  have x6 := S0.out.cell 6
  have x7 := S0.out.cell 7
  have x8 := S0.out.cell 8
  have x9 := S0.out.cell 9
  have x10 := S0.out.cell 10
  have x11 := S0.out.cell 11
  have x12 := S0.out.cell 12
  simp only [stCells, List.getElem?_cons_succ, List.getElem?_cons_zero] at x0 x1 x2 x3 x4 x5 x6 x7 x8 x9 x10 x11 x12
  go_enter Tryz.func39, Tryz.ntmps39
  obtain ⟨b0, hb0⟩ : ∃ b, nameB name = b := ⟨_, rfl⟩
  have HB0 := Lib.hid hb0
  clear hb0
  go_wp2_with fail
  refine (rname_any name _ HN.out).mono ?_
  rintro e w1 ⟨he, hb1⟩
  rw [HB0.out] at he
  subst he
  have T0 := Lib.hid (S0.out.next hb1)
  clear x0 x2 x3 x4 x5 x6 x7 x8 x9 x10 x11 x12 x1 hb1 S0
  have x0 := T0.out.cell 0
  have x2 := T0.out.cell 2
  have x3 := T0.out.cell 3
  have x4 := T0.out.cell 4
  have x5 := T0.out.cell 5
  have x6 := T0.out.cell 6
  have x7 := T0.out.cell 7
  have x8 := T0.out.cell 8
  have x9 := T0.out.cell 9
  have x10 := T0.out.cell 10
  have x11 := T0.out.cell 11
  have x12 := T0.out.cell 12
  simp only [stCells, List.getElem?_cons_succ, List.getElem?_cons_zero] at x0 x2 x3 x4 x5 x6 x7 x8 x9 x10 x11 x12
  cases b0 with
  | false =>
    first
    | (exfalso; omega; done)
    | (obtain rfl : R0 = false := by rw [← HR0.out]; simp [fitB, HB0.out]
       go_wp2
       go_ret
       exact ⟨rfl, T0.out.bw⟩)
  | true =>
    by_cases q0 : 0 ≤ n
    case neg =>
      first
      | (exfalso; omega; done)
      | (obtain rfl : R0 = false := by rw [← HR0.out]; simp [fitB, layersB, HB0.out, q0]
         go_wp2
         go_ret
         exact ⟨rfl, T0.out.bw⟩)
    by_cases q1 : n ≤ 32767
    case neg =>
      first
      | (exfalso; omega; done)
      | (obtain rfl : R0 = false := by rw [← HR0.out]; simp [fitB, layersB, HB0.out, q0, q1]
         go_wp2
         go_ret
         exact ⟨rfl, T0.out.bw⟩)
    by_cases q2 : 0 ≤ k
    case neg =>
      first
      | (exfalso; omega; done)
      | (obtain rfl : R0 = false := by rw [← HR0.out]; simp [fitB, layersB, HB0.out, q0, q1, q2]
         go_wp2
         go_ret
         exact ⟨rfl, T0.out.bw⟩)
    by_cases q3 : k ≤ 32767
    case neg =>
      first
      | (exfalso; omega; done)
      | (obtain rfl : R0 = false := by rw [← HR0.out]; simp [fitB, layersB, HB0.out, q0, q1, q2, q3]
         go_wp2
         go_ret
         exact ⟨rfl, T0.out.bw⟩)
    by_cases q4 : d = 0
    case neg =>
      have fq4 := bne_of q4
      first
      | (exfalso; omega; done)
      | (obtain rfl : R0 = false := by rw [← HR0.out]; simp [fitB, layersB, HB0.out, q0, q1, q2, q3, q4]
         go_wp2
         go_ret
         exact ⟨rfl, T0.out.bw⟩)
    obtain ⟨b6, hb6⟩ : ∃ b, noneB xa = b := ⟨_, rfl⟩
    have HC5 := Lib.hid hb6
    clear hb6
    go_wp2_with fail
    refine (none_any xa _ _ T0.out.na).mono ?_
    rintro e w105 ⟨he, hb105⟩
    rw [HC5.out] at he
    subst he
    have T1 := Lib.hid (T0.out.next (below_still0 hb105))
    clear x0 x2 x3 x4 x5 x6 x7 x8 x9 x10 x11 x12 hb105 T0
    have x0 := T1.out.cell 0
    have x2 := T1.out.cell 2
    have x3 := T1.out.cell 3
    have x4 := T1.out.cell 4
    have x5 := T1.out.cell 5
    have x6 := T1.out.cell 6
    have x7 := T1.out.cell 7
    have x8 := T1.out.cell 8
    have x9 := T1.out.cell 9
    have x10 := T1.out.cell 10
    have x11 := T1.out.cell 11
    have x12 := T1.out.cell 12
    simp only [stCells, List.getElem?_cons_succ, List.getElem?_cons_zero] at x0 x2 x3 x4 x5 x6 x7 x8 x9 x10 x11 x12
    cases b6 with
    | false =>
      first
      | (exfalso; omega; done)
      | (obtain rfl : R0 = false := by rw [← HR0.out]; simp [fitB, layersB, HB0.out, q0, q1, q2, q3, q4, HC5.out]
         go_wp2
         go_ret
         exact ⟨rfl, T1.out.bw⟩)
    | true =>
      obtain ⟨b7, hb7⟩ : ∃ b, noneB xb = b := ⟨_, rfl⟩
      have HC6 := Lib.hid hb7
      clear hb7
      go_wp2_with fail
      refine (none_any xb _ _ T1.out.nb).mono ?_
      rintro e w106 ⟨he, hb106⟩
      rw [HC6.out] at he
      subst he
      have T2 := Lib.hid (T1.out.next (below_still0 hb106))
      clear x0 x2 x3 x4 x5 x6 x7 x8 x9 x10 x11 x12 hb106 T1
      have x0 := T2.out.cell 0
      have x2 := T2.out.cell 2
      have x3 := T2.out.cell 3
      have x4 := T2.out.cell 4
      have x5 := T2.out.cell 5
      have x6 := T2.out.cell 6
      have x7 := T2.out.cell 7
      have x8 := T2.out.cell 8
      have x9 := T2.out.cell 9
      have x10 := T2.out.cell 10
      have x11 := T2.out.cell 11
      have x12 := T2.out.cell 12
      simp only [stCells, List.getElem?_cons_succ, List.getElem?_cons_zero] at x0 x2 x3 x4 x5 x6 x7 x8 x9 x10 x11 x12
      cases b7 with
      | false =>
        first
        | (exfalso; omega; done)
        | (obtain rfl : R0 = false := by rw [← HR0.out]; simp [fitB, layersB, HB0.out, q0, q1, q2, q3, q4, HC5.out, HC6.out]
           go_wp2
           go_ret
           exact ⟨rfl, T2.out.bw⟩)
      | true =>
        by_cases q7 : rule = 0
        case neg =>
          have fq7 := bne_of q7
          first
          | (exfalso; omega; done)
          | (obtain rfl : R0 = false := by rw [← HR0.out]; simp [fitB, layersB, HB0.out, q0, q1, q2, q3, q4, HC5.out, HC6.out, q7]
             go_wp2
             go_ret
             exact ⟨rfl, T2.out.bw⟩)
        by_cases q8 : snap = false
        case neg =>
          obtain rfl : snap = true := by cases snap with | false => exact absurd rfl q8 | true => rfl
          first
          | (exfalso; omega; done)
          | (obtain rfl : R0 = false := by rw [← HR0.out]; simp [fitB, layersB, HB0.out, q0, q1, q2, q3, q4, HC5.out, HC6.out, q7]
             go_wp2
             go_ret
             exact ⟨rfl, T2.out.bw⟩)
        subst q8
        first
        | (exfalso; omega; done)
        | (obtain rfl : R0 = true := by rw [← HR0.out]; simp [fitB, layersB, HB0.out, q0, q1, q2, q3, q4, HC5.out, HC6.out, q7]
           go_wp2
           go_ret
           exact ⟨rfl, T2.out.bw⟩)

set_option maxHeartbeats 8000000 in
set_option maxRecDepth 100000 in
theorem fits2 (name : List UInt8) (xa xb : Nd) (rule n d k : Int) (snap : Bool) (A B : NV) (w : World) (hn : name.length ≤ maxLen) (ha : NdIs Any w xa A.val) (hb : NdIs Any w xb B.val) (hba : NdB xa) (hbb : NdB xb) :
    Calls Tryz.prog 39 #[.agg #[.int .i64 2, .string (bs name), .int .i64 A.k, .string A.s, .slice A.a A.n A.c, .int .i64 B.k, .string B.s, .slice B.a B.n B.c, .int .i64 rule, .int .i64 n, .int .i64 d, .int .i64 k, .bool snap]] w fun e w' => e = .returned (.bool (fitB ⟨2, name, xa, xb, rule, n, d, k, snap⟩)) ∧ Below w.heap.size w w' := by
  have g1 := grown_alloc w (.cells (stCells ⟨2, name, xa, xb, rule, n, d, k, snap⟩ A B).toArray 39) none
  have S0 : Hid (FS w (w.alloc (.cells (stCells ⟨2, name, xa, xb, rule, n, d, k, snap⟩ A B).toArray 39)) ⟨2, name, xa, xb, rule, n, d, k, snap⟩ A B) := ⟨(MapKept.heap_alloc w _).1, ha.still g1, hb.still g1, below_still0 g1⟩
  have HBA := Lib.hid hba
  have HBB := Lib.hid hbb
  have HN := Lib.hid hn
  obtain ⟨R0, hr⟩ : ∃ b, fitB ⟨2, name, xa, xb, rule, n, d, k, snap⟩ = b := ⟨_, rfl⟩
  rw [hr]
  have HR0 := Lib.hid hr
  clear g1 ha hb hba hbb hn hr
  have x0 := S0.out.cell 0
  have x1 := S0.out.cell 1
  have x2 := S0.out.cell 2
  have x3 := S0.out.cell 3
  have x4 := S0.out.cell 4
  have x5 := S0.out.cell 5
  have x6 := S0.out.cell 6
  have x7 := S0.out.cell 7
  have x8 := S0.out.cell 8
  have x9 := S0.out.cell 9
  have x10 := S0.out.cell 10
  have x11 := S0.out.cell 11
  have x12 := S0.out.cell 12
  simp only [stCells, List.getElem?_cons_succ, List.getElem?_cons_zero] at x0 x1 x2 x3 x4 x5 x6 x7 x8 x9 x10 x11 x12
  go_enter Tryz.func39, Tryz.ntmps39
  obtain ⟨b0, hb0⟩ : ∃ b, nameB name = b := ⟨_, rfl⟩
  have HB0 := Lib.hid hb0
  clear hb0
  go_wp2_with fail
  refine (rname_any name _ HN.out).mono ?_
  rintro e w1 ⟨he, hb1⟩
  rw [HB0.out] at he
  subst he
  have T0 := Lib.hid (S0.out.next hb1)
  clear x0 x2 x3 x4 x5 x6 x7 x8 x9 x10 x11 x12 x1 hb1 S0
  have x0 := T0.out.cell 0
  have x2 := T0.out.cell 2
  have x3 := T0.out.cell 3
  have x4 := T0.out.cell 4
  have x5 := T0.out.cell 5
  have x6 := T0.out.cell 6
  have x7 := T0.out.cell 7
  have x8 := T0.out.cell 8
  have x9 := T0.out.cell 9
  have x10 := T0.out.cell 10
  have x11 := T0.out.cell 11
  have x12 := T0.out.cell 12
  simp only [stCells, List.getElem?_cons_succ, List.getElem?_cons_zero] at x0 x2 x3 x4 x5 x6 x7 x8 x9 x10 x11 x12
  cases b0 with
  | false =>
    first
    | (exfalso; omega; done)
    | (obtain rfl : R0 = false := by rw [← HR0.out]; simp [fitB, HB0.out]
       go_wp2
       go_ret
       exact ⟨rfl, T0.out.bw⟩)
  | true =>
    obtain ⟨b1, hb1⟩ : ∃ b, rightB xa 1 64 = b := ⟨_, rfl⟩
    have HC0 := Lib.hid hb1
    clear hb1
    go_wp2_with fail
    all_goals
      refine (right_any xa 1 64 _ _ (by decide) (by decide) (by decide) (by decide) HBA.out T0.out.na).mono ?_
      rintro e w100 ⟨he, hb100⟩
      rw [HC0.out] at he
      subst he
      have T1 := Lib.hid (T0.out.next hb100)
      clear x0 x2 x3 x4 x5 x6 x7 x8 x9 x10 x11 x12 hb100 T0
      have x0 := T1.out.cell 0
      have x2 := T1.out.cell 2
      have x3 := T1.out.cell 3
      have x4 := T1.out.cell 4
      have x5 := T1.out.cell 5
      have x6 := T1.out.cell 6
      have x7 := T1.out.cell 7
      have x8 := T1.out.cell 8
      have x9 := T1.out.cell 9
      have x10 := T1.out.cell 10
      have x11 := T1.out.cell 11
      have x12 := T1.out.cell 12
      simp only [stCells, List.getElem?_cons_succ, List.getElem?_cons_zero] at x0 x2 x3 x4 x5 x6 x7 x8 x9 x10 x11 x12
      cases b1 with
      | false =>
        first
        | (exfalso; omega; done)
        | (obtain rfl : R0 = false := by rw [← HR0.out]; simp [fitB, HB0.out, HC0.out]
           go_wp2
           go_ret
           exact ⟨rfl, T1.out.bw⟩)
      | true =>
        obtain ⟨b2, hb2⟩ : ∃ b, noneB xb = b := ⟨_, rfl⟩
        have HC1 := Lib.hid hb2
        clear hb2
        go_wp2_with fail
        refine (none_any xb _ _ T1.out.nb).mono ?_
        rintro e w101 ⟨he, hb101⟩
        rw [HC1.out] at he
        subst he
        have T2 := Lib.hid (T1.out.next (below_still0 hb101))
        clear x0 x2 x3 x4 x5 x6 x7 x8 x9 x10 x11 x12 hb101 T1
        have x0 := T2.out.cell 0
        have x2 := T2.out.cell 2
        have x3 := T2.out.cell 3
        have x4 := T2.out.cell 4
        have x5 := T2.out.cell 5
        have x6 := T2.out.cell 6
        have x7 := T2.out.cell 7
        have x8 := T2.out.cell 8
        have x9 := T2.out.cell 9
        have x10 := T2.out.cell 10
        have x11 := T2.out.cell 11
        have x12 := T2.out.cell 12
        simp only [stCells, List.getElem?_cons_succ, List.getElem?_cons_zero] at x0 x2 x3 x4 x5 x6 x7 x8 x9 x10 x11 x12
        cases b2 with
        | false =>
          first
          | (exfalso; omega; done)
          | (obtain rfl : R0 = false := by rw [← HR0.out]; simp [fitB, HB0.out, HC0.out, HC1.out]
             go_wp2
             go_ret
             exact ⟨rfl, T2.out.bw⟩)
        | true =>
          by_cases q2 : rule = 0
          case neg =>
            have fq2 := bne_of q2
            first
            | (exfalso; omega; done)
            | (obtain rfl : R0 = false := by rw [← HR0.out]; simp [fitB, HB0.out, HC0.out, HC1.out, q2]
               go_wp2
               go_ret
               exact ⟨rfl, T2.out.bw⟩)
          by_cases q3 : n = 0
          case neg =>
            have fq3 := bne_of q3
            first
            | (exfalso; omega; done)
            | (obtain rfl : R0 = false := by rw [← HR0.out]; simp [fitB, HB0.out, HC0.out, HC1.out, q2, q3]
               go_wp2
               go_ret
               exact ⟨rfl, T2.out.bw⟩)
          by_cases q4 : d = 0
          case neg =>
            have fq4 := bne_of q4
            first
            | (exfalso; omega; done)
            | (obtain rfl : R0 = false := by rw [← HR0.out]; simp [fitB, HB0.out, HC0.out, HC1.out, q2, q3, q4]
               go_wp2
               go_ret
               exact ⟨rfl, T2.out.bw⟩)
          by_cases q5 : k = 0
          case neg =>
            have fq5 := bne_of q5
            first
            | (exfalso; omega; done)
            | (obtain rfl : R0 = false := by rw [← HR0.out]; simp [fitB, HB0.out, HC0.out, HC1.out, q2, q3, q4, q5]
               go_wp2
               go_ret
               exact ⟨rfl, T2.out.bw⟩)
          by_cases q6 : snap = false
          case neg =>
            obtain rfl : snap = true := by cases snap with | false => exact absurd rfl q6 | true => rfl
            first
            | (exfalso; omega; done)
            | (obtain rfl : R0 = false := by rw [← HR0.out]; simp [fitB, HB0.out, HC0.out, HC1.out, q2, q3, q4, q5]
               go_wp2
               go_ret
               exact ⟨rfl, T2.out.bw⟩)
          subst q6
          first
          | (exfalso; omega; done)
          | (obtain rfl : R0 = true := by rw [← HR0.out]; simp [fitB, HB0.out, HC0.out, HC1.out, q2, q3, q4, q5]
             go_wp2
             go_ret
             exact ⟨rfl, T2.out.bw⟩)

set_option maxHeartbeats 8000000 in
set_option maxRecDepth 100000 in
theorem fits4 (name : List UInt8) (xa xb : Nd) (rule n d k : Int) (snap : Bool) (A B : NV) (w : World) (hn : name.length ≤ maxLen) (ha : NdIs Any w xa A.val) (hb : NdIs Any w xb B.val) (hba : NdB xa) (hbb : NdB xb) :
    Calls Tryz.prog 39 #[.agg #[.int .i64 4, .string (bs name), .int .i64 A.k, .string A.s, .slice A.a A.n A.c, .int .i64 B.k, .string B.s, .slice B.a B.n B.c, .int .i64 rule, .int .i64 n, .int .i64 d, .int .i64 k, .bool snap]] w fun e w' => e = .returned (.bool (fitB ⟨4, name, xa, xb, rule, n, d, k, snap⟩)) ∧ Below w.heap.size w w' := by
  have g1 := grown_alloc w (.cells (stCells ⟨4, name, xa, xb, rule, n, d, k, snap⟩ A B).toArray 39) none
  have S0 : Hid (FS w (w.alloc (.cells (stCells ⟨4, name, xa, xb, rule, n, d, k, snap⟩ A B).toArray 39)) ⟨4, name, xa, xb, rule, n, d, k, snap⟩ A B) := ⟨(MapKept.heap_alloc w _).1, ha.still g1, hb.still g1, below_still0 g1⟩
  have HBA := Lib.hid hba
  have HBB := Lib.hid hbb
  have HN := Lib.hid hn
  obtain ⟨R0, hr⟩ : ∃ b, fitB ⟨4, name, xa, xb, rule, n, d, k, snap⟩ = b := ⟨_, rfl⟩
  rw [hr]
  have HR0 := Lib.hid hr
  clear g1 ha hb hba hbb hn hr
  have x0 := S0.out.cell 0
  have x1 := S0.out.cell 1
  have x2 := S0.out.cell 2
  have x3 := S0.out.cell 3
  have x4 := S0.out.cell 4
  have x5 := S0.out.cell 5
  have x6 := S0.out.cell 6
  have x7 := S0.out.cell 7
  have x8 := S0.out.cell 8
  have x9 := S0.out.cell 9
  have x10 := S0.out.cell 10
  have x11 := S0.out.cell 11
  have x12 := S0.out.cell 12
  simp only [stCells, List.getElem?_cons_succ, List.getElem?_cons_zero] at x0 x1 x2 x3 x4 x5 x6 x7 x8 x9 x10 x11 x12
  go_enter Tryz.func39, Tryz.ntmps39
  obtain ⟨b0, hb0⟩ : ∃ b, nameB name = b := ⟨_, rfl⟩
  have HB0 := Lib.hid hb0
  clear hb0
  go_wp2_with fail
  refine (rname_any name _ HN.out).mono ?_
  rintro e w1 ⟨he, hb1⟩
  rw [HB0.out] at he
  subst he
  have T0 := Lib.hid (S0.out.next hb1)
  clear x0 x2 x3 x4 x5 x6 x7 x8 x9 x10 x11 x12 x1 hb1 S0
  have x0 := T0.out.cell 0
  have x2 := T0.out.cell 2
  have x3 := T0.out.cell 3
  have x4 := T0.out.cell 4
  have x5 := T0.out.cell 5
  have x6 := T0.out.cell 6
  have x7 := T0.out.cell 7
  have x8 := T0.out.cell 8
  have x9 := T0.out.cell 9
  have x10 := T0.out.cell 10
  have x11 := T0.out.cell 11
  have x12 := T0.out.cell 12
  simp only [stCells, List.getElem?_cons_succ, List.getElem?_cons_zero] at x0 x2 x3 x4 x5 x6 x7 x8 x9 x10 x11 x12
  cases b0 with
  | false =>
    first
    | (exfalso; omega; done)
    | (obtain rfl : R0 = false := by rw [← HR0.out]; simp [fitB, HB0.out]
       go_wp2
       go_ret
       exact ⟨rfl, T0.out.bw⟩)
  | true =>
    obtain ⟨b1, hb1⟩ : ∃ b, rightB xa 1 64 = b := ⟨_, rfl⟩
    have HC0 := Lib.hid hb1
    clear hb1
    go_wp2_with fail
    all_goals
      refine (right_any xa 1 64 _ _ (by decide) (by decide) (by decide) (by decide) HBA.out T0.out.na).mono ?_
      rintro e w100 ⟨he, hb100⟩
      rw [HC0.out] at he
      subst he
      have T1 := Lib.hid (T0.out.next hb100)
      clear x0 x2 x3 x4 x5 x6 x7 x8 x9 x10 x11 x12 hb100 T0
      have x0 := T1.out.cell 0
      have x2 := T1.out.cell 2
      have x3 := T1.out.cell 3
      have x4 := T1.out.cell 4
      have x5 := T1.out.cell 5
      have x6 := T1.out.cell 6
      have x7 := T1.out.cell 7
      have x8 := T1.out.cell 8
      have x9 := T1.out.cell 9
      have x10 := T1.out.cell 10
      have x11 := T1.out.cell 11
      have x12 := T1.out.cell 12
      simp only [stCells, List.getElem?_cons_succ, List.getElem?_cons_zero] at x0 x2 x3 x4 x5 x6 x7 x8 x9 x10 x11 x12
      cases b1 with
      | false =>
        first
        | (exfalso; omega; done)
        | (obtain rfl : R0 = false := by rw [← HR0.out]; simp [fitB, HB0.out, HC0.out]
           go_wp2
           go_ret
           exact ⟨rfl, T1.out.bw⟩)
      | true =>
        obtain ⟨b2, hb2⟩ : ∃ b, noneB xb = b := ⟨_, rfl⟩
        have HC1 := Lib.hid hb2
        clear hb2
        go_wp2_with fail
        refine (none_any xb _ _ T1.out.nb).mono ?_
        rintro e w101 ⟨he, hb101⟩
        rw [HC1.out] at he
        subst he
        have T2 := Lib.hid (T1.out.next (below_still0 hb101))
        clear x0 x2 x3 x4 x5 x6 x7 x8 x9 x10 x11 x12 hb101 T1
        have x0 := T2.out.cell 0
        have x2 := T2.out.cell 2
        have x3 := T2.out.cell 3
        have x4 := T2.out.cell 4
        have x5 := T2.out.cell 5
        have x6 := T2.out.cell 6
        have x7 := T2.out.cell 7
        have x8 := T2.out.cell 8
        have x9 := T2.out.cell 9
        have x10 := T2.out.cell 10
        have x11 := T2.out.cell 11
        have x12 := T2.out.cell 12
        simp only [stCells, List.getElem?_cons_succ, List.getElem?_cons_zero] at x0 x2 x3 x4 x5 x6 x7 x8 x9 x10 x11 x12
        cases b2 with
        | false =>
          first
          | (exfalso; omega; done)
          | (obtain rfl : R0 = false := by rw [← HR0.out]; simp [fitB, HB0.out, HC0.out, HC1.out]
             go_wp2
             go_ret
             exact ⟨rfl, T2.out.bw⟩)
        | true =>
          by_cases q2 : rule = 0
          case neg =>
            have fq2 := bne_of q2
            first
            | (exfalso; omega; done)
            | (obtain rfl : R0 = false := by rw [← HR0.out]; simp [fitB, HB0.out, HC0.out, HC1.out, q2]
               go_wp2
               go_ret
               exact ⟨rfl, T2.out.bw⟩)
          by_cases q3 : 0 ≤ n
          case neg =>
            first
            | (exfalso; omega; done)
            | (obtain rfl : R0 = false := by rw [← HR0.out]; simp [fitB, HB0.out, HC0.out, HC1.out, q2, q3]
               go_wp2
               go_ret
               exact ⟨rfl, T2.out.bw⟩)
          by_cases q4 : n ≤ 2147483647
          case neg =>
            first
            | (exfalso; omega; done)
            | (obtain rfl : R0 = false := by rw [← HR0.out]; simp [fitB, HB0.out, HC0.out, HC1.out, q2, q3, q4]
               go_wp2
               go_ret
               exact ⟨rfl, T2.out.bw⟩)
          by_cases q5 : 1 ≤ d
          case neg =>
            first
            | (exfalso; omega; done)
            | (obtain rfl : R0 = false := by rw [← HR0.out]; simp [fitB, HB0.out, HC0.out, HC1.out, q2, q3, q4, q5]
               go_wp2
               go_ret
               exact ⟨rfl, T2.out.bw⟩)
          by_cases q6 : d ≤ 2147483647
          case neg =>
            first
            | (exfalso; omega; done)
            | (obtain rfl : R0 = false := by rw [← HR0.out]; simp [fitB, HB0.out, HC0.out, HC1.out, q2, q3, q4, q5, q6]
               go_wp2
               go_ret
               exact ⟨rfl, T2.out.bw⟩)
          by_cases q7 : k = 0
          case neg =>
            have fq7 := bne_of q7
            first
            | (exfalso; omega; done)
            | (obtain rfl : R0 = false := by rw [← HR0.out]; simp [fitB, HB0.out, HC0.out, HC1.out, q2, q3, q4, q5, q6, q7]
               go_wp2
               go_ret
               exact ⟨rfl, T2.out.bw⟩)
          by_cases q8 : snap = false
          case neg =>
            obtain rfl : snap = true := by cases snap with | false => exact absurd rfl q8 | true => rfl
            first
            | (exfalso; omega; done)
            | (obtain rfl : R0 = false := by rw [← HR0.out]; simp [fitB, HB0.out, HC0.out, HC1.out, q2, q3, q4, q5, q6, q7]
               go_wp2
               go_ret
               exact ⟨rfl, T2.out.bw⟩)
          subst q8
          first
          | (exfalso; omega; done)
          | (obtain rfl : R0 = true := by rw [← HR0.out]; simp [fitB, HB0.out, HC0.out, HC1.out, q2, q3, q4, q5, q6, q7]
             go_wp2
             go_ret
             exact ⟨rfl, T2.out.bw⟩)

set_option maxHeartbeats 8000000 in
set_option maxRecDepth 100000 in
theorem fits5 (name : List UInt8) (xa xb : Nd) (rule n d k : Int) (snap : Bool) (A B : NV) (w : World) (hn : name.length ≤ maxLen) (ha : NdIs Any w xa A.val) (hb : NdIs Any w xb B.val) (hba : NdB xa) (hbb : NdB xb) :
    Calls Tryz.prog 39 #[.agg #[.int .i64 5, .string (bs name), .int .i64 A.k, .string A.s, .slice A.a A.n A.c, .int .i64 B.k, .string B.s, .slice B.a B.n B.c, .int .i64 rule, .int .i64 n, .int .i64 d, .int .i64 k, .bool snap]] w fun e w' => e = .returned (.bool (fitB ⟨5, name, xa, xb, rule, n, d, k, snap⟩)) ∧ Below w.heap.size w w' := by
  have g1 := grown_alloc w (.cells (stCells ⟨5, name, xa, xb, rule, n, d, k, snap⟩ A B).toArray 39) none
  have S0 : Hid (FS w (w.alloc (.cells (stCells ⟨5, name, xa, xb, rule, n, d, k, snap⟩ A B).toArray 39)) ⟨5, name, xa, xb, rule, n, d, k, snap⟩ A B) := ⟨(MapKept.heap_alloc w _).1, ha.still g1, hb.still g1, below_still0 g1⟩
  have HBA := Lib.hid hba
  have HBB := Lib.hid hbb
  have HN := Lib.hid hn
  obtain ⟨R0, hr⟩ : ∃ b, fitB ⟨5, name, xa, xb, rule, n, d, k, snap⟩ = b := ⟨_, rfl⟩
  rw [hr]
  have HR0 := Lib.hid hr
  clear g1 ha hb hba hbb hn hr
  have x0 := S0.out.cell 0
  have x1 := S0.out.cell 1
  have x2 := S0.out.cell 2
  have x3 := S0.out.cell 3
  have x4 := S0.out.cell 4
  have x5 := S0.out.cell 5
  have x6 := S0.out.cell 6
  have x7 := S0.out.cell 7
  have x8 := S0.out.cell 8
  have x9 := S0.out.cell 9
  have x10 := S0.out.cell 10
  have x11 := S0.out.cell 11
  have x12 := S0.out.cell 12
  simp only [stCells, List.getElem?_cons_succ, List.getElem?_cons_zero] at x0 x1 x2 x3 x4 x5 x6 x7 x8 x9 x10 x11 x12
  go_enter Tryz.func39, Tryz.ntmps39
  obtain ⟨b0, hb0⟩ : ∃ b, nameB name = b := ⟨_, rfl⟩
  have HB0 := Lib.hid hb0
  clear hb0
  go_wp2_with fail
  refine (rname_any name _ HN.out).mono ?_
  rintro e w1 ⟨he, hb1⟩
  rw [HB0.out] at he
  subst he
  have T0 := Lib.hid (S0.out.next hb1)
  clear x0 x2 x3 x4 x5 x6 x7 x8 x9 x10 x11 x12 x1 hb1 S0
  have x0 := T0.out.cell 0
  have x2 := T0.out.cell 2
  have x3 := T0.out.cell 3
  have x4 := T0.out.cell 4
  have x5 := T0.out.cell 5
  have x6 := T0.out.cell 6
  have x7 := T0.out.cell 7
  have x8 := T0.out.cell 8
  have x9 := T0.out.cell 9
  have x10 := T0.out.cell 10
  have x11 := T0.out.cell 11
  have x12 := T0.out.cell 12
  simp only [stCells, List.getElem?_cons_succ, List.getElem?_cons_zero] at x0 x2 x3 x4 x5 x6 x7 x8 x9 x10 x11 x12
  cases b0 with
  | false =>
    first
    | (exfalso; omega; done)
    | (obtain rfl : R0 = false := by rw [← HR0.out]; simp [fitB, HB0.out]
       go_wp2
       go_ret
       exact ⟨rfl, T0.out.bw⟩)
  | true =>
    by_cases q0 : 0 ≤ n
    case neg =>
      first
      | (exfalso; omega; done)
      | (obtain rfl : R0 = false := by rw [← HR0.out]; simp [fitB, layersB, HB0.out, q0]
         go_wp2
         go_ret
         exact ⟨rfl, T0.out.bw⟩)
    by_cases q1 : n ≤ 32767
    case neg =>
      first
      | (exfalso; omega; done)
      | (obtain rfl : R0 = false := by rw [← HR0.out]; simp [fitB, layersB, HB0.out, q0, q1]
         go_wp2
         go_ret
         exact ⟨rfl, T0.out.bw⟩)
    by_cases q2 : 0 ≤ k
    case neg =>
      first
      | (exfalso; omega; done)
      | (obtain rfl : R0 = false := by rw [← HR0.out]; simp [fitB, layersB, HB0.out, q0, q1, q2]
         go_wp2
         go_ret
         exact ⟨rfl, T0.out.bw⟩)
    by_cases q3 : k ≤ 32767
    case neg =>
      first
      | (exfalso; omega; done)
      | (obtain rfl : R0 = false := by rw [← HR0.out]; simp [fitB, layersB, HB0.out, q0, q1, q2, q3]
         go_wp2
         go_ret
         exact ⟨rfl, T0.out.bw⟩)
    by_cases q4 : d = 0
    case neg =>
      have fq4 := bne_of q4
      first
      | (exfalso; omega; done)
      | (obtain rfl : R0 = false := by rw [← HR0.out]; simp [fitB, layersB, HB0.out, q0, q1, q2, q3, q4]
         go_wp2
         go_ret
         exact ⟨rfl, T0.out.bw⟩)
    obtain ⟨b6, hb6⟩ : ∃ b, rightB xa 1 64 = b := ⟨_, rfl⟩
    have HC5 := Lib.hid hb6
    clear hb6
    go_wp2_with fail
    refine (right_any xa 1 64 _ _ (by decide) (by decide) (by decide) (by decide) HBA.out T0.out.na).mono ?_
    rintro e w105 ⟨he, hb105⟩
    rw [HC5.out] at he
    subst he
    have T1 := Lib.hid (T0.out.next hb105)
    clear x0 x2 x3 x4 x5 x6 x7 x8 x9 x10 x11 x12 hb105 T0
    have x0 := T1.out.cell 0
    have x2 := T1.out.cell 2
    have x3 := T1.out.cell 3
    have x4 := T1.out.cell 4
    have x5 := T1.out.cell 5
    have x6 := T1.out.cell 6
    have x7 := T1.out.cell 7
    have x8 := T1.out.cell 8
    have x9 := T1.out.cell 9
    have x10 := T1.out.cell 10
    have x11 := T1.out.cell 11
    have x12 := T1.out.cell 12
    simp only [stCells, List.getElem?_cons_succ, List.getElem?_cons_zero] at x0 x2 x3 x4 x5 x6 x7 x8 x9 x10 x11 x12
    cases b6 with
    | false =>
      first
      | (exfalso; omega; done)
      | (obtain rfl : R0 = false := by rw [← HR0.out]; simp [fitB, layersB, HB0.out, q0, q1, q2, q3, q4, HC5.out]
         go_wp2
         go_ret
         exact ⟨rfl, T1.out.bw⟩)
    | true =>
      obtain ⟨b7, hb7⟩ : ∃ b, noneB xb = b := ⟨_, rfl⟩
      have HC6 := Lib.hid hb7
      clear hb7
      go_wp2_with fail
      refine (none_any xb _ _ T1.out.nb).mono ?_
      rintro e w106 ⟨he, hb106⟩
      rw [HC6.out] at he
      subst he
      have T2 := Lib.hid (T1.out.next (below_still0 hb106))
      clear x0 x2 x3 x4 x5 x6 x7 x8 x9 x10 x11 x12 hb106 T1
      have x0 := T2.out.cell 0
      have x2 := T2.out.cell 2
      have x3 := T2.out.cell 3
      have x4 := T2.out.cell 4
      have x5 := T2.out.cell 5
      have x6 := T2.out.cell 6
      have x7 := T2.out.cell 7
      have x8 := T2.out.cell 8
      have x9 := T2.out.cell 9
      have x10 := T2.out.cell 10
      have x11 := T2.out.cell 11
      have x12 := T2.out.cell 12
      simp only [stCells, List.getElem?_cons_succ, List.getElem?_cons_zero] at x0 x2 x3 x4 x5 x6 x7 x8 x9 x10 x11 x12
      cases b7 with
      | false =>
        first
        | (exfalso; omega; done)
        | (obtain rfl : R0 = false := by rw [← HR0.out]; simp [fitB, layersB, HB0.out, q0, q1, q2, q3, q4, HC5.out, HC6.out]
           go_wp2
           go_ret
           exact ⟨rfl, T2.out.bw⟩)
      | true =>
        by_cases q7 : rule = 0
        case neg =>
          have fq7 := bne_of q7
          first
          | (exfalso; omega; done)
          | (obtain rfl : R0 = false := by rw [← HR0.out]; simp [fitB, layersB, HB0.out, q0, q1, q2, q3, q4, HC5.out, HC6.out, q7]
             go_wp2
             go_ret
             exact ⟨rfl, T2.out.bw⟩)
        first
        | (exfalso; omega; done)
        | (obtain rfl : R0 = true := by rw [← HR0.out]; simp [fitB, layersB, HB0.out, q0, q1, q2, q3, q4, HC5.out, HC6.out, q7]
           go_wp2
           go_ret
           exact ⟨rfl, T2.out.bw⟩)

end Go.Proofs.YtdjklnlkocconaaGreatDoor
