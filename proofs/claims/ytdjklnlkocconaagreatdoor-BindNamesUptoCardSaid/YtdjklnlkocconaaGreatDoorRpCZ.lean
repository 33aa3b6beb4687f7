/-
  The reference's right: the walk.
-/
import Derived.Test.YtdjklnlkocconaaGreatDoorRpXZ
namespace Go.Proofs.YtdjklnlkocconaaGreatDoor
open Go Go.RowKit

/-- All names are of lengths that are ints. -/
inductive NdB : Nd → Prop
  | mk (k : Int) (s : List UInt8) (l : List Nd) (hs : s.length ≤ maxLen) (hl : ∀ x ∈ l, NdB x) : NdB (.mk k s l)

theorem NdB.name {k : Int} {s : List UInt8} {l : List Nd} (h : NdB (.mk k s l)) : s.length ≤ maxLen := by cases h with | mk _ _ _ hs _ => exact hs
theorem NdB.kid {k : Int} {s : List UInt8} {l : List Nd} (h : NdB (.mk k s l)) : ∀ x ∈ l, NdB x := by cases h with | mk _ _ _ _ hl => exact hl

/-- What right does at a tree. -/
def RightC (n : Nd) : Prop := ∀ (least deep : Int) (v : Value) (w : World), 0 ≤ least → least ≤ 3 → -1 ≤ deep → deep ≤ 64 → NdB n → NdIs Any w n v →
  Calls Tryz.prog 71 #[v, .int .i64 least, .int .i64 deep] w fun e w' => e = .returned (.bool (rightB n least deep)) ∧ Below w.heap.size w w'

theorem below_still0 {w w' : World} (hg : w.grownBy w' none) : Below w.heap.size w w' := ⟨hg.os, hg.tape, hg.output, hg.size, fun k hk => hg.block k hk (by simp)⟩
theorem Blk3.below {w w' : World} {g : Nat} {x y z : Value} (h : Blk3 w g x y z) (hb : Below w.heap.size w w') : Blk3 w' g x y z := h.grown (grown_of_below hb none) (by simp)

theorem rightB_op (k : Int) (s : List UInt8) (l : List Nd) (least deep D : Int) (h : 4 ≤ k ∧ k ≤ 7) (hD : (if joinS k + 1 < least then deep - 1 else deep) = D) :
    rightB (.mk k s l) least deep = (match l with | [a, b] => decide (0 ≤ D) && s == [] && rightB a (joinS k + 1) D && rightB b (joinS k + 2) D | _ => false) := by
  subst hD
  rw [rightB_eq, if_neg (by omega), if_neg (by omega), if_pos h]
  match l with
  | [] => rfl
  | [_] => rfl
  | [_, _] => rfl
  | _ :: _ :: _ :: _ => rfl
section
variable {k : Int} {s : List UInt8} {l : List Nd} {least deep D : Int} (h : 4 ≤ k ∧ k ≤ 7) (hD : (if joinS k + 1 < least then deep - 1 else deep) = D)
include h hD
theorem right_neg (h0 : ¬ 0 ≤ D) : rightB (.mk k s l) least deep = false := by
  rw [rightB_op k s l least deep D h hD]
  match l with
  | [] => rfl
  | [_] => rfl
  | [_, _] => simp only [h0, decide_false, Bool.false_and]
  | _ :: _ :: _ :: _ => rfl
theorem right_name (hs : s ≠ []) : rightB (.mk k s l) least deep = false := by
  have h1 : (s == []) = false := by simpa using hs
  rw [rightB_op k s l least deep D h hD]
  match l with
  | [] => rfl
  | [_] => rfl
  | [_, _] => simp only [h1, Bool.and_false, Bool.false_and]
  | _ :: _ :: _ :: _ => rfl
theorem right_len (hl : l.length ≠ 2) : rightB (.mk k s l) least deep = false := by
  rw [rightB_op k s l least deep D h hD]
  match l, hl with
  | [], _ => rfl
  | [_], _ => rfl
  | [_, _], hl => exact absurd rfl hl
  | _ :: _ :: _ :: _, _ => rfl
end
theorem right_two {k : Int} {p q : Nd} {least deep D : Int} (h : 4 ≤ k ∧ k ≤ 7) (hD : (if joinS k + 1 < least then deep - 1 else deep) = D) (h0 : 0 ≤ D) :
    rightB (.mk k [] [p, q]) least deep = (rightB p (joinS k + 1) D && rightB q (joinS k + 2) D) := by
  rw [rightB_op k [] [p, q] least deep D h hD]
  simp only [h0, decide_true, Bool.true_and]
  rfl

set_option maxHeartbeats 8000000 in
set_option maxRecDepth 100000 in
theorem right_step (k : Int) (s : List UInt8) (l : List Nd) (ih : ∀ x ∈ l, RightC x) : RightC (.mk k s l) := by
  intro least deep v w hl0 hl1 hd0 hd1 hnb h
  unfold NdIs at h
  obtain ⟨a, c, rfl, hl, h1⟩ := h
  have H1 := Lib.hid (fun i x (hx : l[i]? = some x) => NdIs.part h1 hx)
  have HNM := Lib.hid hnb.name
  have HKB := Lib.hid hnb.kid
  clear h1 hnb
  have b1 := Blk3.new w (.int .i64 k) (.string (bs s)) (.slice a l.length c)
  have HA : Hid (w.grownBy (w.alloc (.cells #[.int .i64 k, .string (bs s), .slice a l.length c] 37)) none) := grown_alloc _ _ _
  obtain ⟨x0, x1, x2, _, _, _⟩ := b1.cells
  have BK := Lib.hid b1
  clear b1
  by_cases hk13 : k = 1 ∨ k = 3
  case pos =>
    have hR : rightB (.mk k s l) least deep = (nameB s && l.isEmpty) := by rw [rightB_eq, if_pos hk13]
    rw [hR]
    obtain ⟨b, hb⟩ : ∃ b, nameB s = b := ⟨_, rfl⟩
    have HB := Lib.hid hb
    rw [hb]
    clear hb hR
    rcases hk13 with rfl | rfl
    all_goals
      go_enter Tryz.func71, Tryz.ntmps71
      go_wp2_with fail
      refine (rname_any s _ HNM.out).mono ?_
      rintro e w1 ⟨he, hb1⟩
      rw [HB.out] at he
      subst he
      obtain ⟨z0, z1, z2, _, _, _⟩ := (BK.out.below hb1).cells
      have B1 : Hid (Below w.heap.size w w1) := (below_still0 HA.out).trans (hb1.mono HA.out.size)
      clear hb1 HB BK HA x0 x1 x2
      cases b with
      | false =>
        go_wp2
        go_ret
        exact ⟨by simp, B1.out⟩
      | true =>
        by_cases hl00 : l = []
        · subst hl00
          go_wp2
          go_ret
          exact ⟨rfl, B1.out⟩
        · have hn2 : ((l.length : Int) == 0) = false := by simpa using hl00
          have he2 : l.isEmpty = false := by cases l with | nil => exact absurd rfl hl00 | cons x l => rfl
          go_wp2
          go_ret
          exact ⟨by rw [he2]; rfl, B1.out⟩
  have hk1 : ¬ k = 1 := fun e => hk13 (.inl e)
  have hk3 : ¬ k = 3 := fun e => hk13 (.inr e)
  by_cases hk2 : k = 2
  case pos =>
    subst hk2
    have hR : rightB (.mk 2 s l) least deep = (s == [] && l.isEmpty) := by rw [rightB_eq, if_neg (by decide), if_pos rfl]
    rw [hR]
    clear hR
    by_cases hs : s = []
    · subst hs
      have hs2 : ((bs []).toList == []) = true := by rw [bs_toList]; rfl
      by_cases hl00 : l = []
      · subst hl00
        go_enter Tryz.func71, Tryz.ntmps71
        go_wp2
        go_ret
        exact ⟨rfl, below_still0 HA.out⟩
      · have hn2 : ((l.length : Int) == 0) = false := by simpa using hl00
        have he2 : l.isEmpty = false := by cases l with | nil => exact absurd rfl hl00 | cons x l => rfl
        go_enter Tryz.func71, Tryz.ntmps71
        go_wp2
        go_ret
        exact ⟨by rw [he2]; rfl, below_still0 HA.out⟩
    · have hs2 := bs_empty s hs
      have he2 : (s == []) = false := by simpa using hs
      go_enter Tryz.func71, Tryz.ntmps71
      go_wp2
      go_ret
      exact ⟨by rw [he2]; rfl, below_still0 HA.out⟩
  by_cases hk47 : 4 ≤ k ∧ k ≤ 7
  case neg =>
    have hR : rightB (.mk k s l) least deep = false := by rw [rightB_eq, if_neg hk13, if_neg hk2, if_neg hk47]
    have g1 : (k == 1) = false := by simpa using hk1
    have g2 : (k == 2) = false := by simpa using hk2
    have g3 : (k == 3) = false := by simpa using hk3
    have g4 : (k == 4) = false := by have : k ≠ 4 := (by omega); simpa using this
    have g5 : (k == 5) = false := by have : k ≠ 5 := (by omega); simpa using this
    have g6 : (k == 6) = false := by have : k ≠ 6 := (by omega); simpa using this
    have g7 : (k == 7) = false := by have : k ≠ 7 := (by omega); simpa using this
    rw [hR]
    clear hR hk13 hk47
    go_enter Tryz.func71, Tryz.ntmps71
    go_wp2
    go_ret
    exact ⟨rfl, below_still0 HA.out⟩
  have hk : k = 4 ∨ k = 5 ∨ k = 6 ∨ k = 7 := by omega
  clear hk13 hk1 hk3 hk2 hk47
  rcases hk with rfl | rfl | rfl | rfl
  · by_cases hlt : (2 : Int) < least
    case pos =>
      have HDD : Hid ((if joinS 4 + 1 < least then deep - 1 else deep) = (deep - 1)) := (by first | exact if_pos hlt | exact if_neg hlt)
      by_cases h0 : 0 ≤ (deep - 1)
      case neg =>
        have hF : rightB (.mk 4 s l) least deep = false := right_neg (by decide) HDD.out h0
        rw [hF]
        clear hF HDD H1 HKB BK HNM
        go_enter Tryz.func71, Tryz.ntmps71
        go_wp2
        go_ret
        exact ⟨rfl, below_still0 HA.out⟩
      by_cases hs : s = []
      case neg =>
        have hs2 := bs_empty s hs
        have hF : rightB (.mk 4 s l) least deep = false := right_name (by decide) HDD.out hs
        rw [hF]
        clear hF HDD H1 HKB BK HNM
        go_enter Tryz.func71, Tryz.ntmps71
        go_wp2
        go_ret
        exact ⟨rfl, below_still0 HA.out⟩
      subst hs
      have hs2 : ((bs []).toList == []) = true := by rw [bs_toList]; rfl
      by_cases hl2 : l.length = 2
      case neg =>
        have hn2 : ((l.length : Int) == 2) = false := by have : (l.length : Int) ≠ 2 := (by omega); simpa using this
        have hF : rightB (.mk 4 [] l) least deep = false := right_len (by decide) HDD.out hl2
        rw [hF]
        clear hF HDD H1 HKB BK HNM
        go_enter Tryz.func71, Tryz.ntmps71
        go_wp2
        go_ret
        exact ⟨rfl, below_still0 HA.out⟩
      obtain ⟨p, q, rfl⟩ : ∃ p q, l = [p, q] := by
        match l, hl2 with
        | [p, q], _ => exact ⟨p, q, rfl⟩
      have hF : rightB (.mk 4 [] [p, q]) least deep = (rightB p 2 (deep - 1) && rightB q 3 (deep - 1)) := right_two (by decide) HDD.out h0
      rw [hF]
      obtain ⟨bp, hbp⟩ : ∃ b, rightB p 2 (deep - 1) = b := ⟨_, rfl⟩
      obtain ⟨bq, hbq⟩ : ∃ b, rightB q 3 (deep - 1) = b := ⟨_, rfl⟩
      rw [hbp, hbq]
      have HP := Lib.hid hbp
      have HQ := Lib.hid hbq
      obtain ⟨g1, o1, rfl, q1⟩ := H1.out 0 p rfl
      obtain ⟨g2, o2, e2, q2⟩ := H1.out 1 q rfl
      cases e2
      obtain ⟨k1, s1, p1, m1, d1, ⟨e0, e1, e2⟩, n1⟩ := q1 _ HA.out
      have N1 := Lib.hid n1
      have HQ1 := Lib.hid q2
      have hlen : ([p, q] : List Nd).length = 2 := rfl
      rw [hlen] at x2 BK HA ⊢
      rw [hlen] at e0 e1 e2 N1
      simp only [Nat.zero_mul, Nat.add_zero] at e0 e1 e2
      clear hF hbp hbq n1 q1 q2 HDD H1 hlen
      go_enter Tryz.func71, Tryz.ntmps71
      go_wp2_with fail
      refine (ih p (by simp) 2 (deep - 1) _ _ (by decide) (by decide) (by omega) (by omega) (HKB.out p (by simp)) N1.out).mono ?_
      rintro e w1 ⟨he, hb1⟩
      rw [HP.out] at he
      subst he
      have B1 : Hid (Below w.heap.size w w1) := (below_still0 HA.out).trans (hb1.mono HA.out.size)
      have BK1 := Lib.hid (BK.out.below hb1)
      clear hb1 N1 BK HA x0 x1 x2 e0 e1 e2 HP
      cases bp with
      | false =>
        clear HQ1 BK1 HQ
        go_wp2
        go_ret
        exact ⟨by simp, B1.out⟩
      | true =>
        obtain ⟨x0, x1, x2, _, _, _⟩ := BK1.out.cells
        obtain ⟨k2, s2, p2, m2, d2, ⟨f0, f1, f2⟩, n2⟩ := HQ1.out w1 (grown_of_below B1.out none)
        have N2 := Lib.hid n2
        simp only [Nat.one_mul] at f0 f1 f2
        clear n2 HQ1 BK1
        go_wp2_with fail
        refine (ih q (by simp) 3 (deep - 1) _ _ (by decide) (by decide) (by omega) (by omega) (HKB.out q (by simp)) N2.out).mono ?_
        rintro e w2 ⟨he, hb2⟩
        rw [HQ.out] at he
        subst he
        have B2 : Hid (Below w.heap.size w w2) := B1.out.trans (hb2.mono B1.out.size)
        clear hb2 N2 B1 x0 x1 x2 f0 f1 f2 HQ
        cases bq with
        | false =>
          go_wp2
          go_ret
          exact ⟨rfl, B2.out⟩
        | true =>
          go_wp2
          go_ret
          exact ⟨rfl, B2.out⟩
    have HDD : Hid ((if joinS 4 + 1 < least then deep - 1 else deep) = deep) := (by first | exact if_pos hlt | exact if_neg hlt)
    by_cases h0 : 0 ≤ deep
    case neg =>
      have hF : rightB (.mk 4 s l) least deep = false := right_neg (by decide) HDD.out h0
      rw [hF]
      clear hF HDD H1 HKB BK HNM
      go_enter Tryz.func71, Tryz.ntmps71
      go_wp2
      go_ret
      exact ⟨rfl, below_still0 HA.out⟩
    by_cases hs : s = []
    case neg =>
      have hs2 := bs_empty s hs
      have hF : rightB (.mk 4 s l) least deep = false := right_name (by decide) HDD.out hs
      rw [hF]
      clear hF HDD H1 HKB BK HNM
      go_enter Tryz.func71, Tryz.ntmps71
      go_wp2
      go_ret
      exact ⟨rfl, below_still0 HA.out⟩
    subst hs
    have hs2 : ((bs []).toList == []) = true := by rw [bs_toList]; rfl
    by_cases hl2 : l.length = 2
    case neg =>
      have hn2 : ((l.length : Int) == 2) = false := by have : (l.length : Int) ≠ 2 := (by omega); simpa using this
      have hF : rightB (.mk 4 [] l) least deep = false := right_len (by decide) HDD.out hl2
      rw [hF]
      clear hF HDD H1 HKB BK HNM
      go_enter Tryz.func71, Tryz.ntmps71
      go_wp2
      go_ret
      exact ⟨rfl, below_still0 HA.out⟩
    obtain ⟨p, q, rfl⟩ : ∃ p q, l = [p, q] := by
      match l, hl2 with
      | [p, q], _ => exact ⟨p, q, rfl⟩
    have hF : rightB (.mk 4 [] [p, q]) least deep = (rightB p 2 deep && rightB q 3 deep) := right_two (by decide) HDD.out h0
    rw [hF]
    obtain ⟨bp, hbp⟩ : ∃ b, rightB p 2 deep = b := ⟨_, rfl⟩
    obtain ⟨bq, hbq⟩ : ∃ b, rightB q 3 deep = b := ⟨_, rfl⟩
    rw [hbp, hbq]
    have HP := Lib.hid hbp
    have HQ := Lib.hid hbq
    obtain ⟨g1, o1, rfl, q1⟩ := H1.out 0 p rfl
    obtain ⟨g2, o2, e2, q2⟩ := H1.out 1 q rfl
    cases e2
    obtain ⟨k1, s1, p1, m1, d1, ⟨e0, e1, e2⟩, n1⟩ := q1 _ HA.out
    have N1 := Lib.hid n1
    have HQ1 := Lib.hid q2
    have hlen : ([p, q] : List Nd).length = 2 := rfl
    rw [hlen] at x2 BK HA ⊢
    rw [hlen] at e0 e1 e2 N1
    simp only [Nat.zero_mul, Nat.add_zero] at e0 e1 e2
    clear hF hbp hbq n1 q1 q2 HDD H1 hlen
    go_enter Tryz.func71, Tryz.ntmps71
    go_wp2_with fail
    refine (ih p (by simp) 2 deep _ _ (by decide) (by decide) (by omega) (by omega) (HKB.out p (by simp)) N1.out).mono ?_
    rintro e w1 ⟨he, hb1⟩
    rw [HP.out] at he
    subst he
    have B1 : Hid (Below w.heap.size w w1) := (below_still0 HA.out).trans (hb1.mono HA.out.size)
    have BK1 := Lib.hid (BK.out.below hb1)
    clear hb1 N1 BK HA x0 x1 x2 e0 e1 e2 HP
    cases bp with
    | false =>
      clear HQ1 BK1 HQ
      go_wp2
      go_ret
      exact ⟨by simp, B1.out⟩
    | true =>
      obtain ⟨x0, x1, x2, _, _, _⟩ := BK1.out.cells
      obtain ⟨k2, s2, p2, m2, d2, ⟨f0, f1, f2⟩, n2⟩ := HQ1.out w1 (grown_of_below B1.out none)
      have N2 := Lib.hid n2
      simp only [Nat.one_mul] at f0 f1 f2
      clear n2 HQ1 BK1
      go_wp2_with fail
      refine (ih q (by simp) 3 deep _ _ (by decide) (by decide) (by omega) (by omega) (HKB.out q (by simp)) N2.out).mono ?_
      rintro e w2 ⟨he, hb2⟩
      rw [HQ.out] at he
      subst he
      have B2 : Hid (Below w.heap.size w w2) := B1.out.trans (hb2.mono B1.out.size)
      clear hb2 N2 B1 x0 x1 x2 f0 f1 f2 HQ
      cases bq with
      | false =>
        go_wp2
        go_ret
        exact ⟨rfl, B2.out⟩
      | true =>
        go_wp2
        go_ret
        exact ⟨rfl, B2.out⟩
  · by_cases hlt : (1 : Int) < least
    case pos =>
      have HDD : Hid ((if joinS 5 + 1 < least then deep - 1 else deep) = (deep - 1)) := (by first | exact if_pos hlt | exact if_neg hlt)
      by_cases h0 : 0 ≤ (deep - 1)
      case neg =>
        have hF : rightB (.mk 5 s l) least deep = false := right_neg (by decide) HDD.out h0
        rw [hF]
        clear hF HDD H1 HKB BK HNM
        go_enter Tryz.func71, Tryz.ntmps71
        go_wp2
        go_ret
        exact ⟨rfl, below_still0 HA.out⟩
      by_cases hs : s = []
      case neg =>
        have hs2 := bs_empty s hs
        have hF : rightB (.mk 5 s l) least deep = false := right_name (by decide) HDD.out hs
        rw [hF]
        clear hF HDD H1 HKB BK HNM
        go_enter Tryz.func71, Tryz.ntmps71
        go_wp2
        go_ret
        exact ⟨rfl, below_still0 HA.out⟩
      subst hs
      have hs2 : ((bs []).toList == []) = true := by rw [bs_toList]; rfl
      by_cases hl2 : l.length = 2
      case neg =>
        have hn2 : ((l.length : Int) == 2) = false := by have : (l.length : Int) ≠ 2 := (by omega); simpa using this
        have hF : rightB (.mk 5 [] l) least deep = false := right_len (by decide) HDD.out hl2
        rw [hF]
        clear hF HDD H1 HKB BK HNM
        go_enter Tryz.func71, Tryz.ntmps71
        go_wp2
        go_ret
        exact ⟨rfl, below_still0 HA.out⟩
      obtain ⟨p, q, rfl⟩ : ∃ p q, l = [p, q] := by
        match l, hl2 with
        | [p, q], _ => exact ⟨p, q, rfl⟩
      have hF : rightB (.mk 5 [] [p, q]) least deep = (rightB p 1 (deep - 1) && rightB q 2 (deep - 1)) := right_two (by decide) HDD.out h0
      rw [hF]
      obtain ⟨bp, hbp⟩ : ∃ b, rightB p 1 (deep - 1) = b := ⟨_, rfl⟩
      obtain ⟨bq, hbq⟩ : ∃ b, rightB q 2 (deep - 1) = b := ⟨_, rfl⟩
      rw [hbp, hbq]
      have HP := Lib.hid hbp
      have HQ := Lib.hid hbq
      obtain ⟨g1, o1, rfl, q1⟩ := H1.out 0 p rfl
      obtain ⟨g2, o2, e2, q2⟩ := H1.out 1 q rfl
      cases e2
      obtain ⟨k1, s1, p1, m1, d1, ⟨e0, e1, e2⟩, n1⟩ := q1 _ HA.out
      have N1 := Lib.hid n1
      have HQ1 := Lib.hid q2
      have hlen : ([p, q] : List Nd).length = 2 := rfl
      rw [hlen] at x2 BK HA ⊢
      rw [hlen] at e0 e1 e2 N1
      simp only [Nat.zero_mul, Nat.add_zero] at e0 e1 e2
      clear hF hbp hbq n1 q1 q2 HDD H1 hlen
      go_enter Tryz.func71, Tryz.ntmps71
      go_wp2_with fail
      refine (ih p (by simp) 1 (deep - 1) _ _ (by decide) (by decide) (by omega) (by omega) (HKB.out p (by simp)) N1.out).mono ?_
      rintro e w1 ⟨he, hb1⟩
      rw [HP.out] at he
      subst he
      have B1 : Hid (Below w.heap.size w w1) := (below_still0 HA.out).trans (hb1.mono HA.out.size)
      have BK1 := Lib.hid (BK.out.below hb1)
      clear hb1 N1 BK HA x0 x1 x2 e0 e1 e2 HP
      cases bp with
      | false =>
        clear HQ1 BK1 HQ
        go_wp2
        go_ret
        exact ⟨by simp, B1.out⟩
      | true =>
        obtain ⟨x0, x1, x2, _, _, _⟩ := BK1.out.cells
        obtain ⟨k2, s2, p2, m2, d2, ⟨f0, f1, f2⟩, n2⟩ := HQ1.out w1 (grown_of_below B1.out none)
        have N2 := Lib.hid n2
        simp only [Nat.one_mul] at f0 f1 f2
        clear n2 HQ1 BK1
        go_wp2_with fail
        refine (ih q (by simp) 2 (deep - 1) _ _ (by decide) (by decide) (by omega) (by omega) (HKB.out q (by simp)) N2.out).mono ?_
        rintro e w2 ⟨he, hb2⟩
        rw [HQ.out] at he
        subst he
        have B2 : Hid (Below w.heap.size w w2) := B1.out.trans (hb2.mono B1.out.size)
        clear hb2 N2 B1 x0 x1 x2 f0 f1 f2 HQ
        cases bq with
        | false =>
          go_wp2
          go_ret
          exact ⟨rfl, B2.out⟩
        | true =>
          go_wp2
          go_ret
          exact ⟨rfl, B2.out⟩
    have HDD : Hid ((if joinS 5 + 1 < least then deep - 1 else deep) = deep) := (by first | exact if_pos hlt | exact if_neg hlt)
    by_cases h0 : 0 ≤ deep
    case neg =>
      have hF : rightB (.mk 5 s l) least deep = false := right_neg (by decide) HDD.out h0
      rw [hF]
      clear hF HDD H1 HKB BK HNM
      go_enter Tryz.func71, Tryz.ntmps71
      go_wp2
      go_ret
      exact ⟨rfl, below_still0 HA.out⟩
    by_cases hs : s = []
    case neg =>
      have hs2 := bs_empty s hs
      have hF : rightB (.mk 5 s l) least deep = false := right_name (by decide) HDD.out hs
      rw [hF]
      clear hF HDD H1 HKB BK HNM
      go_enter Tryz.func71, Tryz.ntmps71
      go_wp2
      go_ret
      exact ⟨rfl, below_still0 HA.out⟩
    subst hs
    have hs2 : ((bs []).toList == []) = true := by rw [bs_toList]; rfl
    by_cases hl2 : l.length = 2
    case neg =>
      have hn2 : ((l.length : Int) == 2) = false := by have : (l.length : Int) ≠ 2 := (by omega); simpa using this
      have hF : rightB (.mk 5 [] l) least deep = false := right_len (by decide) HDD.out hl2
      rw [hF]
      clear hF HDD H1 HKB BK HNM
      go_enter Tryz.func71, Tryz.ntmps71
      go_wp2
      go_ret
      exact ⟨rfl, below_still0 HA.out⟩
    obtain ⟨p, q, rfl⟩ : ∃ p q, l = [p, q] := by
      match l, hl2 with
      | [p, q], _ => exact ⟨p, q, rfl⟩
    have hF : rightB (.mk 5 [] [p, q]) least deep = (rightB p 1 deep && rightB q 2 deep) := right_two (by decide) HDD.out h0
    rw [hF]
    obtain ⟨bp, hbp⟩ : ∃ b, rightB p 1 deep = b := ⟨_, rfl⟩
    obtain ⟨bq, hbq⟩ : ∃ b, rightB q 2 deep = b := ⟨_, rfl⟩
    rw [hbp, hbq]
    have HP := Lib.hid hbp
    have HQ := Lib.hid hbq
    obtain ⟨g1, o1, rfl, q1⟩ := H1.out 0 p rfl
    obtain ⟨g2, o2, e2, q2⟩ := H1.out 1 q rfl
    cases e2
    obtain ⟨k1, s1, p1, m1, d1, ⟨e0, e1, e2⟩, n1⟩ := q1 _ HA.out
    have N1 := Lib.hid n1
    have HQ1 := Lib.hid q2
    have hlen : ([p, q] : List Nd).length = 2 := rfl
    rw [hlen] at x2 BK HA ⊢
    rw [hlen] at e0 e1 e2 N1
    simp only [Nat.zero_mul, Nat.add_zero] at e0 e1 e2
    clear hF hbp hbq n1 q1 q2 HDD H1 hlen
    go_enter Tryz.func71, Tryz.ntmps71
    go_wp2_with fail
    refine (ih p (by simp) 1 deep _ _ (by decide) (by decide) (by omega) (by omega) (HKB.out p (by simp)) N1.out).mono ?_
    rintro e w1 ⟨he, hb1⟩
    rw [HP.out] at he
    subst he
    have B1 : Hid (Below w.heap.size w w1) := (below_still0 HA.out).trans (hb1.mono HA.out.size)
    have BK1 := Lib.hid (BK.out.below hb1)
    clear hb1 N1 BK HA x0 x1 x2 e0 e1 e2 HP
    cases bp with
    | false =>
      clear HQ1 BK1 HQ
      go_wp2
      go_ret
      exact ⟨by simp, B1.out⟩
    | true =>
      obtain ⟨x0, x1, x2, _, _, _⟩ := BK1.out.cells
      obtain ⟨k2, s2, p2, m2, d2, ⟨f0, f1, f2⟩, n2⟩ := HQ1.out w1 (grown_of_below B1.out none)
      have N2 := Lib.hid n2
      simp only [Nat.one_mul] at f0 f1 f2
      clear n2 HQ1 BK1
      go_wp2_with fail
      refine (ih q (by simp) 2 deep _ _ (by decide) (by decide) (by omega) (by omega) (HKB.out q (by simp)) N2.out).mono ?_
      rintro e w2 ⟨he, hb2⟩
      rw [HQ.out] at he
      subst he
      have B2 : Hid (Below w.heap.size w w2) := B1.out.trans (hb2.mono B1.out.size)
      clear hb2 N2 B1 x0 x1 x2 f0 f1 f2 HQ
      cases bq with
      | false =>
        go_wp2
        go_ret
        exact ⟨rfl, B2.out⟩
      | true =>
        go_wp2
        go_ret
        exact ⟨rfl, B2.out⟩
  · by_cases hlt : (1 : Int) < least
    case pos =>
      have HDD : Hid ((if joinS 6 + 1 < least then deep - 1 else deep) = (deep - 1)) := (by first | exact if_pos hlt | exact if_neg hlt)
      by_cases h0 : 0 ≤ (deep - 1)
      case neg =>
        have hF : rightB (.mk 6 s l) least deep = false := right_neg (by decide) HDD.out h0
        rw [hF]
        clear hF HDD H1 HKB BK HNM
        go_enter Tryz.func71, Tryz.ntmps71
        go_wp2
        go_ret
        exact ⟨rfl, below_still0 HA.out⟩
      by_cases hs : s = []
      case neg =>
        have hs2 := bs_empty s hs
        have hF : rightB (.mk 6 s l) least deep = false := right_name (by decide) HDD.out hs
        rw [hF]
        clear hF HDD H1 HKB BK HNM
        go_enter Tryz.func71, Tryz.ntmps71
        go_wp2
        go_ret
        exact ⟨rfl, below_still0 HA.out⟩
      subst hs
      have hs2 : ((bs []).toList == []) = true := by rw [bs_toList]; rfl
      by_cases hl2 : l.length = 2
      case neg =>
        have hn2 : ((l.length : Int) == 2) = false := by have : (l.length : Int) ≠ 2 := (by omega); simpa using this
        have hF : rightB (.mk 6 [] l) least deep = false := right_len (by decide) HDD.out hl2
        rw [hF]
        clear hF HDD H1 HKB BK HNM
        go_enter Tryz.func71, Tryz.ntmps71
        go_wp2
        go_ret
        exact ⟨rfl, below_still0 HA.out⟩
      obtain ⟨p, q, rfl⟩ : ∃ p q, l = [p, q] := by
        match l, hl2 with
        | [p, q], _ => exact ⟨p, q, rfl⟩
      have hF : rightB (.mk 6 [] [p, q]) least deep = (rightB p 1 (deep - 1) && rightB q 2 (deep - 1)) := right_two (by decide) HDD.out h0
      rw [hF]
      obtain ⟨bp, hbp⟩ : ∃ b, rightB p 1 (deep - 1) = b := ⟨_, rfl⟩
      obtain ⟨bq, hbq⟩ : ∃ b, rightB q 2 (deep - 1) = b := ⟨_, rfl⟩
      rw [hbp, hbq]
      have HP := Lib.hid hbp
      have HQ := Lib.hid hbq
      obtain ⟨g1, o1, rfl, q1⟩ := H1.out 0 p rfl
      obtain ⟨g2, o2, e2, q2⟩ := H1.out 1 q rfl
      cases e2
      obtain ⟨k1, s1, p1, m1, d1, ⟨e0, e1, e2⟩, n1⟩ := q1 _ HA.out
      have N1 := Lib.hid n1
      have HQ1 := Lib.hid q2
      have hlen : ([p, q] : List Nd).length = 2 := rfl
      rw [hlen] at x2 BK HA ⊢
      rw [hlen] at e0 e1 e2 N1
      simp only [Nat.zero_mul, Nat.add_zero] at e0 e1 e2
      clear hF hbp hbq n1 q1 q2 HDD H1 hlen
      go_enter Tryz.func71, Tryz.ntmps71
      go_wp2_with fail
      refine (ih p (by simp) 1 (deep - 1) _ _ (by decide) (by decide) (by omega) (by omega) (HKB.out p (by simp)) N1.out).mono ?_
      rintro e w1 ⟨he, hb1⟩
      rw [HP.out] at he
      subst he
      have B1 : Hid (Below w.heap.size w w1) := (below_still0 HA.out).trans (hb1.mono HA.out.size)
      have BK1 := Lib.hid (BK.out.below hb1)
      clear hb1 N1 BK HA x0 x1 x2 e0 e1 e2 HP
      cases bp with
      | false =>
        clear HQ1 BK1 HQ
        go_wp2
        go_ret
        exact ⟨by simp, B1.out⟩
      | true =>
        obtain ⟨x0, x1, x2, _, _, _⟩ := BK1.out.cells
        obtain ⟨k2, s2, p2, m2, d2, ⟨f0, f1, f2⟩, n2⟩ := HQ1.out w1 (grown_of_below B1.out none)
        have N2 := Lib.hid n2
        simp only [Nat.one_mul] at f0 f1 f2
        clear n2 HQ1 BK1
        go_wp2_with fail
        refine (ih q (by simp) 2 (deep - 1) _ _ (by decide) (by decide) (by omega) (by omega) (HKB.out q (by simp)) N2.out).mono ?_
        rintro e w2 ⟨he, hb2⟩
        rw [HQ.out] at he
        subst he
        have B2 : Hid (Below w.heap.size w w2) := B1.out.trans (hb2.mono B1.out.size)
        clear hb2 N2 B1 x0 x1 x2 f0 f1 f2 HQ
        cases bq with
        | false =>
          go_wp2
          go_ret
          exact ⟨rfl, B2.out⟩
        | true =>
          go_wp2
          go_ret
          exact ⟨rfl, B2.out⟩
    have HDD : Hid ((if joinS 6 + 1 < least then deep - 1 else deep) = deep) := (by first | exact if_pos hlt | exact if_neg hlt)
    by_cases h0 : 0 ≤ deep
    case neg =>
      have hF : rightB (.mk 6 s l) least deep = false := right_neg (by decide) HDD.out h0
      rw [hF]
      clear hF HDD H1 HKB BK HNM
      go_enter Tryz.func71, Tryz.ntmps71
      go_wp2
      go_ret
      exact ⟨rfl, below_still0 HA.out⟩
    by_cases hs : s = []
    case neg =>
      have hs2 := bs_empty s hs
      have hF : rightB (.mk 6 s l) least deep = false := right_name (by decide) HDD.out hs
      rw [hF]
      clear hF HDD H1 HKB BK HNM
      go_enter Tryz.func71, Tryz.ntmps71
      go_wp2
      go_ret
      exact ⟨rfl, below_still0 HA.out⟩
    subst hs
    have hs2 : ((bs []).toList == []) = true := by rw [bs_toList]; rfl
    by_cases hl2 : l.length = 2
    case neg =>
      have hn2 : ((l.length : Int) == 2) = false := by have : (l.length : Int) ≠ 2 := (by omega); simpa using this
      have hF : rightB (.mk 6 [] l) least deep = false := right_len (by decide) HDD.out hl2
      rw [hF]
      clear hF HDD H1 HKB BK HNM
      go_enter Tryz.func71, Tryz.ntmps71
      go_wp2
      go_ret
      exact ⟨rfl, below_still0 HA.out⟩
    obtain ⟨p, q, rfl⟩ : ∃ p q, l = [p, q] := by
      match l, hl2 with
      | [p, q], _ => exact ⟨p, q, rfl⟩
    have hF : rightB (.mk 6 [] [p, q]) least deep = (rightB p 1 deep && rightB q 2 deep) := right_two (by decide) HDD.out h0
    rw [hF]
    obtain ⟨bp, hbp⟩ : ∃ b, rightB p 1 deep = b := ⟨_, rfl⟩
    obtain ⟨bq, hbq⟩ : ∃ b, rightB q 2 deep = b := ⟨_, rfl⟩
    rw [hbp, hbq]
    have HP := Lib.hid hbp
    have HQ := Lib.hid hbq
    obtain ⟨g1, o1, rfl, q1⟩ := H1.out 0 p rfl
    obtain ⟨g2, o2, e2, q2⟩ := H1.out 1 q rfl
    cases e2
    obtain ⟨k1, s1, p1, m1, d1, ⟨e0, e1, e2⟩, n1⟩ := q1 _ HA.out
    have N1 := Lib.hid n1
    have HQ1 := Lib.hid q2
    have hlen : ([p, q] : List Nd).length = 2 := rfl
    rw [hlen] at x2 BK HA ⊢
    rw [hlen] at e0 e1 e2 N1
    simp only [Nat.zero_mul, Nat.add_zero] at e0 e1 e2
    clear hF hbp hbq n1 q1 q2 HDD H1 hlen
    go_enter Tryz.func71, Tryz.ntmps71
    go_wp2_with fail
    refine (ih p (by simp) 1 deep _ _ (by decide) (by decide) (by omega) (by omega) (HKB.out p (by simp)) N1.out).mono ?_
    rintro e w1 ⟨he, hb1⟩
    rw [HP.out] at he
    subst he
    have B1 : Hid (Below w.heap.size w w1) := (below_still0 HA.out).trans (hb1.mono HA.out.size)
    have BK1 := Lib.hid (BK.out.below hb1)
    clear hb1 N1 BK HA x0 x1 x2 e0 e1 e2 HP
    cases bp with
    | false =>
      clear HQ1 BK1 HQ
      go_wp2
      go_ret
      exact ⟨by simp, B1.out⟩
    | true =>
      obtain ⟨x0, x1, x2, _, _, _⟩ := BK1.out.cells
      obtain ⟨k2, s2, p2, m2, d2, ⟨f0, f1, f2⟩, n2⟩ := HQ1.out w1 (grown_of_below B1.out none)
      have N2 := Lib.hid n2
      simp only [Nat.one_mul] at f0 f1 f2
      clear n2 HQ1 BK1
      go_wp2_with fail
      refine (ih q (by simp) 2 deep _ _ (by decide) (by decide) (by omega) (by omega) (HKB.out q (by simp)) N2.out).mono ?_
      rintro e w2 ⟨he, hb2⟩
      rw [HQ.out] at he
      subst he
      have B2 : Hid (Below w.heap.size w w2) := B1.out.trans (hb2.mono B1.out.size)
      clear hb2 N2 B1 x0 x1 x2 f0 f1 f2 HQ
      cases bq with
      | false =>
        go_wp2
        go_ret
        exact ⟨rfl, B2.out⟩
      | true =>
        go_wp2
        go_ret
        exact ⟨rfl, B2.out⟩
  · by_cases hlt : (1 : Int) < least
    case pos =>
      have HDD : Hid ((if joinS 7 + 1 < least then deep - 1 else deep) = (deep - 1)) := (by first | exact if_pos hlt | exact if_neg hlt)
      by_cases h0 : 0 ≤ (deep - 1)
      case neg =>
        have hF : rightB (.mk 7 s l) least deep = false := right_neg (by decide) HDD.out h0
        rw [hF]
        clear hF HDD H1 HKB BK HNM
        go_enter Tryz.func71, Tryz.ntmps71
        go_wp2
        go_ret
        exact ⟨rfl, below_still0 HA.out⟩
      by_cases hs : s = []
      case neg =>
        have hs2 := bs_empty s hs
        have hF : rightB (.mk 7 s l) least deep = false := right_name (by decide) HDD.out hs
        rw [hF]
        clear hF HDD H1 HKB BK HNM
        go_enter Tryz.func71, Tryz.ntmps71
        go_wp2
        go_ret
        exact ⟨rfl, below_still0 HA.out⟩
      subst hs
      have hs2 : ((bs []).toList == []) = true := by rw [bs_toList]; rfl
      by_cases hl2 : l.length = 2
      case neg =>
        have hn2 : ((l.length : Int) == 2) = false := by have : (l.length : Int) ≠ 2 := (by omega); simpa using this
        have hF : rightB (.mk 7 [] l) least deep = false := right_len (by decide) HDD.out hl2
        rw [hF]
        clear hF HDD H1 HKB BK HNM
        go_enter Tryz.func71, Tryz.ntmps71
        go_wp2
        go_ret
        exact ⟨rfl, below_still0 HA.out⟩
      obtain ⟨p, q, rfl⟩ : ∃ p q, l = [p, q] := by
        match l, hl2 with
        | [p, q], _ => exact ⟨p, q, rfl⟩
      have hF : rightB (.mk 7 [] [p, q]) least deep = (rightB p 1 (deep - 1) && rightB q 2 (deep - 1)) := right_two (by decide) HDD.out h0
      rw [hF]
      obtain ⟨bp, hbp⟩ : ∃ b, rightB p 1 (deep - 1) = b := ⟨_, rfl⟩
      obtain ⟨bq, hbq⟩ : ∃ b, rightB q 2 (deep - 1) = b := ⟨_, rfl⟩
      rw [hbp, hbq]
      have HP := Lib.hid hbp
      have HQ := Lib.hid hbq
      obtain ⟨g1, o1, rfl, q1⟩ := H1.out 0 p rfl
      obtain ⟨g2, o2, e2, q2⟩ := H1.out 1 q rfl
      cases e2
      obtain ⟨k1, s1, p1, m1, d1, ⟨e0, e1, e2⟩, n1⟩ := q1 _ HA.out
      have N1 := Lib.hid n1
      have HQ1 := Lib.hid q2
      have hlen : ([p, q] : List Nd).length = 2 := rfl
      rw [hlen] at x2 BK HA ⊢
      rw [hlen] at e0 e1 e2 N1
      simp only [Nat.zero_mul, Nat.add_zero] at e0 e1 e2
      clear hF hbp hbq n1 q1 q2 HDD H1 hlen
      go_enter Tryz.func71, Tryz.ntmps71
      go_wp2_with fail
      refine (ih p (by simp) 1 (deep - 1) _ _ (by decide) (by decide) (by omega) (by omega) (HKB.out p (by simp)) N1.out).mono ?_
      rintro e w1 ⟨he, hb1⟩
      rw [HP.out] at he
      subst he
      have B1 : Hid (Below w.heap.size w w1) := (below_still0 HA.out).trans (hb1.mono HA.out.size)
      have BK1 := Lib.hid (BK.out.below hb1)
      clear hb1 N1 BK HA x0 x1 x2 e0 e1 e2 HP
      cases bp with
      | false =>
        clear HQ1 BK1 HQ
        go_wp2
        go_ret
        exact ⟨by simp, B1.out⟩
      | true =>
        obtain ⟨x0, x1, x2, _, _, _⟩ := BK1.out.cells
        obtain ⟨k2, s2, p2, m2, d2, ⟨f0, f1, f2⟩, n2⟩ := HQ1.out w1 (grown_of_below B1.out none)
        have N2 := Lib.hid n2
        simp only [Nat.one_mul] at f0 f1 f2
        clear n2 HQ1 BK1
        go_wp2_with fail
        refine (ih q (by simp) 2 (deep - 1) _ _ (by decide) (by decide) (by omega) (by omega) (HKB.out q (by simp)) N2.out).mono ?_
        rintro e w2 ⟨he, hb2⟩
        rw [HQ.out] at he
        subst he
        have B2 : Hid (Below w.heap.size w w2) := B1.out.trans (hb2.mono B1.out.size)
        clear hb2 N2 B1 x0 x1 x2 f0 f1 f2 HQ
        cases bq with
        | false =>
          go_wp2
          go_ret
          exact ⟨rfl, B2.out⟩
        | true =>
          go_wp2
          go_ret
          exact ⟨rfl, B2.out⟩
    have HDD : Hid ((if joinS 7 + 1 < least then deep - 1 else deep) = deep) := (by first | exact if_pos hlt | exact if_neg hlt)
    by_cases h0 : 0 ≤ deep
    case neg =>
      have hF : rightB (.mk 7 s l) least deep = false := right_neg (by decide) HDD.out h0
      rw [hF]
      clear hF HDD H1 HKB BK HNM
      go_enter Tryz.func71, Tryz.ntmps71
      go_wp2
      go_ret
      exact ⟨rfl, below_still0 HA.out⟩
    by_cases hs : s = []
    case neg =>
      have hs2 := bs_empty s hs
      have hF : rightB (.mk 7 s l) least deep = false := right_name (by decide) HDD.out hs
      rw [hF]
      clear hF HDD H1 HKB BK HNM
      go_enter Tryz.func71, Tryz.ntmps71
      go_wp2
      go_ret
      exact ⟨rfl, below_still0 HA.out⟩
    subst hs
    have hs2 : ((bs []).toList == []) = true := by rw [bs_toList]; rfl
    by_cases hl2 : l.length = 2
    case neg =>
      have hn2 : ((l.length : Int) == 2) = false := by have : (l.length : Int) ≠ 2 := (by omega); simpa using this
      have hF : rightB (.mk 7 [] l) least deep = false := right_len (by decide) HDD.out hl2
      rw [hF]
      clear hF HDD H1 HKB BK HNM
      go_enter Tryz.func71, Tryz.ntmps71
      go_wp2
      go_ret
      exact ⟨rfl, below_still0 HA.out⟩
    obtain ⟨p, q, rfl⟩ : ∃ p q, l = [p, q] := by
      match l, hl2 with
      | [p, q], _ => exact ⟨p, q, rfl⟩
    have hF : rightB (.mk 7 [] [p, q]) least deep = (rightB p 1 deep && rightB q 2 deep) := right_two (by decide) HDD.out h0
    rw [hF]
    obtain ⟨bp, hbp⟩ : ∃ b, rightB p 1 deep = b := ⟨_, rfl⟩
    obtain ⟨bq, hbq⟩ : ∃ b, rightB q 2 deep = b := ⟨_, rfl⟩
    rw [hbp, hbq]
    have HP := Lib.hid hbp
    have HQ := Lib.hid hbq
    obtain ⟨g1, o1, rfl, q1⟩ := H1.out 0 p rfl
    obtain ⟨g2, o2, e2, q2⟩ := H1.out 1 q rfl
    cases e2
    obtain ⟨k1, s1, p1, m1, d1, ⟨e0, e1, e2⟩, n1⟩ := q1 _ HA.out
    have N1 := Lib.hid n1
    have HQ1 := Lib.hid q2
    have hlen : ([p, q] : List Nd).length = 2 := rfl
    rw [hlen] at x2 BK HA ⊢
    rw [hlen] at e0 e1 e2 N1
    simp only [Nat.zero_mul, Nat.add_zero] at e0 e1 e2
    clear hF hbp hbq n1 q1 q2 HDD H1 hlen
    go_enter Tryz.func71, Tryz.ntmps71
    go_wp2_with fail
    refine (ih p (by simp) 1 deep _ _ (by decide) (by decide) (by omega) (by omega) (HKB.out p (by simp)) N1.out).mono ?_
    rintro e w1 ⟨he, hb1⟩
    rw [HP.out] at he
    subst he
    have B1 : Hid (Below w.heap.size w w1) := (below_still0 HA.out).trans (hb1.mono HA.out.size)
    have BK1 := Lib.hid (BK.out.below hb1)
    clear hb1 N1 BK HA x0 x1 x2 e0 e1 e2 HP
    cases bp with
    | false =>
      clear HQ1 BK1 HQ
      go_wp2
      go_ret
      exact ⟨by simp, B1.out⟩
    | true =>
      obtain ⟨x0, x1, x2, _, _, _⟩ := BK1.out.cells
      obtain ⟨k2, s2, p2, m2, d2, ⟨f0, f1, f2⟩, n2⟩ := HQ1.out w1 (grown_of_below B1.out none)
      have N2 := Lib.hid n2
      simp only [Nat.one_mul] at f0 f1 f2
      clear n2 HQ1 BK1
      go_wp2_with fail
      refine (ih q (by simp) 2 deep _ _ (by decide) (by decide) (by omega) (by omega) (HKB.out q (by simp)) N2.out).mono ?_
      rintro e w2 ⟨he, hb2⟩
      rw [HQ.out] at he
      subst he
      have B2 : Hid (Below w.heap.size w w2) := B1.out.trans (hb2.mono B1.out.size)
      clear hb2 N2 B1 x0 x1 x2 f0 f1 f2 HQ
      cases bq with
      | false =>
        go_wp2
        go_ret
        exact ⟨rfl, B2.out⟩
      | true =>
        go_wp2
        go_ret
        exact ⟨rfl, B2.out⟩

theorem right_all (f : Nat) : ∀ n : Nd, SizeOf.sizeOf n ≤ f → RightC n := by
  induction f with
  | zero => intro n h; cases n; simp at h
  | succ f ih =>
    intro n h
    cases n with
    | mk k s l =>
      refine right_step k s l fun x hx => ih x ?_
      have := List.sizeOf_lt_of_mem hx
      simp at h
      omega
theorem right_any (n : Nd) : RightC n := right_all _ n (Nat.le_refl _)
end Go.Proofs.YtdjklnlkocconaaGreatDoor
