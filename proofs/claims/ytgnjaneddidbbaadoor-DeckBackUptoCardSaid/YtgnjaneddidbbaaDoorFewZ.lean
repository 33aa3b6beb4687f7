/-
  The reference's Size, and the law's few: they answer; memory stays.
-/
import Derived.Test.YtgnjaneddidbbaaDoorSmAZ
import Derived.Deep.RegionHeld3
namespace Go.Proofs.YtgnjaneddidbbaaDoor
open Go Go.RowKit

/-- What Size does at a tree. -/
def SizeC (n : Nd) : Prop := ∀ (most : Int) (v : Value) (w : World), 1 ≤ most → most ≤ 300 → NdIs Any w n v →
  Calls Tryd.prog 39 #[v, .int .i64 most] w fun e w' => (∃ q : Int, e = .returned (.int .i64 q) ∧ 1 ≤ q ∧ q ≤ most) ∧ w.grownBy w' none

def SzAt (w : World) (n : Nat) (most : Int) (k : Nat) (u z : Value) (wr : World) : Prop := ∃ (i : Nat) (q : Int), u = .int .i64 q ∧ z = .int .i64 i ∧ i ≤ n ∧ n < k + i ∧ 1 ≤ q ∧ q ≤ most ∧ w.grownBy wr none

set_option maxHeartbeats 2000000 in
set_option maxRecDepth 100000 in
theorem size_step (k : Int) (s : List UInt8) (l : List Nd) (ih : ∀ x ∈ l, SizeC x) : SizeC (.mk k s l) := by
  intro most v1 w hm1 hm2 h1
  unfold NdIs at h1
  obtain ⟨a1, c1, rfl, hl, h1⟩ := h1
  have H1 := Lib.hid (fun i x (hx : l[i]? = some x) => NdIs.part h1 hx)
  clear h1
  obtain ⟨n, hln⟩ : ∃ n, l.length = n := ⟨_, rfl⟩
  rw [hln] at hl ⊢
  have HLN := Lib.hid hln
  clear hln
  have b1 := Blk3.new w (.int .i64 k) (.string (bs s)) (.slice a1 n c1)
  have B1 := Lib.hid b1
  obtain ⟨x0, x1, x2, _, _, _⟩ := b1.cells
  have HA : Hid (w.grownBy (w.alloc (.cells #[.int .i64 k, .string (bs s), .slice a1 n c1] 71)) none) := grown_alloc _ _ _
  clear b1
  go_enter Tryd.func39, Tryd.ntmps39
  go_wp2_with fail
  clear x0 x1 x2
  generalize (w.alloc (.cells #[.int .i64 k, .string (bs s), .slice a1 n c1] 71)) = w2 at *
  go_loopg [5, 6] (n + 1) (fun k u z wr => Hid (SzAt w2 n most k u z wr))
  case atStart => exact ⟨0, 1, rfl, rfl, Nat.zero_le _, by omega, by omega, by omega, grown_refl _ _⟩
  case round =>
    obtain ⟨i, q, rfl, rfl, hi, hk, hq1, hq2, hg⟩ := hrel.out
    have HG := Lib.hid hg
    clear hrel hg
    obtain ⟨_, _, x2, _, _, _⟩ := (B1.out.grown HG.out (by simp)).cells
    by_cases hlt : i < n
    · have hd1 : decide (i < n) = true := by simp; omega
      have hd2 : decide ((i : Int) < (n : Int)) = true := by simp; omega
      by_cases hqm : q < most
      · obtain ⟨x, hx⟩ : ∃ x, l[i]? = some x := ⟨l[i]'(by rw [HLN.out]; exact hlt), List.getElem?_eq_getElem _⟩
        have HX := Lib.hid (List.mem_of_getElem? hx)
        obtain ⟨g1, o1, rfl, q1⟩ := H1.out i x hx
        obtain ⟨k1, s1, p1, m1, d1, ⟨e0, e1, e2⟩, n1⟩ := q1 wr (grown_trans HA.out HG.out)
        have N1 := Lib.hid n1
        clear n1 q1 hx
        go_wp2_with fail
        refine (ih x HX.out (most - q) _ _ (by omega) (by omega) N1.out).mono ?_
        rintro e w4 ⟨⟨q2, rfl, hq3, hq4⟩, hg4⟩
        have HG4 : Hid (w2.grownBy w4 none) := grown_trans HG.out hg4
        clear hg4 N1 HG e0 e1 e2 x2
        go_wp2
        go_roundg (gk - 1)
        case measure => omega
        case rel => exact ⟨i + 1, q + q2, by go_num, by go_num, by omega, by omega, by omega, by omega, HG4.out⟩
      · go_wp2
        go_ret
        exact ⟨⟨q, rfl, hq1, hq2⟩, grown_trans HA.out HG.out⟩
    · have hd1 : decide (i < n) = false := by simp; omega
      have hd2 : decide ((i : Int) < (n : Int)) = false := by simp; omega
      go_wp2
      go_ret
      exact ⟨⟨q, rfl, hq1, hq2⟩, grown_trans HA.out HG.out⟩

theorem size_all (f : Nat) : ∀ n : Nd, SizeOf.sizeOf n ≤ f → SizeC n := by
  induction f with
  | zero => intro n h; cases n; simp at h
  | succ f ih =>
    intro n h
    cases n with
    | mk k s l =>
      refine size_step k s l fun x hx => ih x ?_
      have := List.sizeOf_lt_of_mem hx
      simp at h
      omega
theorem size_any (n : Nd) : SizeC n := size_all _ n (Nat.le_refl _)

theorem grown_cell {w w' : World} {g j : Nat} (h : w.grownBy w' none) (hl : g < w.heap.size) : w'.cell? ⟨g, j, none⟩ = w.cell? ⟨g, j, none⟩ := World.cell?_of_block (a := ⟨g, j, none⟩) (h.block g hl (by simp))

theorem few_sum (q a b c : Int) (h0 : 0 ≤ q) (h1 : q ≤ 2000) (h2 : 1 ≤ a) (h3 : a ≤ 300) (h4 : 1 ≤ b) (h5 : b ≤ 300) (hc : c = q + a + b - 1) : Value.int .i64 (IntKind.i64.wrap (IntKind.i64.wrap (IntKind.i64.wrap (q + a) + b) - 1)) = .int .i64 c := by
  rw [wrap_small (q + a) (by omega) (by omega), wrap_small (q + a + b) (by omega) (by omega), wrap_small _ (by omega) (by omega), hc]

def FewAt (w : World) (n : Nat) (k : Nat) (u z : Value) (wr : World) : Prop := ∃ (i : Nat) (q : Int), u = .int .i64 q ∧ z = .int .i64 i ∧ i ≤ n ∧ n < k + i ∧ 0 ≤ q ∧ q ≤ 2000 ∧ w.grownBy wr none

set_option maxHeartbeats 4000000 in
set_option maxRecDepth 100000 in
theorem few_any (l : List St) (v : Value) (w : World) (h : StsIs w v l) :
    Calls Tryd.prog 19 #[v] w fun e w' => (∃ b, e = .returned (.bool b)) ∧ w.grownBy w' none := by
  have H := Lib.hid h
  obtain ⟨hn, a, c, rfl, _⟩ := h
  obtain ⟨n, hln⟩ : ∃ n, l.length = n := ⟨_, rfl⟩
  rw [hln] at hn H ⊢
  have HLN := Lib.hid hln
  clear hln
  go_enter Tryd.func19, Tryd.ntmps19
  go_wp2_with fail
  go_loopg [3, 4] (n + 1) (fun k u z wr => Hid (FewAt w n k u z wr))
  case atStart => exact ⟨0, 0, rfl, rfl, Nat.zero_le _, by omega, by omega, by omega, grown_refl _ _⟩
  case round =>
    obtain ⟨i, q, rfl, rfl, hi, hk, hq1, hq2, hg⟩ := hrel.out
    have HG := Lib.hid hg
    clear hrel hg
    by_cases hcont : i < n ∧ q < 1200
    · obtain ⟨hlt, hqm⟩ := hcont
      have hd1 : decide (i < n) = true := by simp; omega
      have hd2 : decide ((i : Int) < (n : Int)) = true := by simp; omega
      obtain ⟨x, hx⟩ : ∃ x, l[i]? = some x := ⟨l[i]'(by rw [HLN.out]; exact hlt), List.getElem?_eq_getElem _⟩
      obtain ⟨g1, o1, cap1, e1, hl1, A, B, q1, na, nb⟩ := (H.out.still HG.out).get hx
      injection e1 with e1a e1b e1c
      subst e1a e1c
      obtain ⟨kind, name, xa, xb, rule, N, d, K, snap⟩ := x
      have x1 := q1 1 (by decide)
      have x2 := q1 2 (by decide)
      have x3 := q1 3 (by decide)
      have x4 := q1 4 (by decide)
      have x5 := q1 5 (by decide)
      have x6 := q1 6 (by decide)
      have x7 := q1 7 (by decide)
      simp only [stCells, List.getElem?_cons_succ, List.getElem?_cons_zero] at x1 x2 x3 x4 x5 x6 x7
      have NA := Lib.hid na
      have NB := Lib.hid nb
      have HD : Hid (wr.grownBy wr.drew none) := grown_drew wr 1 none
      have HL1 := Lib.hid hl1
      have X := Lib.hid (And.intro x1 (And.intro x2 (And.intro x3 (And.intro x4 (And.intro x5 (And.intro x6 x7))))))
      clear na nb q1 hx e1b
      go_wp2_with fail
      go_region_held3 (fun w' => w'.cell? ⟨g1, o1 + i * 13 + 2, none⟩ = some (.int .i64 A.k) ∧ w'.cell? ⟨g1, o1 + i * 13 + 3, none⟩ = some (.string A.s) ∧ w'.cell? ⟨g1, o1 + i * 13 + 4, none⟩ = some (.slice A.a A.n A.c) ∧ w'.cell? ⟨g1, o1 + i * 13 + 5, none⟩ = some (.int .i64 B.k) ∧ w'.cell? ⟨g1, o1 + i * 13 + 6, none⟩ = some (.string B.s) ∧ w'.cell? ⟨g1, o1 + i * 13 + 7, none⟩ = some (.slice B.a B.n B.c)) (first | exact ⟨x2, x3, x4, x5, x6, x7⟩ | exact ⟨y2, y3, y4, y5, y6, y7⟩ | exact ⟨z2, z3, z4, z5, z6, z7⟩)
        (first
          | (go_at_call 39; have SA2 := SA; (first | refine (size_any xa 300 _ _ (by decide) (by decide) (by exact NA.out.still SA2.out)).mono ?_ | refine (size_any xb 300 _ _ (by decide) (by decide) (by exact NB.out.still SA2.out)).mono ?_); rintro e wi ⟨⟨qb, rfl, hq5, hq6⟩, hg⟩; have SF : Hid (wr.grownBy wi none) := grown_trans SA2.out hg; have z2 := (grown_cell SF.out hl1).trans x2; have z3 := (grown_cell SF.out hl1).trans x3; have z4 := (grown_cell SF.out hl1).trans x4; have z5 := (grown_cell SF.out hl1).trans x5; have z6 := (grown_cell SF.out hl1).trans x6; have z7 := (grown_cell SF.out hl1).trans x7; clear hg)
          | (go_at_call 39; (first | refine (size_any xa 300 _ _ (by decide) (by decide) (by exact NA.out.still HD.out)).mono ?_ | refine (size_any xb 300 _ _ (by decide) (by decide) (by exact NB.out.still HD.out)).mono ?_); rintro e wi ⟨⟨qa, rfl, hq3, hq4⟩, hg⟩; have SA : Hid (wr.grownBy wi none) := grown_trans HD.out hg; have y2 := (grown_cell SA.out hl1).trans x2; have y3 := (grown_cell SA.out hl1).trans x3; have y4 := (grown_cell SA.out hl1).trans x4; have y5 := (grown_cell SA.out hl1).trans x5; have y6 := (grown_cell SA.out hl1).trans x6; have y7 := (grown_cell SA.out hl1).trans x7; clear hg))
      all_goals
        clear x1 x2 x3 x4 x5 x6 x7 HD
        try clear y2 y3 y4 y5 y6 y7 SA SA2
        try clear z2 z3 z4 z5 z6 z7
        have z1 := (grown_cell SF.out HL1.out).trans X.out.1
        have HGF : Hid (w.grownBy wi none) := grown_trans HG.out SF.out
        by_cases hbig : 100000 < (bs name).size
        · go_wp2
          go_ret
          exact ⟨by first | exact .inl rfl | exact .inr rfl | exact ⟨_, rfl⟩, HGF.out⟩
        · go_wp2
          go_roundg (gk - 1)
          case measure => omega
          case rel => exact ⟨i + 1, q + qa + qb - 1, (by first | exact few_sum q qa qb _ (by omega) (by omega) (by omega) (by omega) (by omega) (by omega) (by omega) | exact few_sum q qb qa _ (by omega) (by omega) (by omega) (by omega) (by omega) (by omega) (by omega)), by go_num, by omega, by omega, by omega, by omega, HGF.out⟩
    · by_cases hlt : i < n
      · have hqm : ¬ q < 1200 := by omega
        have hd1 : decide (i < n) = true := by simp; omega
        have hd2 : decide ((i : Int) < (n : Int)) = true := by simp; omega
        by_cases h11 : n ≤ 1100
        · go_wp2
          go_ret
          exact ⟨by first | exact .inl rfl | exact .inr rfl | exact ⟨_, rfl⟩, HG.out⟩
        · go_wp2
          go_ret
          exact ⟨by first | exact .inl rfl | exact .inr rfl | exact ⟨_, rfl⟩, HG.out⟩
      · have hd1 : decide (i < n) = false := by simp; omega
        have hd2 : decide ((i : Int) < (n : Int)) = false := by simp; omega
        by_cases h11 : n ≤ 1100
        · go_wp2
          go_ret
          exact ⟨by first | exact .inl rfl | exact .inr rfl | exact ⟨_, rfl⟩, HG.out⟩
        · go_wp2
          go_ret
          exact ⟨by first | exact .inl rfl | exact .inr rfl | exact ⟨_, rfl⟩, HG.out⟩
end Go.Proofs.YtgnjaneddidbbaaDoor
