/-
  The parser's number, whatever the tokens: the walks.
-/
import Derived.Test.YtgnjaneddidbbaaDoorDeckE
namespace Go.Proofs.YtgnjaneddidbbaaDoor
open Go Go.RowKit

/-- Does the token fail to be a number from lo to hi? By which test. -/
theorem num_fail {t : Tok} {lo hi : Int} (h : (t.kind == 2 && decide (lo ≤ t.num) && decide (t.num ≤ hi)) = false) : (t.kind != 2) = true ∨ ((t.kind != 2) = false ∧ t.num < lo) ∨ ((t.kind != 2) = false ∧ lo ≤ t.num ∧ hi < t.num) := by
  by_cases h1 : t.kind = 2
  · simp [h1] at h ⊢
    omega
  · left; simp [h1]

set_option maxHeartbeats 1000000 in
set_option maxRecDepth 100000 in
theorem number_out (b n cap k : Nat) (a : Option Addr) (fin deep lo hi : Int) (ts : List Tok) (w : World) (h : PW w b (.slice a n cap) ts [] fin deep) (hkk : Hid (ts.length - ([] : List Tok).length = k)) (hk : n ≤ k) :
    Calls Tryd.prog 52 #[.pointer (some ⟨b, 0, none⟩), .int .i64 lo, .int .i64 hi] w fun e w' => Thrown (posOf [] fin) e ∧ w.grownBy w' (some b) := by
  obtain ⟨c0, c1, c2, c3, _, _⟩ := h.ps.cells
  rw [hkk.out] at c1
  have hd1 : decide (n ≤ k) = true := by simp; omega
  have hd2 : decide ((n : Int) ≤ (k : Int)) = true := by simp; omega
  clear c2 c3
  have H := Lib.hid h
  clear h
  go_enter Tryd.func52, Tryd.ntmps52
  go_wp2_with fail
  go_quiet (fail)
  go_wp2_with fail
  refine (fail_at b _ ts [] fin deep _ (H.out.drew _)).mono ?_
  rintro e w1 ⟨he, q, rfl⟩
  have HE := Lib.hid he
  clear he
  obtain rfl : e = _ := HE.out
  exact ⟨rfl, rfl, grown_trans (grown_drew _ _ _) (grown_drew _ q _)⟩

set_option maxHeartbeats 2000000 in
set_option maxRecDepth 100000 in
theorem number_bad (b g n cap k : Nat) (lv : Value) (ts r : List Tok) (fin deep lo hi : Int) (t : Tok) (w : World) (h : PW w b lv ts (t :: r) fin deep) (hlv : Hid (lv = .slice (some ⟨g, 0, none⟩) n cap)) (hkk : Hid (ts.length - (t :: r).length = k)) (hk : k < n)
    (h0 : w.cell? ⟨g, k * 4, none⟩ = some (.int .i64 t.kind)) (h2 : w.cell? ⟨g, k * 4 + 2, none⟩ = some (.int .i64 t.num)) (hf : (t.kind == 2 && decide (lo ≤ t.num) && decide (t.num ≤ hi)) = false) :
    Calls Tryd.prog 52 #[.pointer (some ⟨b, 0, none⟩), .int .i64 lo, .int .i64 hi] w fun e w' => Thrown (posOf (t :: r) fin) e ∧ w.grownBy w' (some b) := by
  obtain ⟨c0, c1, c2, c3, _, _⟩ := h.ps.cells
  rw [hlv.out] at c0
  rw [hkk.out] at c1
  clear c2 c3
  have H := Lib.hid h
  clear h
  have hd3 : decide (n ≤ k) = false := by simp; omega
  have hd4 : decide ((n : Int) ≤ (k : Int)) = false := by simp; omega
  rcases num_fail hf with hne | ⟨hne, hlo⟩ | ⟨hne, hlo, hhi⟩
  · clear hf
    go_enter Tryd.func52, Tryd.ntmps52
    go_wp2_with fail
    go_quiet (fail)
    go_wp2_with fail
    refine (fail_at b lv ts (t :: r) fin deep _ (H.out.drew _)).mono ?_
    rintro e w1 ⟨he, q, rfl⟩
    have HE := Lib.hid he
    clear he
    obtain rfl : e = _ := HE.out
    exact ⟨rfl, rfl, grown_trans (grown_drew _ _ _) (grown_drew _ q _)⟩
  · have hd1 : decide (t.num < lo) = true := by simpa using hlo
    clear hf
    go_enter Tryd.func52, Tryd.ntmps52
    go_wp2_with fail
    go_quiet (fail)
    go_wp2_with fail
    refine (fail_at b lv ts (t :: r) fin deep _ (H.out.drew _)).mono ?_
    rintro e w1 ⟨he, q, rfl⟩
    have HE := Lib.hid he
    clear he
    obtain rfl : e = _ := HE.out
    exact ⟨rfl, rfl, grown_trans (grown_drew _ _ _) (grown_drew _ q _)⟩
  · have hd1 : decide (t.num < lo) = false := by simp; omega
    have hd2 : decide (hi < t.num) = true := by simpa using hhi
    clear hf
    go_enter Tryd.func52, Tryd.ntmps52
    go_wp2_with fail
    go_quiet (fail)
    go_wp2_with fail
    refine (fail_at b lv ts (t :: r) fin deep _ (H.out.drew _)).mono ?_
    rintro e w1 ⟨he, q, rfl⟩
    have HE := Lib.hid he
    clear he
    obtain rfl : e = _ := HE.out
    exact ⟨rfl, rfl, grown_trans (grown_drew _ _ _) (grown_drew _ q _)⟩

set_option maxHeartbeats 2000000 in
set_option maxRecDepth 100000 in
theorem number_yes (b g n cap k : Nat) (lv : Value) (ts r : List Tok) (fin deep lo hi : Int) (t : Tok) (w : World) (h : PW w b lv ts (t :: r) fin deep) (hlv : Hid (lv = .slice (some ⟨g, 0, none⟩) n cap)) (hkk : Hid (ts.length - (t :: r).length = k)) (hk : k < n) (hn : n ≤ 9223372036854775807)
    (h0 : w.cell? ⟨g, k * 4, none⟩ = some (.int .i64 t.kind)) (h2 : w.cell? ⟨g, k * 4 + 2, none⟩ = some (.int .i64 t.num)) (hne : (t.kind != 2) = false) (hlo : lo ≤ t.num) (hhi : t.num ≤ hi) :
    Calls Tryd.prog 52 #[.pointer (some ⟨b, 0, none⟩), .int .i64 lo, .int .i64 hi] w fun e w' => e = .returned (.int .i64 t.num) ∧ w.grownBy w' (some b) ∧ PS w' b lv ((k : Int) + 1) fin deep := by
  obtain ⟨c0, c1, c2, c3, f1, _⟩ := h.ps.cells
  rw [hlv.out] at c0
  rw [hkk.out] at c1
  clear c2 c3
  have hd3 : decide (n ≤ k) = false := by simp; omega
  have hd4 : decide ((n : Int) ≤ (k : Int)) = false := by simp; omega
  have hd1 : decide (t.num < lo) = false := by simp; omega
  have hd2 : decide (hi < t.num) = false := by simp; omega
  have HP : Hid (PS w b lv k fin deep) := by
    have := h.ps
    rw [hkk.out] at this
    exact this
  clear h
  go_enter Tryd.func52, Tryd.ntmps52
  go_wp2_with fail
  go_quiet (fail)
  go_wp2_with fail
  go_quiet (fail)
  go_wp2
  go_ret
  exact ⟨rfl, grown_trans (grown_drew _ _ _) (grown_trans (grown_setCell _ ⟨b, 1, none⟩ _) (grown_drew _ _ _)), ((HP.out.drew _).set _).drew _⟩

theorem number_at (b : Nat) (lv : Value) (ts r : List Tok) (fin deep lo hi : Int) (w : World) (h : PW w b lv ts r fin deep) :
    Calls Tryd.prog 52 #[.pointer (some ⟨b, 0, none⟩), .int .i64 lo, .int .i64 hi] w fun e w' => Out w b lv ts fin deep RInt (pNum lo hi r) e w' := by
  cases r with
  | nil =>
    obtain ⟨hl, a, cap, rfl, _⟩ := h.row
    refine (number_out b ts.length cap _ a fin deep lo hi ts w h rfl (by simp)).mono fun e w' ⟨he, hg⟩ => ?_
    exact out_error rfl he hg
  | cons t r =>
    obtain ⟨g, cap, hlv, hg, hgb, hk, hn, h0, h1, h2, h3⟩ := h.tok
    cases hf : (t.kind == 2 && decide (lo ≤ t.num) && decide (t.num ≤ hi))
    · refine (number_bad b g ts.length cap _ lv ts r fin deep lo hi t w h hlv rfl hk h0 h2 hf).mono fun e w' ⟨he, hg⟩ => ?_
      exact out_error (by rw [pNum, hf]; rfl) he hg
    · have hf2 := hf
      simp only [Bool.and_eq_true, beq_iff_eq, decide_eq_true_eq] at hf2
      refine (number_yes b g ts.length cap _ lv ts r fin deep lo hi t w h hlv rfl hk hn h0 h2 (by simp [hf2.1.1]) hf2.1.2 hf2.2).mono ?_
      rintro e w' ⟨rfl, hg2, hp2⟩
      exact out_ok (by rw [pNum, hf]; rfl) rfl hg2 (h.tail hg2 hp2)
end Go.Proofs.YtgnjaneddidbbaaDoor
