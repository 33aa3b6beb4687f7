/-
  The parser's name, number, must: the walks, whatever the tokens.
-/
import Derived.Test.YtgnjaneddidbbaaDoorDeckM
namespace Go.Proofs.YtgnjaneddidbbaaDoor
open Go Go.RowKit

/-- What is known of the token at which the parser stands. -/
theorem PW.tok {w : World} {b : Nat} {lv : Value} {ts r : List Tok} {t : Tok} {fin deep : Int} (h : PW w b lv ts (t :: r) fin deep) :
    ∃ g cap, lv = .slice (some ⟨g, 0, none⟩) ts.length cap ∧ g < w.heap.size ∧ g ≠ b ∧ ts.length - (t :: r).length < ts.length ∧ ts.length ≤ 9223372036854775807 ∧
      w.cell? ⟨g, (ts.length - (t :: r).length) * 4, none⟩ = some (.int .i64 t.kind) ∧ w.cell? ⟨g, (ts.length - (t :: r).length) * 4 + 1, none⟩ = some (.string (bs t.text)) ∧
      w.cell? ⟨g, (ts.length - (t :: r).length) * 4 + 2, none⟩ = some (.int .i64 t.num) ∧ w.cell? ⟨g, (ts.length - (t :: r).length) * 4 + 3, none⟩ = some (.int .i64 t.pos) := by
  obtain ⟨h1, h2, h3, h4⟩ := rest_cons h.rest
  obtain ⟨hl, a, cap, rfl, hc⟩ := h.row
  rcases hc with rfl | ⟨g, rfl, hg, hc⟩
  · simp at h2
  · refine ⟨g, cap, rfl, hg, Nat.ne_of_lt (h.off _ _ _ rfl), by omega, hl, ?_, ?_, ?_, ?_⟩
    · exact hc _ _ (tok_cell ts _ _ 0 _ h4 rfl)
    · exact hc _ _ (tok_cell ts _ _ 1 _ h4 rfl)
    · exact hc _ _ (tok_cell ts _ _ 2 _ h4 rfl)
    · exact hc _ _ (tok_cell ts _ _ 3 _ h4 rfl)

theorem failPos_eq {ts r : List Tok} (fin : Int) (h : ts.drop (ts.length - r.length) = r) : failPos ts (ts.length - r.length) fin = posOf r fin := by
  unfold failPos posOf
  cases r with
  | nil => simp
  | cons t r => rw [(rest_cons h).2.2.2]

theorem fail_at (b : Nat) (lv : Value) (ts r : List Tok) (fin deep : Int) (w : World) (h : PW w b lv ts r fin deep) :
    Calls Tryd.prog 30 #[.pointer (some ⟨b, 0, none⟩)] w fun e w' => Thrown (posOf r fin) e ∧ ∃ q, w' = w.drewN q := by
  have := fail_any b (ts.length - r.length) lv ts fin deep w h.ps h.row
  rwa [failPos_eq fin h.rest] at this

theorem PW.tail {w : World} {b : Nat} {lv : Value} {ts r : List Tok} {t : Tok} {fin deep : Int} (h : PW w b lv ts (t :: r) fin deep) {w' : World} (hg : w.grownBy w' (some b)) (hp : PS w' b lv (((ts.length - (t :: r).length : Nat) : Int) + 1) fin deep) : PW w' b lv ts r fin deep := by
  obtain ⟨h1, h2, h3, h4⟩ := rest_cons h.rest
  refine h.moved hg ?_ h1
  rw [← h3]
  exact hp

theorem take_at (b : Nat) (lv : Value) (ts r : List Tok) (t : Tok) (fin deep : Int) (w : World) (h : PW w b lv ts (t :: r) fin deep) :
    Calls Tryd.prog 48 #[.pointer (some ⟨b, 0, none⟩)] w fun e w' => e = .returned (.string (bs t.text)) ∧ w.grownBy w' (some b) ∧ PW w' b lv ts r fin deep := by
  obtain ⟨g, cap, rfl, hg, hgb, hk, hn, h0, h1, h2, h3⟩ := h.tok
  refine (take_any b g ts.length cap _ fin deep t.text w h.ps hk hn hgb h1).mono ?_
  rintro e w' ⟨rfl, q, rfl⟩
  have hg2 : w.grownBy ((w.setCell ⟨b, 1, none⟩ (.int .i64 (((ts.length - (t :: r).length : Nat) : Int) + 1))).drewN q) (some b) := grown_trans (grown_setCell w ⟨b, 1, none⟩ _) (grown_drew _ q _)
  exact ⟨rfl, hg2, h.tail hg2 (h.ps.set _)⟩

/-- Has the next token, a word or a sign, one of these texts? -/
def seesR (r : List Tok) (xs : List (List UInt8)) : Bool := match r with | [] => false | t :: _ => t.kind != 2 && xs.contains t.text

theorem sees_at (b : Nat) (lv : Value) (ts r : List Tok) (fin deep : Int) (tv : Value) (xs : List (List UInt8)) (w : World) (h : PW w b lv ts r fin deep) (hx : TxtRow w tv xs) :
    Calls Tryd.prog 47 #[.pointer (some ⟨b, 0, none⟩), tv] w fun e w' => e = .returned (.bool (seesR r xs)) ∧ ∃ q, w' = w.drewN q := by
  have := sees_any b (ts.length - r.length) lv ts fin deep tv xs w h.ps h.row hx
  unfold seesB at this
  cases r with
  | nil => rw [rest_nil, List.getElem?_eq_none (Nat.le_refl _)] at this; exact this
  | cons t r => rw [(rest_cons h.rest).2.2.2] at this; exact this

set_option maxHeartbeats 1000000 in
set_option maxRecDepth 100000 in
theorem name_taken (b g n cap k : Nat) (lv : Value) (ts r : List Tok) (fin deep : Int) (t : Tok) (w : World) (h : PW w b lv ts (t :: r) fin deep) (hlv : Hid (lv = .slice (some ⟨g, 0, none⟩) n cap)) (hkk : Hid (ts.length - (t :: r).length = k)) (hk : k < n)
    (h0 : w.cell? ⟨g, k * 4, none⟩ = some (.int .i64 t.kind)) (h1 : w.cell? ⟨g, k * 4 + 1, none⟩ = some (.string (bs t.text))) (hkind : (t.kind == 1) = true) (htk : Hid (takenL.contains t.text = true)) :
    Calls Tryd.prog 49 #[.pointer (some ⟨b, 0, none⟩)] w fun e w' => Thrown (posOf (t :: r) fin) e ∧ w.grownBy w' (some b) := by
  obtain ⟨c0, c1, c2, c3, f1, _⟩ := h.ps.cells
  rw [hlv.out] at c0
  rw [hkk.out] at c1
  have hb := h.lt
  have hne : (t.kind != 1) = false := by simpa using hkind
  clear c2 c3
  have H := Lib.hid h
  clear h
  go_enter Tryd.func49, Tryd.ntmps49
  go_wp2_with fail
  go_still_tail 36, (by kernel_rfl)
  change wpList _ _ _ _ _ w.drew
  have HG : Hid (w.grownBy w.drew none) := ⟨rfl, rfl, rfl, Nat.le_refl _, fun _ _ _ => rfl⟩
  have d0 : w.drew.cell? ⟨b, 0, none⟩ = some (.slice (some ⟨g, 0, none⟩) n cap) := c0
  have d1 : w.drew.cell? ⟨b, 1, none⟩ = some (.int .i64 k) := c1
  have e0 : w.drew.cell? ⟨g, k * 4, none⟩ = some (.int .i64 t.kind) := h0
  have e1 : w.drew.cell? ⟨g, k * 4 + 1, none⟩ = some (.string (bs t.text)) := h1
  have H2 : Hid (PW w.drew b lv ts (t :: r) fin deep) := H.out.grown HG.out
  clear c0 c1 h0 h1 f1 H
  generalize w.drew = w2 at *
  go_wp2_with (go_at_call 81; refine (taken_is _ _ _ htk).mono ?_; rintro e w5 ⟨rfl, hb5⟩)
  have hps : PW w5 b lv ts (t :: r) fin deep := H2.out.grown (grown_of_below hb5 _)
  have HB5 := Lib.hid hb5
  clear hb5 d0 d1 e0 e1
  refine (fail_at b lv ts (t :: r) fin deep w5 hps).mono ?_
  rintro e w6 ⟨he, q, rfl⟩
  have HE := Lib.hid he
  clear he
  obtain rfl : e = _ := HE.out
  exact ⟨rfl, rfl, grown_trans (grown_trans ⟨HG.out.os, HG.out.tape, HG.out.output, HG.out.size, fun k hk _ => HG.out.block k hk (by simp)⟩ (grown_of_below HB5.out _)) (grown_drew _ q _)⟩
end Go.Proofs.YtgnjaneddidbbaaDoor
