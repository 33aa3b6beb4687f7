/-
  The parser's name and number, whatever the tokens: the walks.
-/
import Derived.Test.YtgnjaneddidbbaaDoorDeckE
import Derived.Test.YtgnjaneddidbbaaDoorDeckD
namespace Go.Proofs.YtgnjaneddidbbaaDoor
open Go Go.RowKit

set_option maxHeartbeats 1000000 in
set_option maxRecDepth 100000 in
theorem name_kind (b g n cap k : Nat) (lv : Value) (ts r : List Tok) (fin deep : Int) (t : Tok) (w : World) (h : PW w b lv ts (t :: r) fin deep) (hlv : Hid (lv = .slice (some ⟨g, 0, none⟩) n cap)) (hkk : Hid (ts.length - (t :: r).length = k)) (hk : k < n)
    (h0 : w.cell? ⟨g, k * 4, none⟩ = some (.int .i64 t.kind)) (hkind : (t.kind == 1) = false) :
    Calls Tryd.prog 49 #[.pointer (some ⟨b, 0, none⟩)] w fun e w' => Thrown (posOf (t :: r) fin) e ∧ w.grownBy w' (some b) := by
  obtain ⟨c0, c1, c2, c3, _, _⟩ := h.ps.cells
  rw [hlv.out] at c0
  rw [hkk.out] at c1
  have hne : (t.kind != 1) = true := by simpa using hkind
  have hd3 : decide (n ≤ k) = false := by simp; omega
  have hd4 : decide ((n : Int) ≤ (k : Int)) = false := by simp; omega
  clear c2 c3
  have H := Lib.hid h
  clear h
  go_enter Tryd.func49, Tryd.ntmps49
  go_wp2_with fail
  go_quiet (fail)
  go_wp2_with fail
  refine (fail_at b lv ts (t :: r) fin deep _ (H.out.drew _)).mono ?_
  rintro e w1 ⟨he, q, rfl⟩
  have HE := Lib.hid he
  clear he
  obtain rfl : e = _ := HE.out
  exact ⟨rfl, rfl, grown_trans (grown_drew _ _ _) (grown_drew _ q _)⟩

theorem name_at (b : Nat) (lv : Value) (ts r : List Tok) (fin deep : Int) (w : World) (h : PW w b lv ts r fin deep) :
    Calls Tryd.prog 49 #[.pointer (some ⟨b, 0, none⟩)] w fun e w' => Out w b lv ts fin deep RStr (pName r) e w' := by
  cases r with
  | nil =>
    have hp := h.ps
    obtain ⟨hl, a, cap, rfl, _⟩ := h.row
    refine (name_out b ts.length cap _ a fin deep w hp (by simp)).mono fun e w' ⟨he, hg⟩ => ?_
    exact out_error rfl he hg
  | cons t r =>
    obtain ⟨g, cap, hlv, hg, hgb, hk, hn, h0, h1, h2, h3⟩ := h.tok
    cases hkind : (t.kind == 1)
    · refine (name_kind b g ts.length cap _ lv ts r fin deep t w h hlv rfl hk h0 hkind).mono fun e w' ⟨he, hg⟩ => ?_
      exact out_error (by rw [pName, hkind]; rfl) he hg
    · cases htk : takenL.contains t.text
      · have hps := h.ps
        rw [hlv] at hps
        refine (name_yes b g ts.length cap _ fin deep t w hps hk hn hgb hg h.lt h0 h1 hkind htk).mono fun e w' ⟨he, hg, hp⟩ => ?_
        subst he
        rw [← hlv] at hp
        exact out_ok (by rw [pName, hkind, htk]; rfl) rfl hg (h.tail hg hp)
      · refine (name_taken b g ts.length cap _ lv ts r fin deep t w h hlv rfl hk h0 h1 hkind htk).mono fun e w' ⟨he, hg⟩ => ?_
        exact out_error (by rw [pName, hkind, htk]; rfl) he hg
end Go.Proofs.YtgnjaneddidbbaaDoor
