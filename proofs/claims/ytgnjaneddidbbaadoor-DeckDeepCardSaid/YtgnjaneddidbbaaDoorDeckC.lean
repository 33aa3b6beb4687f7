/-
  The parser's name and number: the walks.
-/
import Derived.Test.YtgnjaneddidbbaaDoorDeckB
namespace Go.Proofs.YtgnjaneddidbbaaDoor
open Go Go.RowKit

theorem PS.drew {w : World} {b : Nat} {lv : Value} {k fin deep : Int} (h : PS w b lv k fin deep) (q : Nat) : PS (w.drewN q) b lv k fin deep := h
theorem TokRow.drew {w : World} {lv : Value} {ts : List Tok} (h : TokRow w lv ts) (q : Nat) : TokRow (w.drewN q) lv ts := h

theorem grown_trans {a b c : World} {row : Option Nat} (h : a.grownBy b row) (k : b.grownBy c row) : a.grownBy c row :=
  ⟨k.os.trans h.os, k.tape.trans h.tape, k.output.trans h.output, Nat.le_trans h.size k.size, fun i hi hr => (k.block i (Nat.lt_of_lt_of_le hi h.size) hr).trans (h.block i hi hr)⟩
theorem grown_drew (w : World) (q : Nat) (row : Option Nat) : w.grownBy (w.drewN q) row := ⟨rfl, rfl, rfl, Nat.le_refl _, fun _ _ _ => rfl⟩
theorem PS.below {w w' : World} {b : Nat} {lv : Value} {k fin deep : Int} (h : PS w b lv k fin deep) (hb : Below w.heap.size w w') (hl : b < w.heap.size) : PS w' b lv k fin deep := (hb.block b hl).trans h

theorem taken_is (x : List UInt8) (r : Bool) (w : World) (hr : Hid (takenL.contains x = r)) :
    Calls Tryd.prog 81 #[.string (bs x)] w fun e w' => e = .returned (.bool r) ∧ Below w.heap.size w w' := by
  rw [← hr.out]
  exact taken_any x w

set_option maxHeartbeats 1000000 in
set_option maxRecDepth 100000 in
theorem name_yes (b g n cap k : Nat) (fin deep : Int) (t : Tok) (w : World) (hs : PS w b (.slice (some ⟨g, 0, none⟩) n cap) k fin deep) (hk : k < n) (hn : n ≤ 9223372036854775807) (hgb : g ≠ b) (hg : g < w.heap.size) (hb : b < w.heap.size)
    (h0 : w.cell? ⟨g, k * 4, none⟩ = some (.int .i64 t.kind)) (h1 : w.cell? ⟨g, k * 4 + 1, none⟩ = some (.string (bs t.text))) (hkind : (t.kind == 1) = true) (htk : Hid (takenL.contains t.text = false)) :
    Calls Tryd.prog 49 #[.pointer (some ⟨b, 0, none⟩)] w fun e w' => e = .returned (.string (bs t.text)) ∧ w.grownBy w' (some b) ∧ PS w' b (.slice (some ⟨g, 0, none⟩) n cap) ((k : Int) + 1) fin deep := by
  obtain ⟨c0, c1, c2, c3, f1, _⟩ := hs.cells
  have HS := Lib.hid hs
  have hne : (t.kind != 1) = false := by simpa using hkind
  clear hs c2 c3
  go_enter Tryd.func49, Tryd.ntmps49
  go_wp2_with fail
  go_still_tail 36, (by kernel_rfl)
  change wpList _ _ _ _ _ w.drew
  have HG : Hid (w.grownBy w.drew (some b)) := ⟨rfl, rfl, rfl, Nat.le_refl _, fun _ _ _ => rfl⟩
  have hz : w.drew.heap.size = w.heap.size := rfl
  have HS2 : Hid (PS w.drew b (.slice (some ⟨g, 0, none⟩) n cap) k fin deep) := HS.out
  have d0 : w.drew.cell? ⟨b, 0, none⟩ = some (.slice (some ⟨g, 0, none⟩) n cap) := c0
  have d1 : w.drew.cell? ⟨b, 1, none⟩ = some (.int .i64 k) := c1
  have e0 : w.drew.cell? ⟨g, k * 4, none⟩ = some (.int .i64 t.kind) := h0
  have e1 : w.drew.cell? ⟨g, k * 4 + 1, none⟩ = some (.string (bs t.text)) := h1
  rw [← hz] at hg hb
  clear c0 c1 h0 h1 f1 hz HS
  generalize w.drew = w2 at *
  go_wp2_with (go_at_call 81; refine (taken_is _ _ _ htk).mono ?_; rintro e w5 ⟨rfl, hb5⟩)
  have hps : PS w5 b (.slice (some ⟨g, 0, none⟩) n cap) k fin deep := HS2.out.below hb5 hb
  have e15 : w5.cell? ⟨g, k * 4 + 1, none⟩ = some (.string (bs t.text)) := (hb5.cell (by show g < _; exact hg)).trans e1
  refine (take_any b g n cap k fin deep t.text w5 hps hk hn hgb e15).mono ?_
  rintro e w6 ⟨rfl, q, rfl⟩
  have HB5 := Lib.hid hb5
  have HPS := Lib.hid ((hps.set ((k : Int) + 1)).drew q)
  clear hb5 e15 d0 d1 e0 e1 hps
  go_wp2
  go_ret
  exact ⟨rfl, grown_trans (grown_trans HG.out (grown_of_below HB5.out _)) (grown_trans (grown_setCell w5 ⟨b, 1, none⟩ _) (grown_drew _ q _)), HPS.out⟩
end Go.Proofs.YtgnjaneddidbbaaDoor
