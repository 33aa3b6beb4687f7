/-
  The law's known: the chapter's examples come out as they stand there.
-/
import Derived.Test.YtgnjaneddidbbaaDoorLexCZ
import Derived.Laws.StructEq
namespace Go.Proofs.YtgnjaneddidbbaaDoor
open Go Go.RowKit

theorem lexEnd_ok {B : Nat} {R : Except Nat (List Tok)} {e : Ending} {w' : World} {ts : List Tok} (h : LexEnd B R e w') (hR : R = .ok ts) :
    ∃ v, e = .returned (.tuple #[v, .int .i64 0, .int .i64 0]) ∧ w'.ownsRow B 31 4 v ts.length (ts.flatMap tokCells) := by
  rw [hR] at h
  exact h
theorem lexEnd_error {B : Nat} {R : Except Nat (List Tok)} {e : Ending} {w' : World} {k : Nat} (h : LexEnd B R e w') (hR : R = .error k) :
    e = .returned (.tuple #[.slice none 0 0, .int .i64 k, .int .i64 21]) := by
  rw [hR] at h
  exact h

theorem known1 : lexS [97, 49, 61, 50, 48, 44, 40, 98] = .ok [⟨1, [97, 49], 0, 0⟩, ⟨3, [61], 0, 2⟩, ⟨2, [50, 48], 20, 3⟩, ⟨3, [44], 0, 5⟩, ⟨3, [40], 0, 6⟩, ⟨1, [98], 0, 7⟩] := by rfl
theorem known2 : lexS [97, 32, 36] = .error 2 := by rfl
theorem known3 : lexS [48, 48, 55] = .error 0 := by rfl
theorem known4 : lexS [35, 32, 110, 111] = .ok [] := by rfl

set_option maxHeartbeats 1000000 in
set_option maxRecDepth 100000 in
theorem known22_any (w : World) (hg : Good w) :
    Calls Tryd.prog 13 #[] w fun e w' => e = .returned (.bool true) ∧ Below w.heap.size w w' := by
  go_enter Tryd.func13, Tryd.ntmps13
  go_wp2_with fail
  refine (tokens_any _ _ (by decide) hg).mono ?_
  rintro e w1 ⟨h1, hb1⟩
  obtain ⟨v1, rfl, hown1⟩ := lexEnd_ok h1 known1
  obtain ⟨g1, cap1, rfl, hB1, hg1, hc1, hcell1⟩ := owns_slice hown1 (by decide)
  have hG1 := hg.at hb1
  clear h1
  go_wp2_with fail
  refine (tokens_any _ _ (by decide) hG1).mono ?_
  rintro e w2 ⟨h2, hb2⟩
  obtain rfl := lexEnd_error h2 known2
  have hG2 := hG1.at hb2
  clear h2
  go_wp2_with fail
  refine (tokens_any _ _ (by decide) hG2).mono ?_
  rintro e w3 ⟨h3, hb3⟩
  obtain rfl := lexEnd_error h3 known3
  have hG3 := hG2.at hb3
  clear h3
  go_wp2_with fail
  refine (tokens_any _ _ (by decide) hG3).mono ?_
  rintro e w4 ⟨h4, hb4⟩
  obtain ⟨v4, rfl, hown4⟩ := lexEnd_ok h4 known4
  obtain ⟨a4, cap4, rfl⟩ := owns_nil hown4
  have e8 : w4.cell? ⟨g1, 8, none⟩ = some (.int .i64 2) := by
    rw [hb4.cell (by show g1 < _; have := hb2.size; have := hb3.size; omega), hb3.cell (by show g1 < _; have := hb2.size; omega), hb2.cell (by show g1 < _; omega)]
    exact hcell1 8 _ rfl
  have e9 : w4.cell? ⟨g1, 9, none⟩ = some (.string ⟨#[50, 48]⟩) := by
    rw [hb4.cell (by show g1 < _; have := hb2.size; have := hb3.size; omega), hb3.cell (by show g1 < _; have := hb2.size; omega), hb2.cell (by show g1 < _; omega)]
    exact hcell1 9 _ rfl
  have e10 : w4.cell? ⟨g1, 10, none⟩ = some (.int .i64 20) := by
    rw [hb4.cell (by show g1 < _; have := hb2.size; have := hb3.size; omega), hb3.cell (by show g1 < _; have := hb2.size; omega), hb2.cell (by show g1 < _; omega)]
    exact hcell1 10 _ rfl
  have e11 : w4.cell? ⟨g1, 11, none⟩ = some (.int .i64 3) := by
    rw [hb4.cell (by show g1 < _; have := hb2.size; have := hb3.size; omega), hb3.cell (by show g1 < _; have := hb2.size; omega), hb2.cell (by show g1 < _; omega)]
    exact hcell1 11 _ rfl
  have HB : Hid (Below w.heap.size w w4) := (((hb1.trans (hb2.mono hb1.size)).trans (hb3.mono (Nat.le_trans hb1.size hb2.size))).trans (hb4.mono (Nat.le_trans hb1.size (Nat.le_trans hb2.size hb3.size))))
  clear h4 hb1 hb2 hb3 hb4 hG1 hG2 hG3 hown1 hown4 hcell1
  go_wp2
  go_ret
  exact ⟨rfl, HB⟩

set_option maxHeartbeats 400000 in
theorem tokens_long (s : ByteArray) (w : World) (hs : 65536 < s.size) (hs2 : s.size ≤ maxLen) :
    Calls Tryd.prog 11 #[.string s] w fun e w' => e = .returned (.tuple #[.slice none 0 0, .int .i64 0, .int .i64 21]) ∧ w = w' := by
  unfold maxLen at hs2
  go_enter Tryd.func11, Tryd.ntmps11
  go_wp2
  go_step3
  go_wp2
  rw [Exit.noGoto_ret]
  exact ret3 rfl rfl ⟨rfl, rfl⟩

theorem tokens_every (s : ByteArray) (w : World) (hs : s.size ≤ maxLen) (hg : Good w) :
    Calls Tryd.prog 11 #[.string s] w fun e w' => LexEnd w.heap.size (lexS s.data.toList) e w' ∧ Below w.heap.size w w' := by
  by_cases h : 65536 < s.size
  · have hR : lexS s.data.toList = .error 0 := by rw [lexS, if_pos (by rw [← Lib.size_eq]; exact h)]
    rw [hR]
    exact (tokens_long s w h hs).mono fun e w' ⟨he, hw⟩ => ⟨he, by rw [← hw]; exact Below.refl _ _⟩
  · exact tokens_any s w (by omega) hg
end Go.Proofs.YtgnjaneddidbbaaDoor
