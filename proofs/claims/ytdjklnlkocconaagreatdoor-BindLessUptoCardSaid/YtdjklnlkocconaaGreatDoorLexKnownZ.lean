/-
  What lex.Tokens gives, by its outcome; of every string.
-/
import Derived.Test.YtdjklnlkocconaaGreatDoorLexCZ
import Derived.Laws.StructEq
namespace Go.Proofs.YtdjklnlkocconaaGreatDoor
open Go Go.RowKit

theorem lexEnd_ok {B : Nat} {R : Except Nat (List Tok)} {e : Ending} {w' : World} {ts : List Tok} (h : LexEnd B R e w') (hR : R = .ok ts) :
    ∃ v, e = .returned (.tuple #[v, .int .i64 0, .int .i64 0]) ∧ w'.ownsRow B 88 4 v ts.length (ts.flatMap tokCells) := by
  rw [hR] at h
  exact h
theorem lexEnd_error {B : Nat} {R : Except Nat (List Tok)} {e : Ending} {w' : World} {k : Nat} (h : LexEnd B R e w') (hR : R = .error k) :
    e = .returned (.tuple #[.slice none 0 0, .int .i64 k, .int .i64 21]) := by
  rw [hR] at h
  exact h

set_option maxHeartbeats 400000 in
theorem tokens_long (s : ByteArray) (w : World) (hs : 65536 < s.size) (hs2 : s.size ≤ maxLen) :
    Calls Tryz.prog 33 #[.string s] w fun e w' => e = .returned (.tuple #[.slice none 0 0, .int .i64 0, .int .i64 21]) ∧ w = w' := by
  unfold maxLen at hs2
  go_enter Tryz.func33, Tryz.ntmps33
  go_wp2
  go_step3
  go_wp2
  rw [Exit.noGoto_ret]
  exact ret3 rfl rfl ⟨rfl, rfl⟩

theorem tokens_every (s : ByteArray) (w : World) (hs : s.size ≤ maxLen) (hg : Good w) :
    Calls Tryz.prog 33 #[.string s] w fun e w' => LexEnd w.heap.size (lexS s.data.toList) e w' ∧ Below w.heap.size w w' := by
  by_cases h : 65536 < s.size
  · have hR : lexS s.data.toList = .error 0 := by rw [lexS, if_pos (by rw [← Lib.size_eq]; exact h)]
    rw [hR]
    exact (tokens_long s w h hs).mono fun e w' ⟨he, hw⟩ => ⟨he, by rw [← hw]; exact Below.refl _ _⟩
  · exact tokens_any s w (by omega) hg
end Go.Proofs.YtdjklnlkocconaaGreatDoor
