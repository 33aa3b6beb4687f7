/-
  deck.text: an expression's text into a builder. The state, and the leaves.
-/
import Derived.Test.YtgnjaneddidbbaaDoorBuild
import Derived.Test.YtgnjaneddidbbaaDoorDeckJ
import Derived.Test.YtgnjaneddidbbaaDoorDeckPrint
namespace Go.Proofs.YtgnjaneddidbbaaDoor
open Go Go.RowKit

theorem WB.still {w w' : World} {b : Nat} {l : List UInt8} (h : WB w b l) (hg : w.grownBy w' none) : WB w' b l := by
  have key : ∀ p, Lib.BuilderAt 82 5 b b p (Lib.byteCells l) w → Lib.BuilderAt 82 5 b b p (Lib.byteCells l) w' := by
    intro p h
    have hlt := h.lt
    obtain ⟨hB, v, hbk, hown, hne⟩ := h
    refine ⟨hB, v, (hg.block b hlt (by simp)).trans hbk, hown.kept hg ?_, hne⟩
    cases v.ownBlock with
    | none => exact .inl rfl
    | some k => exact .inr (by simp)
  rcases h with h | h
  · exact .inl (key _ h)
  · exact .inr (key _ h)
theorem WB.lt {w : World} {b : Nat} {l : List UInt8} (h : WB w b l) : b < w.heap.size := by
  rcases h with h | h
  · exact h.lt
  · exact h.lt

theorem Blk3.keeps {w w' : World} {b g : Nat} {x y z : Value} (h : Blk3 w g x y z) (hk : Keeps b w w') (hn : g ≠ b) : Blk3 w' g x y z := by
  refine (hk.block g h.lt hn (.inr ?_)).trans h
  intro cs fr e
  have h2 : w.heap[g]? = some (.cells #[x, y, z] 71 (0, 0)) := h
  rw [h2] at e
  cases e
theorem NdIs.keeps {w w' : World} {b : Nat} {n : Nd} {v : Value} (h : NdIs (· < b) w n v) (hk : Keeps b w w') : NdIs (· < b) w' n v :=
  NdIs.kept hk.size (fun g hl ho => ⟨hk.block g hl (Nat.ne_of_lt ho) (.inl ho), ho⟩) n v h

/-- text at work: its parameter's box, the tree, the builder. -/
structure TS (w w' : World) (b : Nat) (l : List UInt8) (n : Nd) (k : Int) (s : ByteArray) (a : Option Addr) (m c : Nat) : Prop where
  wb : WB w' b l
  kp : Keeps b w w'
  hb : b < w.heap.size
  bx : Blk3 w' w.heap.size (.int .i64 k) (.string s) (.slice a m c)
  nd : NdIs (· < b) w' n (.agg #[.int .i64 k, .string s, .slice a m c])

theorem TS.start {w : World} {b : Nat} {l : List UInt8} {n : Nd} {k : Int} {s : ByteArray} {a : Option Addr} {m c : Nat} (h : WB w b l) (hn : NdIs (· < b) w n (.agg #[.int .i64 k, .string s, .slice a m c])) :
    TS w (w.alloc (.cells #[.int .i64 k, .string s, .slice a m c] 71)) b l n k s a m c :=
  ⟨h.still (grown_alloc _ _ _), Keeps.of_grown (grown_alloc _ _ none) (fun c e => by cases e), h.lt, Blk3.new _ _ _ _, hn.keeps (Keeps.of_grown (grown_alloc _ _ none) (fun c e => by cases e))⟩
theorem TS.next {w w' w'' : World} {b : Nat} {l l' : List UInt8} {n : Nd} {k : Int} {s : ByteArray} {a : Option Addr} {m c : Nat} (h : TS w w' b l n k s a m c) (hb : WB w'' b l') (hk : Keeps b w' w'') : TS w w'' b l' n k s a m c :=
  ⟨hb, h.kp.trans hk, h.hb, h.bx.keeps hk (by have := h.hb; omega), h.nd.keeps hk⟩

/-- What text does. -/
def TextC (n : Nd) : Prop := ∀ (level : Int) (b : Nat) (l : List UInt8) (v : Value) (w : World), WB w b l → NdIs (· < b) w n v → 0 ≤ level → level ≤ 2 → l.length + (textP n level).length ≤ 140737488355328 →
  Calls Tryd.prog 67 #[v, .pointer (some ⟨b, 0, none⟩), .int .i64 level] w fun e w' => e = .returned (.tuple #[]) ∧ WB w' b (l ++ textP n level) ∧ Keeps b w w'

set_option maxHeartbeats 1000000 in
set_option maxRecDepth 100000 in
theorem text_name (b : Nat) (l S : List UInt8) (n : Nd) (s : ByteArray) (a : Option Addr) (m c : Nat) (level : Int) (w : World) (hS : Hid (s.data.toList = S)) (h : WB w b l) (hn : NdIs (· < b) w n (.agg #[.int .i64 1, .string s, .slice a m c])) (hl : l.length + s.size ≤ 140737488355328) :
    Calls Tryd.prog 67 #[.agg #[.int .i64 1, .string s, .slice a m c], .pointer (some ⟨b, 0, none⟩), .int .i64 level] w fun e w' => e = .returned (.tuple #[]) ∧ WB w' b (l ++ S) ∧ Keeps b w w' := by
  have T0 := Lib.hid (TS.start h hn)
  clear h hn
  obtain ⟨k0, k1, k2, _, _, _⟩ := T0.out.bx.cells
  go_enter Tryd.func67, Tryd.ntmps67
  go_wp2_with fail
  refine (writeString_any b l s _ T0.out.wb hl).mono ?_
  rintro e w1 ⟨⟨v, rfl⟩, hw, hk⟩
  have T1 := Lib.hid (T0.out.next hw hk)
  clear hw hk T0 k0 k1 k2
  go_wp2
  first | go_end0 | refine bodyPost_ret (results_none rfl _ _ _) rfl ?_
  exact ⟨rfl, by rw [← hS.out]; exact T1.out.wb, T1.out.kp⟩

set_option maxHeartbeats 1000000 in
set_option maxRecDepth 100000 in
theorem text_empty (b : Nat) (l : List UInt8) (n : Nd) (s : ByteArray) (a : Option Addr) (m c : Nat) (level : Int) (w : World) (h : WB w b l) (hn : NdIs (· < b) w n (.agg #[.int .i64 2, .string s, .slice a m c])) (hl : l.length + 5 ≤ 140737488355328) :
    Calls Tryd.prog 67 #[.agg #[.int .i64 2, .string s, .slice a m c], .pointer (some ⟨b, 0, none⟩), .int .i64 level] w fun e w' => e = .returned (.tuple #[]) ∧ WB w' b (l ++ w_empty) ∧ Keeps b w w' := by
  have T0 := Lib.hid (TS.start h hn)
  clear h hn
  obtain ⟨k0, k1, k2, _, _, _⟩ := T0.out.bx.cells
  go_enter Tryd.func67, Tryd.ntmps67
  go_wp2_with fail
  refine (writeString_any b l (bs w_empty) _ T0.out.wb hl).mono ?_
  rintro e w1 ⟨⟨v, rfl⟩, hw, hk⟩
  have T1 := Lib.hid (T0.out.next hw hk)
  clear hw hk T0 k0 k1 k2
  go_wp2
  first | go_end0 | refine bodyPost_ret (results_none rfl _ _ _) rfl ?_
  exact ⟨rfl, T1.out.wb, T1.out.kp⟩

set_option maxHeartbeats 1000000 in
set_option maxRecDepth 100000 in
theorem text_boxes (b : Nat) (l S : List UInt8) (n : Nd) (s : ByteArray) (a : Option Addr) (m c : Nat) (level : Int) (w : World) (hS : Hid (S = [98, 111, 120, 101, 115, 32] ++ s.data.toList)) (h : WB w b l) (hn : NdIs (· < b) w n (.agg #[.int .i64 3, .string s, .slice a m c])) (hl : l.length + (6 + s.size) ≤ 140737488355328) :
    Calls Tryd.prog 67 #[.agg #[.int .i64 3, .string s, .slice a m c], .pointer (some ⟨b, 0, none⟩), .int .i64 level] w fun e w' => e = .returned (.tuple #[]) ∧ WB w' b (l ++ S) ∧ Keeps b w w' := by
  have T0 := Lib.hid (TS.start h hn)
  clear h hn
  obtain ⟨k0, k1, k2, _, _, _⟩ := T0.out.bx.cells
  have hs : s.size ≤ 140737488355328 := by omega
  go_enter Tryd.func67, Tryd.ntmps67
  go_wp2_with fail
  refine (writeString_any b l (bs [98, 111, 120, 101, 115, 32] ++ s) _ T0.out.wb ?_).mono ?_
  · rw [ByteArray.size_append]
    exact hl
  rintro e w1 ⟨⟨v, rfl⟩, hw, hk⟩
  have T1 := Lib.hid (T0.out.next hw hk)
  clear hw hk T0 k0 k1 k2
  go_wp2
  first | go_end0 | refine bodyPost_ret (results_none rfl _ _ _) rfl ?_
  refine ⟨rfl, ?_, T1.out.kp⟩
  have h1 := T1.out.wb
  rw [Joins.data_append] at h1
  rw [hS.out]
  exact h1
end Go.Proofs.YtgnjaneddidbbaaDoor
