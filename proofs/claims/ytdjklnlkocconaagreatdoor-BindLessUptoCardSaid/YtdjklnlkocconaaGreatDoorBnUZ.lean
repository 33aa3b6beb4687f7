/-
  The reference's Check: whether a deck is bound, or where it is not.
  The reference's Needs: the places of the statements on which one leans, rising: a new row.
-/
import Derived.Test.YtdjklnlkocconaaGreatDoorBnSZ
import Derived.Test.YtdjklnlkocconaaGreatDoorRpHZ
import Derived.Test.YtdjklnlkocconaaGreatDoorOpenNamesZ
import Derived.Test.YtdjklnlkocconaaGreatDoorOwnZ
import Derived.Test.YtdjklnlkocconaaGreatDoorBnTZ
namespace Go.Proofs.YtdjklnlkocconaaGreatDoor
open Go Go.RowKit

theorem StsIs.first2 {w : World} {a : Option Addr} {c n : Nat} {l : List St} (h : StsIs w (.slice a n c) l) (hl : l.length = n) (k : Nat) (hk : k ≤ n) : StsIs w (.slice a k c) (l.take k) := by
  subst hl
  exact h.first k hk

def RcAt (w : World) (l : List St) (R : Option Nat) (n k : Nat) (u : Value) (wr : World) : Prop := ∃ i : Nat, u = .int .i64 i ∧ i ≤ n ∧ n < k + i ∧ Below w.heap.size w wr ∧ checkF (l.take i) (l.drop i) = R

end Go.Proofs.YtdjklnlkocconaaGreatDoor

namespace Go.Proofs.YtdjklnlkocconaaGreatDoor
open Go Go.RowKit

/-- w', but for two blocks and new ones, is as w was. -/
structure Kept2 (w w' : World) (a b : Nat) : Prop where
  os : w'.os = w.os
  tape : w'.tape = w.tape
  output : w'.output = w.output
  size : w.heap.size ≤ w'.heap.size
  block : ∀ k, k < w.heap.size → k ≠ a → k ≠ b → w'.heap[k]? = w.heap[k]?
theorem Kept2.refl (w : World) (a b : Nat) : Kept2 w w a b := ⟨rfl, rfl, rfl, Nat.le_refl _, fun _ _ _ _ => rfl⟩
theorem Kept2.grown {w w' w'' : World} {a b : Nat} {row : Option Nat} (h : Kept2 w w' a b) (hg : w'.grownBy w'' row) (hr : ∀ k, row = some k → k = a ∨ k = b ∨ w.heap.size ≤ k) : Kept2 w w'' a b :=
  ⟨hg.os.trans h.os, hg.tape.trans h.tape, hg.output.trans h.output, Nat.le_trans h.size hg.size, fun k hk ha hb => (hg.block k (Nat.lt_of_lt_of_le hk h.size) (fun e => by rcases hr k e.symm with h1 | h1 | h1 <;> omega)).trans (h.block k hk ha hb)⟩
theorem Kept2.below {w0 w w' : World} {a b : Nat} (h : Kept2 w w' a b) (hb : Below w0.heap.size w0 w) (h1 : w0.heap.size ≤ a) (h2 : w0.heap.size ≤ b) : Below w0.heap.size w0 w' :=
  ⟨h.os.trans hb.os, h.tape.trans hb.tape, h.output.trans hb.output, Nat.le_trans hb.size h.size, fun k hk => (h.block k (Nat.lt_of_lt_of_le hk hb.size) (by omega) (by omega)).trans (hb.block k hk)⟩

def RqAt (w : World) (b : Nat) (l : List St) (n : Nat) (R : List Nat) (k : Nat) (v : Value) (wr : World) : Prop := ∃ (f : Nat) (need row : List Nat) (va : Value), va = v ∧ f < k ∧ f ≤ n + 2 ∧ Below w.heap.size w wr ∧ NArr wr b n need ∧ QRow wr (b + 1) v row ∧ goF (outS l) f row need = R ∧ row.length + (n - need.length) < f ∧ need.Nodup ∧ (∀ j ∈ need, j < n) ∧ (∀ j ∈ row, j < n)
def RpAt (w3 : World) (b gq : Nat) (L : List (List UInt8)) (l : List St) (n m r0 : Nat) (F : List Nat × List Nat) (k : Nat) (v u : Value) (wr : World) : Prop := ∃ (j : Nat) (need row : List Nat) (va : Value), va = v ∧ u = .int .i64 j ∧ j ≤ m ∧ m < k + j ∧ Kept2 w3 wr b gq ∧ NArr wr b n need ∧ QRow wr (b + 1) v row ∧ (v.ownBlock = some gq ∨ ∃ g, v.ownBlock = some g ∧ w3.heap.size ≤ g) ∧ row.length ≤ r0 + j ∧ pushF ((L.drop j).map (plc l)) need row = F
def flt (R : List Nat) (k : Nat) : List Nat := (List.range k).filter fun j => R.contains j
def RoAt (w4 : World) (n : Nat) (R : List Nat) (k : Nat) (v u : Value) (wr : World) : Prop := ∃ (j : Nat) (va : Value), va = v ∧ u = .int .i64 j ∧ j ≤ n ∧ n < k + j ∧ Below w4.heap.size w4 wr ∧ wr.ownsRow w4.heap.size 3 1 v (flt R j).length (intL (flt R j))
end Go.Proofs.YtdjklnlkocconaaGreatDoor
