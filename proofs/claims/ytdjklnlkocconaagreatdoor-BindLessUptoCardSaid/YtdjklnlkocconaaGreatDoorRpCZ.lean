/-
  The reference's right: the walk.
-/
import Derived.Test.YtdjklnlkocconaaGreatDoorRpXZ
namespace Go.Proofs.YtdjklnlkocconaaGreatDoor
open Go Go.RowKit

/-- All names are of lengths that are ints. -/
inductive NdB : Nd → Prop
  | mk (k : Int) (s : List UInt8) (l : List Nd) (hs : s.length ≤ maxLen) (hl : ∀ x ∈ l, NdB x) : NdB (.mk k s l)

theorem NdB.name {k : Int} {s : List UInt8} {l : List Nd} (h : NdB (.mk k s l)) : s.length ≤ maxLen := by cases h with | mk _ _ _ hs _ => exact hs
/-- What right does at a tree. -/
def RightC (n : Nd) : Prop := ∀ (least deep : Int) (v : Value) (w : World), 0 ≤ least → least ≤ 3 → -1 ≤ deep → deep ≤ 64 → NdB n → NdIs Any w n v →
  Calls Tryz.prog 71 #[v, .int .i64 least, .int .i64 deep] w fun e w' => e = .returned (.bool (rightB n least deep)) ∧ Below w.heap.size w w'

theorem Blk3.below {w w' : World} {g : Nat} {x y z : Value} (h : Blk3 w g x y z) (hb : Below w.heap.size w w') : Blk3 w' g x y z := h.grown (grown_of_below hb none) (by simp)

section
variable {k : Int} {s : List UInt8} {l : List Nd} {least deep D : Int} (h : 4 ≤ k ∧ k ≤ 7) (hD : (if joinS k + 1 < least then deep - 1 else deep) = D)
include h hD
end
end Go.Proofs.YtdjklnlkocconaaGreatDoor
