/-
  The reference's fits: the walk.
-/
import Derived.Test.YtdjklnlkocconaaGreatDoorRpCZ
import Derived.Test.YtdjklnlkocconaaGreatDoorPaFZ
import Derived.Test.YtdjklnlkocconaaGreatDoorPrintDZ
namespace Go.Proofs.YtdjklnlkocconaaGreatDoor
open Go Go.RowKit

theorem BlkS.below {w w' : World} {g : Nat} {cs : List Value} (h : BlkS w g cs) (hb : Below w.heap.size w w') : BlkS w' g cs := h.grown (grown_of_below hb none) (by simp)
theorem NdIs.below {w w' : World} {n : Nd} {v : Value} (h : NdIs Any w n v) (hb : Below w.heap.size w w') : NdIs Any w' n v := h.still (grown_of_below hb none)

/-- fits at work. -/
structure FS (w w' : World) (x : St) (A B : NV) : Prop where
  bx : BlkS w' w.heap.size (stCells x A B)
  na : NdIs Any w' x.a A.val
  nb : NdIs Any w' x.b B.val
  bw : Below w.heap.size w w'
theorem FS.next {w w' w'' : World} {x : St} {A B : NV} (h : FS w w' x A B) (hb : Below w'.heap.size w' w'') : FS w w'' x A B :=
  ⟨h.bx.below hb, h.na.below hb, h.nb.below hb, h.bw.trans (hb.mono h.bw.size)⟩
theorem FS.cell {w w' : World} {x : St} {A B : NV} (h : FS w w' x A B) (j : Nat) : w'.cell? ⟨w.heap.size, j, none⟩ = (stCells x A B)[j]? := h.bx.cell j

end Go.Proofs.YtdjklnlkocconaaGreatDoor
