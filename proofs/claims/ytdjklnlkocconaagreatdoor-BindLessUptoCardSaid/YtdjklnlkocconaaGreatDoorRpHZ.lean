/-
  The reference's Print: the walk.
-/
import Derived.Test.YtdjklnlkocconaaGreatDoorRpFZ
import Derived.Test.YtdjklnlkocconaaGreatDoorRpDZ
import Derived.Test.YtdjklnlkocconaaGreatDoorRpGZ
import Derived.Test.YtdjklnlkocconaaGreatDoorGnBZ
namespace Go.Proofs.YtdjklnlkocconaaGreatDoor
open Go Go.RowKit

/-- What the reference's Print gives back. -/
def rprintE : Option (List UInt8) → Ending
  | some t => .returned (.tuple #[.string (bs t), .int .i64 0])
  | none => .returned (.tuple #[.string ⟨#[]⟩, .int .i64 3])

/-- Print at work. -/
def RPrAt (w : World) (l : List St) (R : Option (List UInt8)) (n : Nat) (k : Nat) (u z : Value) (wr : World) : Prop :=
  ∃ (i : Nat) (acc : List UInt8), u = .string (bs acc) ∧ z = .int .i64 i ∧ i ≤ n ∧ n < k + i ∧ acc.length ≤ 65536 ∧ refP (l.drop i) acc = R ∧ Below w.heap.size w wr

end Go.Proofs.YtdjklnlkocconaaGreatDoor
