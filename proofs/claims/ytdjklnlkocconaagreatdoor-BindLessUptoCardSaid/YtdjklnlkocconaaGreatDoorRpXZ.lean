/-
  The reference's none, digits: the walks.
  The reference's name: the walk.
-/
import Derived.Test.YtdjklnlkocconaaGreatDoorSmAZ
import Derived.Test.YtdjklnlkocconaaGreatDoorPlBZ
import Derived.Test.YtdjklnlkocconaaGreatDoorGnAZ
import Derived.Test.YtdjklnlkocconaaGreatDoorRdLZ
import Derived.Test.YtdjklnlkocconaaGreatDoorRdAZ
import Derived.StillTailTactics
import Derived.Laws.BytesString
namespace Go.Proofs.YtdjklnlkocconaaGreatDoor
open Go Go.RowKit
/-- digits at work. -/
def DigAt (w : World) (n : Nat) (k : Nat) (u z : Value) (wr : World) : Prop :=
  ∃ (m : Nat) (S : List UInt8), u = .int .i64 m ∧ z = .string (bs S) ∧ m < k ∧ m ≤ 2147483647 ∧ S.length + Lib.nDigits m ≤ 12 ∧ Lib.decDigits n = (if m = 0 then S else Lib.decDigits m ++ S) ∧ w.grownBy wr none

end Go.Proofs.YtdjklnlkocconaaGreatDoor

namespace Go.Proofs.YtdjklnlkocconaaGreatDoor
open Go Go.RowKit
def nameR (s : List UInt8) : Except Nat (List Tok) → Bool
  | .ok [t] => t.kind == 1 && t.text == s && !takenL.contains s
  | _ => false
end Go.Proofs.YtdjklnlkocconaaGreatDoor
