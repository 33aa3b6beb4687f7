/-
  The reference's Print: small laws, the plain law. No walk.
-/
import Derived.Test.YtdjklnlkocconaaGreatDoorPlBZ
namespace Go.Proofs.YtdjklnlkocconaaGreatDoor

/-- The reference's Print, in plain Lean: from the statements l on, behind the text acc. -/
def refP : List St → List UInt8 → Option (List UInt8)
  | [], acc => some acc
  | x :: r, acc => if fitB x = true then (if 65536 < (acc ++ lineP x).length then none else refP r (acc ++ lineP x)) else none

end Go.Proofs.YtdjklnlkocconaaGreatDoor
