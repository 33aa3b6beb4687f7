/-
  The reference's fits: a check, a kind that is none; all.
-/
import Derived.Test.YtdjklnlkocconaaGreatDoorRpEZ
namespace Go.Proofs.YtdjklnlkocconaaGreatDoor
open Go Go.RowKit
end Go.Proofs.YtdjklnlkocconaaGreatDoor
