/-
  The reference's ruleWord, text: the walks.
-/
import Derived.Test.YtdjklnlkocconaaGreatDoorRpCZ
import Derived.Test.YtdjklnlkocconaaGreatDoorOpAZ
import Derived.Test.YtdjklnlkocconaaGreatDoorPrintDZ
import Derived.Deep.RegionHeld3
namespace Go.Proofs.YtdjklnlkocconaaGreatDoor
open Go Go.RowKit
/-- What text does at an expression. -/
def RTextC (n : Nd) : Prop := ∀ (least : Int) (v : Value) (w : World), 1 ≤ least → least ≤ 3 → (∃ p q, rightB n p q = true) → (textP n (least - 1)).length ≤ 100000000 → NdIs Any w n v →
  Calls Tryz.prog 41 #[v, .int .i64 least] w fun e w' => e = .returned (.string (bs (textP n (least - 1)))) ∧ w.grownBy w' none

end Go.Proofs.YtdjklnlkocconaaGreatDoor
