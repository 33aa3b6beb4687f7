/-
  The reference's words: ruleOf, kindOf, operator, taken: the walks. Printed by wip/gen_refwords.py.
-/
import Derived.Test.YtdjklnlkocconaaGreatDoorPlainZ
import Derived.Test.YtdjklnlkocconaaGreatDoorPaBZ
namespace Go.Proofs.YtdjklnlkocconaaGreatDoor
open Go Go.RowKit
def ruleV (x : List UInt8) : Int := if x = w_width then 1 else if x = w_space then 2 else if x = w_notch then 3 else if x = w_apart then 4 else if x = w_around then 5 else if x = w_over then 6 else 0
def kindV (x : List UInt8) : Int := if x = w_input then 1 else if x = w_let then 2 else if x = w_check then 3 else if x = w_small then 4 else if x = w_write then 5 else 0
def operV (x : List UInt8) : Int × Int := if x = w_and then (4, 2) else if x = w_or then (5, 1) else if x = w_not then (6, 1) else if x = w_xor then (7, 1) else (0, 0)
end Go.Proofs.YtdjklnlkocconaaGreatDoor
