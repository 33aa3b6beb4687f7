/-
  SplitLong. (Printed by gen_spl.py.)
-/
import Derived.Test.YtmagoiniahpofaaGreatKnX
namespace Go.Proofs.YtmagoiniahpofaaGreat
open Go Go.RowKit
end Go.Proofs.YtmagoiniahpofaaGreat
