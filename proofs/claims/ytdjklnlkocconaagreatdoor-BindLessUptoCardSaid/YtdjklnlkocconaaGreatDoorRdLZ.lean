/-
  The reference's sort of a byte: the walk.
  The reference's Tokens: the walk.
-/
import Derived.Test.YtdjklnlkocconaaGreatDoorLexABZ
import Derived.Test.YtdjklnlkocconaaGreatDoorLexCZ
namespace Go.Proofs.YtdjklnlkocconaaGreatDoor
open Go Go.RowKit

def sortV (c : Int) : Int := if blankB c then 0 else if smallB c then 1 else if digitB c then 2 else if c = 95 then 3 else if signB c then 4 else if c = 35 then 5 else 6

end Go.Proofs.YtdjklnlkocconaaGreatDoor

namespace Go.Proofs.YtdjklnlkocconaaGreatDoor
open Go Go.RowKit
def LexEndR (B : Nat) (R : Except Nat (List Tok)) (e : Ending) (w' : World) : Prop :=
  match R with
  | .error k => e = .returned (.tuple #[.slice none 0 0, .int .i64 k, .int .i64 21])
  | .ok ts => ∃ v, e = .returned (.tuple #[v, .int .i64 0, .int .i64 0]) ∧ w'.ownsRow B 129 4 v ts.length (ts.flatMap tokCells)

theorem info129 : (Tryz.prog.info? 129).map (fun i => (i.zero, i.size, i.bytes)) = some (some (.agg #[.int .i64 0, .string ⟨#[]⟩, .int .i64 0, .int .i64 0]), 4, 40) := by kernel_rfl

end Go.Proofs.YtdjklnlkocconaaGreatDoor
