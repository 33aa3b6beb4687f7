/-
  No cell of these rows narrows 'for every input' (looked for: loops, veiled, ifaces, maps, wideKeys, modest, calm, conditions, laid).
  DERIVED. THE GIVEN ROWS OF THIS SEAT. 8 by the template 'for every input the law returns true; each argument reads behind the call as it read before'; 0 by the template 'total and deterministic' (their statements: YtcmplpkmfbhpdaaGreatTotals.lean).
  GIVEN WITH THE SEED: the statements are not yours to turn. If you find one false, say at which input.
  Laid BY PROGRAM, IN A SANDBOX (cutbox-rows.mjs): the forced cells as the released guide's own fill.sh prints them over the translation d336ba1f6b28d92f… (all of the seat's roots in one cut). By AI agents, Wed Nov 11 2026. No macro, syntax, notation, axiom, sorry.
-/
import Derived.Test.YtcmplpkmfbhpdaaGreatChecked
import GoSem.Claim
import GoSem.ClaimJoined
import GoSem.ClaimMapViews
import Derived.JoinedTies
import Derived.KernelRfl
namespace Go.Proofs.YtcmplpkmfbhpdaaGreat
/- THE CELL 'sum', in the pinned program and in every row, IS THE sha256 OF THE DUMP (.gsa) THAT YtcmplpkmfbhpdaaGreatProg.lean LOADS. Nothing in Lean hashes anything: it is a label: what it is worth is what the hold of that sum in a sandbox is worth. -/
noncomputable def Tryz.pinned : Pinned := { name := "ytcmplpkmfbhpdaagreat", sum := "d336ba1f6b28d92f242dd063b4df5dd7e40b1b7ba4404899a4f7b81c35e20e8a", checked := Tryz.checked }
namespace Rows
def none {H : Type} : Left H := { results := [], args := [] }

/-- 'pelliclelaw14.SplitLong': WHATEVER THE INPUT: true; the input reads as it did. -/
def splitLongSpec : ChangeSpec := { name := "splitLong", fn := fun _ => fun
  | [d] => { results := [.lit (.bool true)], args := [d] }
  | _ => none }
def splitLongRow : OpenClaim := { program := "ytcmplpkmfbhpdaagreat", sum := "d336ba1f6b28d92f242dd063b4df5dd7e40b1b7ba4404899a4f7b81c35e20e8a", func := "pellicle/pelliclelaw14.SplitLong", spec := "splitLong", unfollowed := true, recurses := true, apart := false }
def SplitLongSaid : Prop := splitLongRow.holds Tryz.pinned (OpenSpec.ofChange splitLongSpec)

/-- ITS FALSE NEIGHBOUR: 'it returns false'. Refute it at one input. -/
def splitLongWrong : ChangeSpec := { name := "splitLong", fn := fun _ => fun
  | [d] => { results := [.lit (.bool false)], args := [d] }
  | _ => none }
def SplitLongWrongFalsely : Prop := splitLongRow.holds Tryz.pinned (OpenSpec.ofChange splitLongWrong)

/-- 'pelliclelaw14.SplitAgain': WHATEVER THE INPUT: true; the input reads as it did. -/
def splitAgainSpec : ChangeSpec := { name := "splitAgain", fn := fun _ => fun
  | [d1, d2] => { results := [.lit (.bool true)], args := [d1, d2] }
  | _ => none }
def splitAgainRow : OpenClaim := { program := "ytcmplpkmfbhpdaagreat", sum := "d336ba1f6b28d92f242dd063b4df5dd7e40b1b7ba4404899a4f7b81c35e20e8a", func := "pellicle/pelliclelaw14.SplitAgain", spec := "splitAgain", unfollowed := true, recurses := true, apart := false }
def SplitAgainSaid : Prop := splitAgainRow.holds Tryz.pinned (OpenSpec.ofChange splitAgainSpec)

/-- ITS FALSE NEIGHBOUR: 'it returns false'. Refute it at one input. -/
def splitAgainWrong : ChangeSpec := { name := "splitAgain", fn := fun _ => fun
  | [d1, d2] => { results := [.lit (.bool false)], args := [d1, d2] }
  | _ => none }
def SplitAgainWrongFalsely : Prop := splitAgainRow.holds Tryz.pinned (OpenSpec.ofChange splitAgainWrong)

/-- 'pelliclelaw14.SplitCovers': WHATEVER THE INPUT: true; the input reads as it did. -/
def splitCoversSpec : ChangeSpec := { name := "splitCovers", fn := fun _ => fun
  | [d1, d2] => { results := [.lit (.bool true)], args := [d1, d2] }
  | _ => none }
def splitCoversRow : OpenClaim := { program := "ytcmplpkmfbhpdaagreat", sum := "d336ba1f6b28d92f242dd063b4df5dd7e40b1b7ba4404899a4f7b81c35e20e8a", func := "pellicle/pelliclelaw14.SplitCovers", spec := "splitCovers", unfollowed := true, recurses := true, apart := false }
def SplitCoversSaid : Prop := splitCoversRow.holds Tryz.pinned (OpenSpec.ofChange splitCoversSpec)

/-- ITS FALSE NEIGHBOUR: 'it returns false'. Refute it at one input. -/
def splitCoversWrong : ChangeSpec := { name := "splitCovers", fn := fun _ => fun
  | [d1, d2] => { results := [.lit (.bool false)], args := [d1, d2] }
  | _ => none }
def SplitCoversWrongFalsely : Prop := splitCoversRow.holds Tryz.pinned (OpenSpec.ofChange splitCoversWrong)

/-- 'pelliclelaw14.SplitPieces': WHATEVER THE INPUT: true; the input reads as it did. -/
def splitPiecesSpec : ChangeSpec := { name := "splitPieces", fn := fun _ => fun
  | [d] => { results := [.lit (.bool true)], args := [d] }
  | _ => none }
def splitPiecesRow : OpenClaim := { program := "ytcmplpkmfbhpdaagreat", sum := "d336ba1f6b28d92f242dd063b4df5dd7e40b1b7ba4404899a4f7b81c35e20e8a", func := "pellicle/pelliclelaw14.SplitPieces", spec := "splitPieces", unfollowed := true, recurses := true, apart := false }
def SplitPiecesSaid : Prop := splitPiecesRow.holds Tryz.pinned (OpenSpec.ofChange splitPiecesSpec)

/-- ITS FALSE NEIGHBOUR: 'it returns false'. Refute it at one input. -/
def splitPiecesWrong : ChangeSpec := { name := "splitPieces", fn := fun _ => fun
  | [d] => { results := [.lit (.bool false)], args := [d] }
  | _ => none }
def SplitPiecesWrongFalsely : Prop := splitPiecesRow.holds Tryz.pinned (OpenSpec.ofChange splitPiecesWrong)

/-- 'pelliclelaw15.RegionOf': WHATEVER THE INPUT: true; the input reads as it did. -/
def regionOfSpec : ChangeSpec := { name := "regionOf", fn := fun _ => fun
  | [d] => { results := [.lit (.bool true)], args := [d] }
  | _ => none }
def regionOfRow : OpenClaim := { program := "ytcmplpkmfbhpdaagreat", sum := "d336ba1f6b28d92f242dd063b4df5dd7e40b1b7ba4404899a4f7b81c35e20e8a", func := "pellicle/pelliclelaw15.RegionOf", spec := "regionOf", unfollowed := true, recurses := true, apart := false }
def RegionOfSaid : Prop := regionOfRow.holds Tryz.pinned (OpenSpec.ofChange regionOfSpec)

/-- ITS FALSE NEIGHBOUR: 'it returns false'. Refute it at one input. -/
def regionOfWrong : ChangeSpec := { name := "regionOf", fn := fun _ => fun
  | [d] => { results := [.lit (.bool false)], args := [d] }
  | _ => none }
def RegionOfWrongFalsely : Prop := regionOfRow.holds Tryz.pinned (OpenSpec.ofChange regionOfWrong)

/-- 'pelliclelaw15.RegionLong': WHATEVER THE INPUT: true; the input reads as it did. -/
def regionLongSpec : ChangeSpec := { name := "regionLong", fn := fun _ => fun
  | [d1, d2] => { results := [.lit (.bool true)], args := [d1, d2] }
  | _ => none }
def regionLongRow : OpenClaim := { program := "ytcmplpkmfbhpdaagreat", sum := "d336ba1f6b28d92f242dd063b4df5dd7e40b1b7ba4404899a4f7b81c35e20e8a", func := "pellicle/pelliclelaw15.RegionLong", spec := "regionLong", unfollowed := true, recurses := true, apart := false }
def RegionLongSaid : Prop := regionLongRow.holds Tryz.pinned (OpenSpec.ofChange regionLongSpec)

/-- ITS FALSE NEIGHBOUR: 'it returns false'. Refute it at one input. -/
def regionLongWrong : ChangeSpec := { name := "regionLong", fn := fun _ => fun
  | [d1, d2] => { results := [.lit (.bool false)], args := [d1, d2] }
  | _ => none }
def RegionLongWrongFalsely : Prop := regionLongRow.holds Tryz.pinned (OpenSpec.ofChange regionLongWrong)

/-- 'pelliclelaw15.RegionForm': WHATEVER THE INPUT: true; the input reads as it did. -/
def regionFormSpec : ChangeSpec := { name := "regionForm", fn := fun _ => fun
  | [d] => { results := [.lit (.bool true)], args := [d] }
  | _ => none }
def regionFormRow : OpenClaim := { program := "ytcmplpkmfbhpdaagreat", sum := "d336ba1f6b28d92f242dd063b4df5dd7e40b1b7ba4404899a4f7b81c35e20e8a", func := "pellicle/pelliclelaw15.RegionForm", spec := "regionForm", unfollowed := true, recurses := true, apart := false }
def RegionFormSaid : Prop := regionFormRow.holds Tryz.pinned (OpenSpec.ofChange regionFormSpec)

/-- ITS FALSE NEIGHBOUR: 'it returns false'. Refute it at one input. -/
def regionFormWrong : ChangeSpec := { name := "regionForm", fn := fun _ => fun
  | [d] => { results := [.lit (.bool false)], args := [d] }
  | _ => none }
def RegionFormWrongFalsely : Prop := regionFormRow.holds Tryz.pinned (OpenSpec.ofChange regionFormWrong)

/-- 'pelliclelaw15.RegionSame': WHATEVER THE INPUT: true; the input reads as it did. -/
def regionSameSpec : ChangeSpec := { name := "regionSame", fn := fun _ => fun
  | [d1, d2] => { results := [.lit (.bool true)], args := [d1, d2] }
  | _ => none }
def regionSameRow : OpenClaim := { program := "ytcmplpkmfbhpdaagreat", sum := "d336ba1f6b28d92f242dd063b4df5dd7e40b1b7ba4404899a4f7b81c35e20e8a", func := "pellicle/pelliclelaw15.RegionSame", spec := "regionSame", unfollowed := true, recurses := true, apart := false }
def RegionSameSaid : Prop := regionSameRow.holds Tryz.pinned (OpenSpec.ofChange regionSameSpec)

/-- ITS FALSE NEIGHBOUR: 'it returns false'. Refute it at one input. -/
def regionSameWrong : ChangeSpec := { name := "regionSame", fn := fun _ => fun
  | [d1, d2] => { results := [.lit (.bool false)], args := [d1, d2] }
  | _ => none }
def RegionSameWrongFalsely : Prop := regionSameRow.holds Tryz.pinned (OpenSpec.ofChange regionSameWrong)

/- THE SECOND FORM. 'bulk': how many values and letters a reading holds, each counted each time it is reached (what is shared counts as often as it is met; a slice's spare places count too). A statement '..UptoSaid' is the law's where the arguments, and the package variables that the reading takes, are together of bulk at most 1048576: NARROWER than '..Said'. Prove '..Said' where nothing that the law and all that it calls make is longer than what came in: it says more and counts as full. Else prove '..UptoSaid'. A law counts once. -/
mutual
def uptoBulk {H : Type} : DataW H → Nat
  | .lit (.string bytes) => bytes.length + 1
  | .lit _ => 1
  | .nil => 1
  | .ptr d => uptoBulk d + 1
  | .slice elems spare => uptoBulkAll elems + uptoBulkAll spare + 1
  | .agg parts => uptoBulkAll parts + 1
  | .iface _ d => uptoBulk d + 1
  | .map entries => uptoBulkEntries entries + 1
  | .held _ => 1
def uptoBulkAll {H : Type} : List (DataW H) → Nat
  | [] => 0
  | d :: r => uptoBulk d + uptoBulkAll r
def uptoBulkEntries {H : Type} : List (Lit × DataW H) → Nat
  | [] => 0
  | x :: r => uptoBulkEntry x + uptoBulkEntries r
def uptoBulkEntry {H : Type} : Lit × DataW H → Nat
  | (.string bytes, d) => bytes.length + uptoBulk d + 1
  | (_, d) => uptoBulk d + 1
 end
def uptoSmall : (H : Type) → List (DataW H) → Bool := fun _ ds => decide (uptoBulkAll ds ≤ 1048576)
def OpenSpec.upto (s : _root_.Go.ChangeSpec) : _root_.Go.OpenSpec := { _root_.Go.OpenSpec.ofChange s with cond := some uptoSmall }

/-- 'pelliclelaw14.SplitLong', WHERE WHAT IT READS IS OF BULK AT MOST 1048576: true; the input reads as it did. -/
def splitLongUptoRow : OpenClaim := { program := "ytcmplpkmfbhpdaagreat", sum := "d336ba1f6b28d92f242dd063b4df5dd7e40b1b7ba4404899a4f7b81c35e20e8a", func := "pellicle/pelliclelaw14.SplitLong", spec := "splitLong", unfollowed := true, recurses := true, apart := false, narrowed := true }
def SplitLongUptoSaid : Prop := splitLongUptoRow.holds Tryz.pinned (OpenSpec.upto splitLongSpec)

/-- 'pelliclelaw14.SplitAgain', WHERE WHAT IT READS IS OF BULK AT MOST 1048576: true; the input reads as it did. -/
def splitAgainUptoRow : OpenClaim := { program := "ytcmplpkmfbhpdaagreat", sum := "d336ba1f6b28d92f242dd063b4df5dd7e40b1b7ba4404899a4f7b81c35e20e8a", func := "pellicle/pelliclelaw14.SplitAgain", spec := "splitAgain", unfollowed := true, recurses := true, apart := false, narrowed := true }
def SplitAgainUptoSaid : Prop := splitAgainUptoRow.holds Tryz.pinned (OpenSpec.upto splitAgainSpec)

/-- 'pelliclelaw14.SplitCovers', WHERE WHAT IT READS IS OF BULK AT MOST 1048576: true; the input reads as it did. -/
def splitCoversUptoRow : OpenClaim := { program := "ytcmplpkmfbhpdaagreat", sum := "d336ba1f6b28d92f242dd063b4df5dd7e40b1b7ba4404899a4f7b81c35e20e8a", func := "pellicle/pelliclelaw14.SplitCovers", spec := "splitCovers", unfollowed := true, recurses := true, apart := false, narrowed := true }
def SplitCoversUptoSaid : Prop := splitCoversUptoRow.holds Tryz.pinned (OpenSpec.upto splitCoversSpec)

/-- 'pelliclelaw14.SplitPieces', WHERE WHAT IT READS IS OF BULK AT MOST 1048576: true; the input reads as it did. -/
def splitPiecesUptoRow : OpenClaim := { program := "ytcmplpkmfbhpdaagreat", sum := "d336ba1f6b28d92f242dd063b4df5dd7e40b1b7ba4404899a4f7b81c35e20e8a", func := "pellicle/pelliclelaw14.SplitPieces", spec := "splitPieces", unfollowed := true, recurses := true, apart := false, narrowed := true }
def SplitPiecesUptoSaid : Prop := splitPiecesUptoRow.holds Tryz.pinned (OpenSpec.upto splitPiecesSpec)

/-- 'pelliclelaw15.RegionOf', WHERE WHAT IT READS IS OF BULK AT MOST 1048576: true; the input reads as it did. -/
def regionOfUptoRow : OpenClaim := { program := "ytcmplpkmfbhpdaagreat", sum := "d336ba1f6b28d92f242dd063b4df5dd7e40b1b7ba4404899a4f7b81c35e20e8a", func := "pellicle/pelliclelaw15.RegionOf", spec := "regionOf", unfollowed := true, recurses := true, apart := false, narrowed := true }
def RegionOfUptoSaid : Prop := regionOfUptoRow.holds Tryz.pinned (OpenSpec.upto regionOfSpec)

/-- 'pelliclelaw15.RegionLong', WHERE WHAT IT READS IS OF BULK AT MOST 1048576: true; the input reads as it did. -/
def regionLongUptoRow : OpenClaim := { program := "ytcmplpkmfbhpdaagreat", sum := "d336ba1f6b28d92f242dd063b4df5dd7e40b1b7ba4404899a4f7b81c35e20e8a", func := "pellicle/pelliclelaw15.RegionLong", spec := "regionLong", unfollowed := true, recurses := true, apart := false, narrowed := true }
def RegionLongUptoSaid : Prop := regionLongUptoRow.holds Tryz.pinned (OpenSpec.upto regionLongSpec)

/-- 'pelliclelaw15.RegionForm', WHERE WHAT IT READS IS OF BULK AT MOST 1048576: true; the input reads as it did. -/
def regionFormUptoRow : OpenClaim := { program := "ytcmplpkmfbhpdaagreat", sum := "d336ba1f6b28d92f242dd063b4df5dd7e40b1b7ba4404899a4f7b81c35e20e8a", func := "pellicle/pelliclelaw15.RegionForm", spec := "regionForm", unfollowed := true, recurses := true, apart := false, narrowed := true }
def RegionFormUptoSaid : Prop := regionFormUptoRow.holds Tryz.pinned (OpenSpec.upto regionFormSpec)

/-- 'pelliclelaw15.RegionSame', WHERE WHAT IT READS IS OF BULK AT MOST 1048576: true; the input reads as it did. -/
def regionSameUptoRow : OpenClaim := { program := "ytcmplpkmfbhpdaagreat", sum := "d336ba1f6b28d92f242dd063b4df5dd7e40b1b7ba4404899a4f7b81c35e20e8a", func := "pellicle/pelliclelaw15.RegionSame", spec := "regionSame", unfollowed := true, recurses := true, apart := false, narrowed := true }
def RegionSameUptoSaid : Prop := regionSameUptoRow.holds Tryz.pinned (OpenSpec.upto regionSameSpec)

end Rows
end Go.Proofs.YtcmplpkmfbhpdaaGreat
