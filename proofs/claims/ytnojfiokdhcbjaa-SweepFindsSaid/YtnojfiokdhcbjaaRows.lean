/-
  No cell of these rows narrows 'for every input' (looked for: loops, veiled, ifaces, maps, wideKeys, modest, calm, conditions, laid).
  DERIVED. THE GIVEN ROWS OF THIS SEAT. 4 by the template 'for every input the law returns true; each argument reads behind the call as it read before'; 0 by the template 'total and deterministic' (their statements: YtnojfiokdhcbjaaTotals.lean).
  GIVEN WITH THE SEED: the statements are not yours to turn. If you find one false, say at which input.
  Laid BY PROGRAM, IN A SANDBOX (cutbox-rows.mjs): the forced cells as the released guide's own fill.sh prints them over the translation 6ac9dd6bf8db5595… (all of the seat's roots in one cut). By AI agents, Wed Nov 11 2026. No macro, syntax, notation, axiom, sorry.
-/
import Derived.Test.YtnojfiokdhcbjaaChecked
import GoSem.Claim
import GoSem.ClaimJoined
import GoSem.ClaimMapViews
import Derived.JoinedTies
import Derived.KernelRfl
namespace Go.Proofs.Ytnojfiokdhcbjaa
/- THE CELL 'sum', in the pinned program and in every row, IS THE sha256 OF THE DUMP (.gsa) THAT YtnojfiokdhcbjaaProg.lean LOADS. Nothing in Lean hashes anything: it is a label: what it is worth is what the hold of that sum in a sandbox is worth. -/
noncomputable def Try.pinned : Pinned := { name := "ytnojfiokdhcbjaa", sum := "6ac9dd6bf8db5595381c5bbb0d2177efaa4b591b68fda814c3b7a7793444b467", checked := Try.checked }
namespace Rows
def none {H : Type} : Left H := { results := [], args := [] }

/-- 'pelliclelaw20.SweepLong': WHATEVER THE INPUT: true; the input reads as it did. -/
def sweepLongSpec : ChangeSpec := { name := "sweepLong", fn := fun _ => fun
  | [d1, d2, d3] => { results := [.lit (.bool true)], args := [d1, d2, d3] }
  | _ => none }
def sweepLongRow : OpenClaim := { program := "ytnojfiokdhcbjaa", sum := "6ac9dd6bf8db5595381c5bbb0d2177efaa4b591b68fda814c3b7a7793444b467", func := "pellicle/pelliclelaw20.SweepLong", spec := "sweepLong", unfollowed := true, recurses := true, apart := false }
def SweepLongSaid : Prop := sweepLongRow.holds Try.pinned (OpenSpec.ofChange sweepLongSpec)

/-- ITS FALSE NEIGHBOUR: 'it returns false'. Refute it at one input. -/
def sweepLongWrong : ChangeSpec := { name := "sweepLong", fn := fun _ => fun
  | [d1, d2, d3] => { results := [.lit (.bool false)], args := [d1, d2, d3] }
  | _ => none }
def SweepLongWrongFalsely : Prop := sweepLongRow.holds Try.pinned (OpenSpec.ofChange sweepLongWrong)

/-- 'pelliclelaw20.SweepPairs': WHATEVER THE INPUT: true; the input reads as it did. -/
def sweepPairsSpec : ChangeSpec := { name := "sweepPairs", fn := fun _ => fun
  | [d1, d2, d3] => { results := [.lit (.bool true)], args := [d1, d2, d3] }
  | _ => none }
def sweepPairsRow : OpenClaim := { program := "ytnojfiokdhcbjaa", sum := "6ac9dd6bf8db5595381c5bbb0d2177efaa4b591b68fda814c3b7a7793444b467", func := "pellicle/pelliclelaw20.SweepPairs", spec := "sweepPairs", unfollowed := true, recurses := true, apart := false }
def SweepPairsSaid : Prop := sweepPairsRow.holds Try.pinned (OpenSpec.ofChange sweepPairsSpec)

/-- ITS FALSE NEIGHBOUR: 'it returns false'. Refute it at one input. -/
def sweepPairsWrong : ChangeSpec := { name := "sweepPairs", fn := fun _ => fun
  | [d1, d2, d3] => { results := [.lit (.bool false)], args := [d1, d2, d3] }
  | _ => none }
def SweepPairsWrongFalsely : Prop := sweepPairsRow.holds Try.pinned (OpenSpec.ofChange sweepPairsWrong)

/-- 'pelliclelaw20.SweepTurns': WHATEVER THE INPUT: true; the input reads as it did. -/
def sweepTurnsSpec : ChangeSpec := { name := "sweepTurns", fn := fun _ => fun
  | [d1, d2, d3, d4] => { results := [.lit (.bool true)], args := [d1, d2, d3, d4] }
  | _ => none }
def sweepTurnsRow : OpenClaim := { program := "ytnojfiokdhcbjaa", sum := "6ac9dd6bf8db5595381c5bbb0d2177efaa4b591b68fda814c3b7a7793444b467", func := "pellicle/pelliclelaw20.SweepTurns", spec := "sweepTurns", unfollowed := true, recurses := true, apart := false }
def SweepTurnsSaid : Prop := sweepTurnsRow.holds Try.pinned (OpenSpec.ofChange sweepTurnsSpec)

/-- ITS FALSE NEIGHBOUR: 'it returns false'. Refute it at one input. -/
def sweepTurnsWrong : ChangeSpec := { name := "sweepTurns", fn := fun _ => fun
  | [d1, d2, d3, d4] => { results := [.lit (.bool false)], args := [d1, d2, d3, d4] }
  | _ => none }
def SweepTurnsWrongFalsely : Prop := sweepTurnsRow.holds Try.pinned (OpenSpec.ofChange sweepTurnsWrong)

/-- 'pelliclelaw20.SweepFinds': WHATEVER THE INPUT: true; the input reads as it did. -/
def sweepFindsSpec : ChangeSpec := { name := "sweepFinds", fn := fun _ => fun
  | [d1, d2, d3] => { results := [.lit (.bool true)], args := [d1, d2, d3] }
  | _ => none }
def sweepFindsRow : OpenClaim := { program := "ytnojfiokdhcbjaa", sum := "6ac9dd6bf8db5595381c5bbb0d2177efaa4b591b68fda814c3b7a7793444b467", func := "pellicle/pelliclelaw20.SweepFinds", spec := "sweepFinds", unfollowed := true, recurses := true, apart := false }
def SweepFindsSaid : Prop := sweepFindsRow.holds Try.pinned (OpenSpec.ofChange sweepFindsSpec)

/-- ITS FALSE NEIGHBOUR: 'it returns false'. Refute it at one input. -/
def sweepFindsWrong : ChangeSpec := { name := "sweepFinds", fn := fun _ => fun
  | [d1, d2, d3] => { results := [.lit (.bool false)], args := [d1, d2, d3] }
  | _ => none }
def SweepFindsWrongFalsely : Prop := sweepFindsRow.holds Try.pinned (OpenSpec.ofChange sweepFindsWrong)

/- THE SECOND FORM. 'bulk': how many values and letters a reading holds, each counted each time it is reached (what is shared counts as often as it is met; a slice's spare places count too). A statement '..UptoSaid' is the law's where the arguments, and the package variables that the reading takes, are together of bulk at most 1048576: NARROWER than '..Said'. Prove '..Said' where nothing that the law and all that it calls make is longer than what came in: it says more and counts as full. Else prove '..UptoSaid'. A law counts once. -/
mutual
def uptoBulk {H : Type} : DataW H → Nat
  | .lit (.string bytes) => bytes.length + 1
  | .lit _ => 1
  | .nil => 1
  | .ptr d => uptoBulk d + 1
  | .slice elems spare => uptoBulkAll elems + uptoBulkAll spare + 1
  | .agg parts => uptoBulkAll parts + 1
  | .iface _ d => uptoBulk d + 1
  | .map entries => uptoBulkEntries entries + 1
  | .held _ => 1
def uptoBulkAll {H : Type} : List (DataW H) → Nat
  | [] => 0
  | d :: r => uptoBulk d + uptoBulkAll r
def uptoBulkEntries {H : Type} : List (Lit × DataW H) → Nat
  | [] => 0
  | x :: r => uptoBulkEntry x + uptoBulkEntries r
def uptoBulkEntry {H : Type} : Lit × DataW H → Nat
  | (.string bytes, d) => bytes.length + uptoBulk d + 1
  | (_, d) => uptoBulk d + 1
 end
def uptoSmall : (H : Type) → List (DataW H) → Bool := fun _ ds => decide (uptoBulkAll ds ≤ 1048576)
def OpenSpec.upto (s : _root_.Go.ChangeSpec) : _root_.Go.OpenSpec := { _root_.Go.OpenSpec.ofChange s with cond := some uptoSmall }

/-- 'pelliclelaw20.SweepLong', WHERE WHAT IT READS IS OF BULK AT MOST 1048576: true; the input reads as it did. -/
def sweepLongUptoRow : OpenClaim := { program := "ytnojfiokdhcbjaa", sum := "6ac9dd6bf8db5595381c5bbb0d2177efaa4b591b68fda814c3b7a7793444b467", func := "pellicle/pelliclelaw20.SweepLong", spec := "sweepLong", unfollowed := true, recurses := true, apart := false, narrowed := true }
def SweepLongUptoSaid : Prop := sweepLongUptoRow.holds Try.pinned (OpenSpec.upto sweepLongSpec)

/-- 'pelliclelaw20.SweepPairs', WHERE WHAT IT READS IS OF BULK AT MOST 1048576: true; the input reads as it did. -/
def sweepPairsUptoRow : OpenClaim := { program := "ytnojfiokdhcbjaa", sum := "6ac9dd6bf8db5595381c5bbb0d2177efaa4b591b68fda814c3b7a7793444b467", func := "pellicle/pelliclelaw20.SweepPairs", spec := "sweepPairs", unfollowed := true, recurses := true, apart := false, narrowed := true }
def SweepPairsUptoSaid : Prop := sweepPairsUptoRow.holds Try.pinned (OpenSpec.upto sweepPairsSpec)

/-- 'pelliclelaw20.SweepTurns', WHERE WHAT IT READS IS OF BULK AT MOST 1048576: true; the input reads as it did. -/
def sweepTurnsUptoRow : OpenClaim := { program := "ytnojfiokdhcbjaa", sum := "6ac9dd6bf8db5595381c5bbb0d2177efaa4b591b68fda814c3b7a7793444b467", func := "pellicle/pelliclelaw20.SweepTurns", spec := "sweepTurns", unfollowed := true, recurses := true, apart := false, narrowed := true }
def SweepTurnsUptoSaid : Prop := sweepTurnsUptoRow.holds Try.pinned (OpenSpec.upto sweepTurnsSpec)

/-- 'pelliclelaw20.SweepFinds', WHERE WHAT IT READS IS OF BULK AT MOST 1048576: true; the input reads as it did. -/
def sweepFindsUptoRow : OpenClaim := { program := "ytnojfiokdhcbjaa", sum := "6ac9dd6bf8db5595381c5bbb0d2177efaa4b591b68fda814c3b7a7793444b467", func := "pellicle/pelliclelaw20.SweepFinds", spec := "sweepFinds", unfollowed := true, recurses := true, apart := false, narrowed := true }
def SweepFindsUptoSaid : Prop := sweepFindsUptoRow.holds Try.pinned (OpenSpec.upto sweepFindsSpec)

end Rows
end Go.Proofs.Ytnojfiokdhcbjaa
