/-
  DERIVED. GIVEN WITH THE SEED: THE CARDS: each row of YtdjklnlkocconaaGreatDoorRows.lean that lists a variable, with what it lists TIED to the program's text (the seventh form; the later family's looks); each row that meets fmt, with fmt's text TOLD by the authors' own Lean function (tested against real Go, not proved from fmt's source: count such statements apart). THE CARD IS WHAT COUNTS. Prove the row's statement (the work); the ties are given (YtdjklnlkocconaaGreatDoorTie.lean); close each card by the builder's one call (the guide's Derived/Test/ToyasCard.lean, 'card_holds'). Laid BY PROGRAM, IN A SANDBOX (cutbox-door.mjs). By AI agents, Wed Nov 11 2026. No macro, syntax, notation, axiom, sorry.
-/
import Derived.Test.YtdjklnlkocconaaGreatDoorRows
import GoSem.ClaimSeven
namespace Go.Proofs.YtdjklnlkocconaaGreatDoor
namespace Rows

/-- THE TIED CARD OF 'pelliclelaw24.BindChecks'. -/
def bindChecksCard : Claim7 := { stood := { row := bindChecksRow, standIns := [], harness := (true, "7809d4f5c8afe91544c0dc335821e2ecaf6863b77bab10d670b34ae316e60465"), looks := true }, kinds := [], alts := [], laidByText := true, laidKinds := [.data, .data, .data, .sentinel, .sentinel], laidTests := true, laidLooks := .later }
def BindChecksCardSaid : Prop := Claim7.holds Tryz.pinned (.plain (OpenSpec.ofChange bindChecksSpec)) bindChecksCard

/-- THE TIED CARD OF 'pelliclelaw24.BindNeeds'. -/
def bindNeedsCard : Claim7 := { stood := { row := bindNeedsRow, standIns := [], harness := (true, "7809d4f5c8afe91544c0dc335821e2ecaf6863b77bab10d670b34ae316e60465"), looks := true }, kinds := [], alts := [], laidByText := true, laidKinds := [.data, .data, .data, .sentinel, .sentinel], laidTests := true, laidLooks := .later }
def BindNeedsCardSaid : Prop := Claim7.holds Tryz.pinned (.plain (OpenSpec.ofChange bindNeedsSpec)) bindNeedsCard

/-- THE TIED CARD OF 'pelliclelaw24.BindLess'. -/
def bindLessCard : Claim7 := { stood := { row := bindLessRow, standIns := [], harness := (true, "7809d4f5c8afe91544c0dc335821e2ecaf6863b77bab10d670b34ae316e60465"), looks := true }, kinds := [], alts := [], laidByText := true, laidKinds := [.data, .data, .data, .sentinel, .sentinel], laidTests := true, laidLooks := .later }
def BindLessCardSaid : Prop := Claim7.holds Tryz.pinned (.plain (OpenSpec.ofChange bindLessSpec)) bindLessCard

/-- THE TIED CARD OF 'pelliclelaw24.BindNames'. -/
def bindNamesCard : Claim7 := { stood := { row := bindNamesRow, standIns := [], harness := (true, "7809d4f5c8afe91544c0dc335821e2ecaf6863b77bab10d670b34ae316e60465"), looks := true }, kinds := [], alts := [], laidByText := true, laidKinds := [.data, .data, .data, .sentinel, .sentinel], laidTests := true, laidLooks := .later }
def BindNamesCardSaid : Prop := Claim7.holds Tryz.pinned (.plain (OpenSpec.ofChange bindNamesSpec)) bindNamesCard

/-- THE SECOND FORM's CARD OF 'pelliclelaw24.BindChecks'. -/
def bindChecksUptoCard : Claim7 := { stood := { row := bindChecksUptoRow, standIns := [], harness := (true, "7809d4f5c8afe91544c0dc335821e2ecaf6863b77bab10d670b34ae316e60465"), looks := true }, kinds := [], alts := [], laidByText := true, laidKinds := [.data, .data, .data, .sentinel, .sentinel], laidTests := true, laidLooks := .later }
def BindChecksUptoCardSaid : Prop := Claim7.holds Tryz.pinned (.plain (OpenSpec.upto bindChecksSpec)) bindChecksUptoCard

/-- THE SECOND FORM's CARD OF 'pelliclelaw24.BindNeeds'. -/
def bindNeedsUptoCard : Claim7 := { stood := { row := bindNeedsUptoRow, standIns := [], harness := (true, "7809d4f5c8afe91544c0dc335821e2ecaf6863b77bab10d670b34ae316e60465"), looks := true }, kinds := [], alts := [], laidByText := true, laidKinds := [.data, .data, .data, .sentinel, .sentinel], laidTests := true, laidLooks := .later }
def BindNeedsUptoCardSaid : Prop := Claim7.holds Tryz.pinned (.plain (OpenSpec.upto bindNeedsSpec)) bindNeedsUptoCard

/-- THE SECOND FORM's CARD OF 'pelliclelaw24.BindLess'. -/
def bindLessUptoCard : Claim7 := { stood := { row := bindLessUptoRow, standIns := [], harness := (true, "7809d4f5c8afe91544c0dc335821e2ecaf6863b77bab10d670b34ae316e60465"), looks := true }, kinds := [], alts := [], laidByText := true, laidKinds := [.data, .data, .data, .sentinel, .sentinel], laidTests := true, laidLooks := .later }
def BindLessUptoCardSaid : Prop := Claim7.holds Tryz.pinned (.plain (OpenSpec.upto bindLessSpec)) bindLessUptoCard

/-- THE SECOND FORM's CARD OF 'pelliclelaw24.BindNames'. -/
def bindNamesUptoCard : Claim7 := { stood := { row := bindNamesUptoRow, standIns := [], harness := (true, "7809d4f5c8afe91544c0dc335821e2ecaf6863b77bab10d670b34ae316e60465"), looks := true }, kinds := [], alts := [], laidByText := true, laidKinds := [.data, .data, .data, .sentinel, .sentinel], laidTests := true, laidLooks := .later }
def BindNamesUptoCardSaid : Prop := Claim7.holds Tryz.pinned (.plain (OpenSpec.upto bindNamesSpec)) bindNamesUptoCard
end Rows
end Go.Proofs.YtdjklnlkocconaaGreatDoor
