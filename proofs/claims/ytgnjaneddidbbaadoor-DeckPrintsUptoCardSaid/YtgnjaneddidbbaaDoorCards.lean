/-
  DERIVED. GIVEN WITH THE SEED: THE CARDS: each row of YtgnjaneddidbbaaDoorRows.lean that lists a variable, with what it lists TIED to the program's text (the seventh form; the later family's looks); each row that meets fmt, with fmt's text TOLD by the authors' own Lean function (tested against real Go, not proved from fmt's source: count such statements apart). THE CARD IS WHAT COUNTS. Prove the row's statement (the work); the ties are given (YtgnjaneddidbbaaDoorTie.lean); close each card by the builder's one call (the guide's Derived/Test/ToyasCard.lean, 'card_holds'). Laid BY PROGRAM, IN A SANDBOX (cutbox-door.mjs). By AI agents, Wed Nov 11 2026. No macro, syntax, notation, axiom, sorry.
-/
import Derived.Test.YtgnjaneddidbbaaDoorRows
import GoSem.ClaimSeven
namespace Go.Proofs.YtgnjaneddidbbaaDoor
namespace Rows

/-- THE TIED CARD OF 'pelliclelaw22.LexTokens'. -/
def lexTokensCard : Claim7 := { stood := { row := lexTokensRow, standIns := [], harness := (true, "df019442eb7d9ce86d719aab12686320cd3d85c73f4cd2bfd08197a5dd771458"), looks := true }, kinds := [], alts := [], laidByText := true, laidKinds := [.data, .data, .data, .sentinel, .sentinel], laidTests := true, laidLooks := .later }
def LexTokensCardSaid : Prop := Claim7.holds Tryd.pinned (.plain (OpenSpec.ofChange lexTokensSpec)) lexTokensCard

/-- THE TIED CARD OF 'pelliclelaw22.LexBlanks'. -/
def lexBlanksCard : Claim7 := { stood := { row := lexBlanksRow, standIns := [], harness := (true, "df019442eb7d9ce86d719aab12686320cd3d85c73f4cd2bfd08197a5dd771458"), looks := true }, kinds := [], alts := [], laidByText := true, laidKinds := [.data, .data, .data, .sentinel, .sentinel], laidTests := true, laidLooks := .later }
def LexBlanksCardSaid : Prop := Claim7.holds Tryd.pinned (.plain (OpenSpec.ofChange lexBlanksSpec)) lexBlanksCard

/-- THE TIED CARD OF 'pelliclelaw22.LexCuts'. -/
def lexCutsCard : Claim7 := { stood := { row := lexCutsRow, standIns := [], harness := (true, "df019442eb7d9ce86d719aab12686320cd3d85c73f4cd2bfd08197a5dd771458"), looks := true }, kinds := [], alts := [], laidByText := true, laidKinds := [.data, .data, .data, .sentinel, .sentinel], laidTests := true, laidLooks := .later }
def LexCutsCardSaid : Prop := Claim7.holds Tryd.pinned (.plain (OpenSpec.ofChange lexCutsSpec)) lexCutsCard

/-- THE TIED CARD OF 'pelliclelaw23.DeckParses'. -/
def deckParsesCard : Claim7 := { stood := { row := deckParsesRow, standIns := [], harness := (true, "df019442eb7d9ce86d719aab12686320cd3d85c73f4cd2bfd08197a5dd771458"), looks := true }, kinds := [], alts := [], laidByText := true, laidKinds := [.data, .data, .data, .sentinel, .sentinel], laidTests := true, laidLooks := .later }
def DeckParsesCardSaid : Prop := Claim7.holds Tryd.pinned (.plain (OpenSpec.ofChange deckParsesSpec)) deckParsesCard

/-- THE TIED CARD OF 'pelliclelaw23.DeckJoins'. -/
def deckJoinsCard : Claim7 := { stood := { row := deckJoinsRow, standIns := [], harness := (true, "df019442eb7d9ce86d719aab12686320cd3d85c73f4cd2bfd08197a5dd771458"), looks := true }, kinds := [], alts := [], laidByText := true, laidKinds := [.data, .data, .data, .sentinel, .sentinel], laidTests := true, laidLooks := .later }
def DeckJoinsCardSaid : Prop := Claim7.holds Tryd.pinned (.plain (OpenSpec.ofChange deckJoinsSpec)) deckJoinsCard

/-- THE TIED CARD OF 'pelliclelaw23.DeckDeep'. -/
def deckDeepCard : Claim7 := { stood := { row := deckDeepRow, standIns := [], harness := (true, "df019442eb7d9ce86d719aab12686320cd3d85c73f4cd2bfd08197a5dd771458"), looks := true }, kinds := [], alts := [], laidByText := true, laidKinds := [.data, .data, .data, .sentinel, .sentinel], laidTests := true, laidLooks := .later }
def DeckDeepCardSaid : Prop := Claim7.holds Tryd.pinned (.plain (OpenSpec.ofChange deckDeepSpec)) deckDeepCard

/-- THE TIED CARD OF 'pelliclelaw23.DeckPrints'. -/
def deckPrintsCard : Claim7 := { stood := { row := deckPrintsRow, standIns := [], harness := (true, "df019442eb7d9ce86d719aab12686320cd3d85c73f4cd2bfd08197a5dd771458"), looks := true }, kinds := [], alts := [], laidByText := true, laidKinds := [.data, .data, .data, .sentinel, .sentinel], laidTests := true, laidLooks := .later }
def DeckPrintsCardSaid : Prop := Claim7.holds Tryd.pinned (.plain (OpenSpec.ofChange deckPrintsSpec)) deckPrintsCard

/-- THE TIED CARD OF 'pelliclelaw23.DeckBack'. -/
def deckBackCard : Claim7 := { stood := { row := deckBackRow, standIns := [], harness := (true, "df019442eb7d9ce86d719aab12686320cd3d85c73f4cd2bfd08197a5dd771458"), looks := true }, kinds := [], alts := [], laidByText := true, laidKinds := [.data, .data, .data, .sentinel, .sentinel], laidTests := true, laidLooks := .later }
def DeckBackCardSaid : Prop := Claim7.holds Tryd.pinned (.plain (OpenSpec.ofChange deckBackSpec)) deckBackCard

/-- THE SECOND FORM's CARD OF 'pelliclelaw22.LexTokens'. -/
def lexTokensUptoCard : Claim7 := { stood := { row := lexTokensUptoRow, standIns := [], harness := (true, "df019442eb7d9ce86d719aab12686320cd3d85c73f4cd2bfd08197a5dd771458"), looks := true }, kinds := [], alts := [], laidByText := true, laidKinds := [.data, .data, .data, .sentinel, .sentinel], laidTests := true, laidLooks := .later }
def LexTokensUptoCardSaid : Prop := Claim7.holds Tryd.pinned (.plain (OpenSpec.upto lexTokensSpec)) lexTokensUptoCard

/-- THE SECOND FORM's CARD OF 'pelliclelaw22.LexBlanks'. -/
def lexBlanksUptoCard : Claim7 := { stood := { row := lexBlanksUptoRow, standIns := [], harness := (true, "df019442eb7d9ce86d719aab12686320cd3d85c73f4cd2bfd08197a5dd771458"), looks := true }, kinds := [], alts := [], laidByText := true, laidKinds := [.data, .data, .data, .sentinel, .sentinel], laidTests := true, laidLooks := .later }
def LexBlanksUptoCardSaid : Prop := Claim7.holds Tryd.pinned (.plain (OpenSpec.upto lexBlanksSpec)) lexBlanksUptoCard

/-- THE SECOND FORM's CARD OF 'pelliclelaw22.LexCuts'. -/
def lexCutsUptoCard : Claim7 := { stood := { row := lexCutsUptoRow, standIns := [], harness := (true, "df019442eb7d9ce86d719aab12686320cd3d85c73f4cd2bfd08197a5dd771458"), looks := true }, kinds := [], alts := [], laidByText := true, laidKinds := [.data, .data, .data, .sentinel, .sentinel], laidTests := true, laidLooks := .later }
def LexCutsUptoCardSaid : Prop := Claim7.holds Tryd.pinned (.plain (OpenSpec.upto lexCutsSpec)) lexCutsUptoCard

/-- THE SECOND FORM's CARD OF 'pelliclelaw23.DeckParses'. -/
def deckParsesUptoCard : Claim7 := { stood := { row := deckParsesUptoRow, standIns := [], harness := (true, "df019442eb7d9ce86d719aab12686320cd3d85c73f4cd2bfd08197a5dd771458"), looks := true }, kinds := [], alts := [], laidByText := true, laidKinds := [.data, .data, .data, .sentinel, .sentinel], laidTests := true, laidLooks := .later }
def DeckParsesUptoCardSaid : Prop := Claim7.holds Tryd.pinned (.plain (OpenSpec.upto deckParsesSpec)) deckParsesUptoCard

/-- THE SECOND FORM's CARD OF 'pelliclelaw23.DeckJoins'. -/
def deckJoinsUptoCard : Claim7 := { stood := { row := deckJoinsUptoRow, standIns := [], harness := (true, "df019442eb7d9ce86d719aab12686320cd3d85c73f4cd2bfd08197a5dd771458"), looks := true }, kinds := [], alts := [], laidByText := true, laidKinds := [.data, .data, .data, .sentinel, .sentinel], laidTests := true, laidLooks := .later }
def DeckJoinsUptoCardSaid : Prop := Claim7.holds Tryd.pinned (.plain (OpenSpec.upto deckJoinsSpec)) deckJoinsUptoCard

/-- THE SECOND FORM's CARD OF 'pelliclelaw23.DeckDeep'. -/
def deckDeepUptoCard : Claim7 := { stood := { row := deckDeepUptoRow, standIns := [], harness := (true, "df019442eb7d9ce86d719aab12686320cd3d85c73f4cd2bfd08197a5dd771458"), looks := true }, kinds := [], alts := [], laidByText := true, laidKinds := [.data, .data, .data, .sentinel, .sentinel], laidTests := true, laidLooks := .later }
def DeckDeepUptoCardSaid : Prop := Claim7.holds Tryd.pinned (.plain (OpenSpec.upto deckDeepSpec)) deckDeepUptoCard

/-- THE SECOND FORM's CARD OF 'pelliclelaw23.DeckPrints'. -/
def deckPrintsUptoCard : Claim7 := { stood := { row := deckPrintsUptoRow, standIns := [], harness := (true, "df019442eb7d9ce86d719aab12686320cd3d85c73f4cd2bfd08197a5dd771458"), looks := true }, kinds := [], alts := [], laidByText := true, laidKinds := [.data, .data, .data, .sentinel, .sentinel], laidTests := true, laidLooks := .later }
def DeckPrintsUptoCardSaid : Prop := Claim7.holds Tryd.pinned (.plain (OpenSpec.upto deckPrintsSpec)) deckPrintsUptoCard

/-- THE SECOND FORM's CARD OF 'pelliclelaw23.DeckBack'. -/
def deckBackUptoCard : Claim7 := { stood := { row := deckBackUptoRow, standIns := [], harness := (true, "df019442eb7d9ce86d719aab12686320cd3d85c73f4cd2bfd08197a5dd771458"), looks := true }, kinds := [], alts := [], laidByText := true, laidKinds := [.data, .data, .data, .sentinel, .sentinel], laidTests := true, laidLooks := .later }
def DeckBackUptoCardSaid : Prop := Claim7.holds Tryd.pinned (.plain (OpenSpec.upto deckBackSpec)) deckBackUptoCard
end Rows
end Go.Proofs.YtgnjaneddidbbaaDoor
