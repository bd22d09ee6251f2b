/-
  DERIVED. GIVEN WITH THE SEED: THE CARDS: each row of YtcmfgjiemjlogaaDoorRows.lean that lists a variable, with what it lists TIED to the program's text (the seventh form; the later family's looks); each row that meets fmt, with fmt's text TOLD by the authors' own Lean function (tested against real Go, not proved from fmt's source: count such statements apart). THE CARD IS WHAT COUNTS. Prove the row's statement (the work); the ties are given (YtcmfgjiemjlogaaDoorTie.lean); close each card by the builder's one call (the guide's Derived/Test/ToyasCard.lean, 'card_holds'). Laid BY PROGRAM, IN A SANDBOX (cutbox-door.mjs). By AI agents, Wed Nov 11 2026. No macro, syntax, notation, axiom, sorry.
-/
import Derived.Test.YtcmfgjiemjlogaaDoorRows
import GoSem.ClaimSeven
namespace Go.Proofs.YtcmfgjiemjlogaaDoor
namespace Rows

/-- THE TIED CARD OF 'colanderlaw09.LeafChars'. -/
def leafCharsCard : Claim7 := { stood := { row := leafCharsRow, standIns := [], harness := (true, "fc0c46aba0ad97d196e83065ddefd64df6822d3b1b87a4b5d35543a3b69028c4"), looks := false }, kinds := [], alts := [], laidByText := true, laidKinds := [.data, .pinned], laidTests := true, laidLooks := .later }
def LeafCharsCardSaid : Prop := Claim7.holds Tryd.pinned (.plain (OpenSpec.ofChange leafCharsSpec)) leafCharsCard

/-- THE TIED CARD OF 'colanderlaw09.LeafLabels'. -/
def leafLabelsCard : Claim7 := { stood := { row := leafLabelsRow, standIns := [], harness := (true, "fc0c46aba0ad97d196e83065ddefd64df6822d3b1b87a4b5d35543a3b69028c4"), looks := false }, kinds := [], alts := [], laidByText := true, laidKinds := [.data, .pinned], laidTests := true, laidLooks := .later }
def LeafLabelsCardSaid : Prop := Claim7.holds Tryd.pinned (.plain (OpenSpec.ofChange leafLabelsSpec)) leafLabelsCard

/-- THE TIED CARD OF 'colanderlaw09.LeafNames'. -/
def leafNamesCard : Claim7 := { stood := { row := leafNamesRow, standIns := [], harness := (true, "fc0c46aba0ad97d196e83065ddefd64df6822d3b1b87a4b5d35543a3b69028c4"), looks := false }, kinds := [], alts := [], laidByText := true, laidKinds := [.data, .pinned], laidTests := true, laidLooks := .later }
def LeafNamesCardSaid : Prop := Claim7.holds Tryd.pinned (.plain (OpenSpec.ofChange leafNamesSpec)) leafNamesCard

/-- THE TIED CARD OF 'colanderlaw09.LeafDecodes'. -/
def leafDecodesCard : Claim7 := { stood := { row := leafDecodesRow, standIns := [], harness := (true, "fc0c46aba0ad97d196e83065ddefd64df6822d3b1b87a4b5d35543a3b69028c4"), looks := false }, kinds := [], alts := [], laidByText := true, laidKinds := [.data, .pinned], laidTests := true, laidLooks := .later }
def LeafDecodesCardSaid : Prop := Claim7.holds Tryd.pinned (.plain (OpenSpec.ofChange leafDecodesSpec)) leafDecodesCard

/-- THE TIED CARD OF 'colanderlaw09.LeafBack'. -/
def leafBackCard : Claim7 := { stood := { row := leafBackRow, standIns := [], harness := (true, "fc0c46aba0ad97d196e83065ddefd64df6822d3b1b87a4b5d35543a3b69028c4"), looks := false }, kinds := [], alts := [], laidByText := true, laidKinds := [.data, .pinned], laidTests := true, laidLooks := .later }
def LeafBackCardSaid : Prop := Claim7.holds Tryd.pinned (.plain (OpenSpec.ofChange leafBackSpec)) leafBackCard

/-- THE TIED CARD OF 'colanderlaw09.LeafPieces'. -/
def leafPiecesCard : Claim7 := { stood := { row := leafPiecesRow, standIns := [], harness := (true, "fc0c46aba0ad97d196e83065ddefd64df6822d3b1b87a4b5d35543a3b69028c4"), looks := false }, kinds := [], alts := [], laidByText := true, laidKinds := [.data, .pinned], laidTests := true, laidLooks := .later }
def LeafPiecesCardSaid : Prop := Claim7.holds Tryd.pinned (.plain (OpenSpec.ofChange leafPiecesSpec)) leafPiecesCard

/-- THE TIED CARD OF 'colanderlaw09.LeafPlain'. -/
def leafPlainCard : Claim7 := { stood := { row := leafPlainRow, standIns := [], harness := (true, "fc0c46aba0ad97d196e83065ddefd64df6822d3b1b87a4b5d35543a3b69028c4"), looks := false }, kinds := [], alts := [], laidByText := true, laidKinds := [.data, .pinned], laidTests := true, laidLooks := .later }
def LeafPlainCardSaid : Prop := Claim7.holds Tryd.pinned (.plain (OpenSpec.ofChange leafPlainSpec)) leafPlainCard

/-- THE SECOND FORM's CARD OF 'colanderlaw09.LeafChars'. -/
def leafCharsUptoCard : Claim7 := { stood := { row := leafCharsUptoRow, standIns := [], harness := (true, "fc0c46aba0ad97d196e83065ddefd64df6822d3b1b87a4b5d35543a3b69028c4"), looks := false }, kinds := [], alts := [], laidByText := true, laidKinds := [.data, .pinned], laidTests := true, laidLooks := .later }
def LeafCharsUptoCardSaid : Prop := Claim7.holds Tryd.pinned (.plain (OpenSpec.upto leafCharsSpec)) leafCharsUptoCard

/-- THE SECOND FORM's CARD OF 'colanderlaw09.LeafLabels'. -/
def leafLabelsUptoCard : Claim7 := { stood := { row := leafLabelsUptoRow, standIns := [], harness := (true, "fc0c46aba0ad97d196e83065ddefd64df6822d3b1b87a4b5d35543a3b69028c4"), looks := false }, kinds := [], alts := [], laidByText := true, laidKinds := [.data, .pinned], laidTests := true, laidLooks := .later }
def LeafLabelsUptoCardSaid : Prop := Claim7.holds Tryd.pinned (.plain (OpenSpec.upto leafLabelsSpec)) leafLabelsUptoCard

/-- THE SECOND FORM's CARD OF 'colanderlaw09.LeafNames'. -/
def leafNamesUptoCard : Claim7 := { stood := { row := leafNamesUptoRow, standIns := [], harness := (true, "fc0c46aba0ad97d196e83065ddefd64df6822d3b1b87a4b5d35543a3b69028c4"), looks := false }, kinds := [], alts := [], laidByText := true, laidKinds := [.data, .pinned], laidTests := true, laidLooks := .later }
def LeafNamesUptoCardSaid : Prop := Claim7.holds Tryd.pinned (.plain (OpenSpec.upto leafNamesSpec)) leafNamesUptoCard

/-- THE SECOND FORM's CARD OF 'colanderlaw09.LeafDecodes'. -/
def leafDecodesUptoCard : Claim7 := { stood := { row := leafDecodesUptoRow, standIns := [], harness := (true, "fc0c46aba0ad97d196e83065ddefd64df6822d3b1b87a4b5d35543a3b69028c4"), looks := false }, kinds := [], alts := [], laidByText := true, laidKinds := [.data, .pinned], laidTests := true, laidLooks := .later }
def LeafDecodesUptoCardSaid : Prop := Claim7.holds Tryd.pinned (.plain (OpenSpec.upto leafDecodesSpec)) leafDecodesUptoCard

/-- THE SECOND FORM's CARD OF 'colanderlaw09.LeafBack'. -/
def leafBackUptoCard : Claim7 := { stood := { row := leafBackUptoRow, standIns := [], harness := (true, "fc0c46aba0ad97d196e83065ddefd64df6822d3b1b87a4b5d35543a3b69028c4"), looks := false }, kinds := [], alts := [], laidByText := true, laidKinds := [.data, .pinned], laidTests := true, laidLooks := .later }
def LeafBackUptoCardSaid : Prop := Claim7.holds Tryd.pinned (.plain (OpenSpec.upto leafBackSpec)) leafBackUptoCard

/-- THE SECOND FORM's CARD OF 'colanderlaw09.LeafPieces'. -/
def leafPiecesUptoCard : Claim7 := { stood := { row := leafPiecesUptoRow, standIns := [], harness := (true, "fc0c46aba0ad97d196e83065ddefd64df6822d3b1b87a4b5d35543a3b69028c4"), looks := false }, kinds := [], alts := [], laidByText := true, laidKinds := [.data, .pinned], laidTests := true, laidLooks := .later }
def LeafPiecesUptoCardSaid : Prop := Claim7.holds Tryd.pinned (.plain (OpenSpec.upto leafPiecesSpec)) leafPiecesUptoCard

/-- THE SECOND FORM's CARD OF 'colanderlaw09.LeafPlain'. -/
def leafPlainUptoCard : Claim7 := { stood := { row := leafPlainUptoRow, standIns := [], harness := (true, "fc0c46aba0ad97d196e83065ddefd64df6822d3b1b87a4b5d35543a3b69028c4"), looks := false }, kinds := [], alts := [], laidByText := true, laidKinds := [.data, .pinned], laidTests := true, laidLooks := .later }
def LeafPlainUptoCardSaid : Prop := Claim7.holds Tryd.pinned (.plain (OpenSpec.upto leafPlainSpec)) leafPlainUptoCard
end Rows
end Go.Proofs.YtcmfgjiemjlogaaDoor
