/-
  DERIVED. GIVEN WITH THE SEED: THE CARDS: each row of YtbcmngnmfneeaaaGreatDoorRows.lean that lists a variable, with what it lists TIED to the program's text (the seventh form; the later family's looks); each row that meets fmt, with fmt's text TOLD by the authors' own Lean function (tested against real Go, not proved from fmt's source: count such statements apart). THE CARD IS WHAT COUNTS. Prove the row's statement (the work); the ties are given (YtbcmngnmfneeaaaGreatDoorTie.lean); close each card by the builder's one call (the guide's Derived/Test/ToyasCard.lean, 'card_holds'). Laid BY PROGRAM, IN A SANDBOX (cutbox-door.mjs). By AI agents, Wed Nov 11 2026. No macro, syntax, notation, axiom, sorry.
-/
import Derived.Test.YtbcmngnmfneeaaaGreatDoorRows
import GoSem.ClaimSeven
namespace Go.Proofs.YtbcmngnmfneeaaaGreatDoor
namespace Rows

/-- THE TIED CARD OF 'colanderlaw05.HeadWhole'. -/
def headWholeCard : Claim7 := { stood := { row := headWholeRow, standIns := [], harness := (true, "1b2935a303877cb679dc337ae1c6c2238ff59bed0feeea689d2d430b5b5ad453"), looks := true }, kinds := [], alts := [], laidByText := true, laidKinds := [.data, .handle, .pinned, .pinned], laidTests := true, laidLooks := .later }
def HeadWholeCardSaid : Prop := Claim7.holds Tryz.pinned (.plain (OpenSpec.ofChange headWholeSpec)) headWholeCard

/-- THE TIED CARD OF 'colanderlaw05.HeadTexts'. -/
def headTextsCard : Claim7 := { stood := { row := headTextsRow, standIns := [], harness := (true, "1b2935a303877cb679dc337ae1c6c2238ff59bed0feeea689d2d430b5b5ad453"), looks := true }, kinds := [], alts := [], laidByText := true, laidKinds := [.data, .data, .data, .data, .pinned, .pinned], laidTests := true, laidLooks := .later }
def HeadTextsCardSaid : Prop := Claim7.holds Tryz.pinned (.plain (OpenSpec.ofChange headTextsSpec)) headTextsCard

/-- THE TIED CARD OF 'colanderlaw05.HeadOnce'. -/
def headOnceCard : Claim7 := { stood := { row := headOnceRow, standIns := [], harness := (true, "1b2935a303877cb679dc337ae1c6c2238ff59bed0feeea689d2d430b5b5ad453"), looks := true }, kinds := [], alts := [], laidByText := true, laidKinds := [.data, .data, .data, .data, .pinned, .pinned], laidTests := true, laidLooks := .later }
def HeadOnceCardSaid : Prop := Claim7.holds Tryz.pinned (.plain (OpenSpec.ofChange headOnceSpec)) headOnceCard

/-- THE SECOND FORM's CARD OF 'colanderlaw05.HeadWhole'. -/
def headWholeUptoCard : Claim7 := { stood := { row := headWholeUptoRow, standIns := [], harness := (true, "1b2935a303877cb679dc337ae1c6c2238ff59bed0feeea689d2d430b5b5ad453"), looks := true }, kinds := [], alts := [], laidByText := true, laidKinds := [.data, .handle, .pinned, .pinned], laidTests := true, laidLooks := .later }
def HeadWholeUptoCardSaid : Prop := Claim7.holds Tryz.pinned (.plain (OpenSpec.upto headWholeSpec)) headWholeUptoCard

/-- THE SECOND FORM's CARD OF 'colanderlaw05.HeadTexts'. -/
def headTextsUptoCard : Claim7 := { stood := { row := headTextsUptoRow, standIns := [], harness := (true, "1b2935a303877cb679dc337ae1c6c2238ff59bed0feeea689d2d430b5b5ad453"), looks := true }, kinds := [], alts := [], laidByText := true, laidKinds := [.data, .data, .data, .data, .pinned, .pinned], laidTests := true, laidLooks := .later }
def HeadTextsUptoCardSaid : Prop := Claim7.holds Tryz.pinned (.plain (OpenSpec.upto headTextsSpec)) headTextsUptoCard

/-- THE SECOND FORM's CARD OF 'colanderlaw05.HeadOnce'. -/
def headOnceUptoCard : Claim7 := { stood := { row := headOnceUptoRow, standIns := [], harness := (true, "1b2935a303877cb679dc337ae1c6c2238ff59bed0feeea689d2d430b5b5ad453"), looks := true }, kinds := [], alts := [], laidByText := true, laidKinds := [.data, .data, .data, .data, .pinned, .pinned], laidTests := true, laidLooks := .later }
def HeadOnceUptoCardSaid : Prop := Claim7.holds Tryz.pinned (.plain (OpenSpec.upto headOnceSpec)) headOnceUptoCard
end Rows
end Go.Proofs.YtbcmngnmfneeaaaGreatDoor
