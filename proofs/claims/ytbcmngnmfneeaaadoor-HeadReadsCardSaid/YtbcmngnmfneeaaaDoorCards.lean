/-
  DERIVED. GIVEN WITH THE SEED: THE CARDS: each row of YtbcmngnmfneeaaaDoorRows.lean that lists a variable, with what it lists TIED to the program's text (the seventh form; the later family's looks); each row that meets fmt, with fmt's text TOLD by the authors' own Lean function (tested against real Go, not proved from fmt's source: count such statements apart). THE CARD IS WHAT COUNTS. Prove the row's statement (the work); the ties are given (YtbcmngnmfneeaaaDoorTie.lean); close each card by the builder's one call (the guide's Derived/Test/ToyasCard.lean, 'card_holds'). Laid BY PROGRAM, IN A SANDBOX (cutbox-door.mjs). By AI agents, Wed Nov 11 2026. No macro, syntax, notation, axiom, sorry.
-/
import Derived.Test.YtbcmngnmfneeaaaDoorRows
import GoSem.ClaimSeven
namespace Go.Proofs.YtbcmngnmfneeaaaDoor
namespace Rows

/-- THE TIED CARD OF 'colanderlaw05.HeadSmuggled'. -/
def headSmuggledCard : Claim7 := { stood := { row := headSmuggledRow, standIns := [], harness := (true, "912b06f1ba81cbe5933d84cb7216dd0ec5950dcd54a5a20ea1d73670df4dd425"), looks := true }, kinds := [], alts := [], laidByText := true, laidKinds := [.data, .pinned, .pinned], laidTests := true, laidLooks := .later }
def HeadSmuggledCardSaid : Prop := Claim7.holds Tryd.pinned (.plain (OpenSpec.ofChange headSmuggledSpec)) headSmuggledCard

/-- THE TIED CARD OF 'colanderlaw05.HeadReads'. -/
def headReadsCard : Claim7 := { stood := { row := headReadsRow, standIns := [], harness := (true, "912b06f1ba81cbe5933d84cb7216dd0ec5950dcd54a5a20ea1d73670df4dd425"), looks := true }, kinds := [], alts := [], laidByText := true, laidKinds := [.data, .pinned, .pinned], laidTests := true, laidLooks := .later }
def HeadReadsCardSaid : Prop := Claim7.holds Tryd.pinned (.plain (OpenSpec.ofChange headReadsSpec)) headReadsCard

/-- THE SECOND FORM's CARD OF 'colanderlaw05.HeadSmuggled'. -/
def headSmuggledUptoCard : Claim7 := { stood := { row := headSmuggledUptoRow, standIns := [], harness := (true, "912b06f1ba81cbe5933d84cb7216dd0ec5950dcd54a5a20ea1d73670df4dd425"), looks := true }, kinds := [], alts := [], laidByText := true, laidKinds := [.data, .pinned, .pinned], laidTests := true, laidLooks := .later }
def HeadSmuggledUptoCardSaid : Prop := Claim7.holds Tryd.pinned (.plain (OpenSpec.upto headSmuggledSpec)) headSmuggledUptoCard

/-- THE SECOND FORM's CARD OF 'colanderlaw05.HeadReads'. -/
def headReadsUptoCard : Claim7 := { stood := { row := headReadsUptoRow, standIns := [], harness := (true, "912b06f1ba81cbe5933d84cb7216dd0ec5950dcd54a5a20ea1d73670df4dd425"), looks := true }, kinds := [], alts := [], laidByText := true, laidKinds := [.data, .pinned, .pinned], laidTests := true, laidLooks := .later }
def HeadReadsUptoCardSaid : Prop := Claim7.holds Tryd.pinned (.plain (OpenSpec.upto headReadsSpec)) headReadsUptoCard
end Rows
end Go.Proofs.YtbcmngnmfneeaaaDoor
