/-
  DERIVED. GIVEN WITH THE SEED: THE CARDS: each row of YtmenoocaeakplaaDoorRows.lean that lists a variable, with what it lists TIED to the program's text (the seventh form; the later family's looks); each row that meets fmt, with fmt's text TOLD by the authors' own Lean function (tested against real Go, not proved from fmt's source: count such statements apart). THE CARD IS WHAT COUNTS. Prove the row's statement (the work); the ties are given (YtmenoocaeakplaaDoorTie.lean); close each card by the builder's one call (the guide's Derived/Test/ToyasCard.lean, 'card_holds'). Laid BY PROGRAM, IN A SANDBOX (cutbox-door.mjs). By AI agents, Wed Nov 11 2026. No macro, syntax, notation, axiom, sorry.
-/
import Derived.Test.YtmenoocaeakplaaDoorRows
import GoSem.ClaimSeven
namespace Go.Proofs.YtmenoocaeakplaaDoor
namespace Rows

/-- THE TIED CARD OF 'colanderlaw02.NumReads'. -/
def numReadsCard : Claim7 := { stood := { row := numReadsRow, standIns := [], harness := (true, "3fa39057ba8a08b78e9f815d5ea4cfa82360cf5fa1a0d72d6fdab495d9b6f03a"), looks := false }, kinds := [], alts := [], laidByText := true, laidKinds := [.data, .data, .data, .data, .pinned, .pinned], laidTests := true, laidLooks := .later }
def NumReadsCardSaid : Prop := Claim7.holds Tryd.pinned (.plain (OpenSpec.ofChange numReadsSpec)) numReadsCard

/-- THE TIED CARD OF 'colanderlaw02.NumWrites'. -/
def numWritesCard : Claim7 := { stood := { row := numWritesRow, standIns := [], harness := (true, "3fa39057ba8a08b78e9f815d5ea4cfa82360cf5fa1a0d72d6fdab495d9b6f03a"), looks := false }, kinds := [], alts := [], laidByText := true, laidKinds := [.data, .data, .data, .data, .pinned, .pinned], laidTests := true, laidLooks := .later }
def NumWritesCardSaid : Prop := Claim7.holds Tryd.pinned (.plain (OpenSpec.ofChange numWritesSpec)) numWritesCard

/-- THE TIED CARD OF 'colanderlaw02.NumBack'. -/
def numBackCard : Claim7 := { stood := { row := numBackRow, standIns := [], harness := (true, "3fa39057ba8a08b78e9f815d5ea4cfa82360cf5fa1a0d72d6fdab495d9b6f03a"), looks := false }, kinds := [], alts := [], laidByText := true, laidKinds := [.data, .data, .data, .data, .pinned, .pinned], laidTests := true, laidLooks := .later }
def NumBackCardSaid : Prop := Claim7.holds Tryd.pinned (.plain (OpenSpec.ofChange numBackSpec)) numBackCard

/-- THE TIED CARD OF 'colanderlaw02.NumOver'. -/
def numOverCard : Claim7 := { stood := { row := numOverRow, standIns := [], harness := (true, "3fa39057ba8a08b78e9f815d5ea4cfa82360cf5fa1a0d72d6fdab495d9b6f03a"), looks := false }, kinds := [], alts := [], laidByText := true, laidKinds := [.data, .data, .data, .data, .pinned, .pinned], laidTests := true, laidLooks := .later }
def NumOverCardSaid : Prop := Claim7.holds Tryd.pinned (.plain (OpenSpec.ofChange numOverSpec)) numOverCard

/-- THE SECOND FORM's CARD OF 'colanderlaw02.NumReads'. -/
def numReadsUptoCard : Claim7 := { stood := { row := numReadsUptoRow, standIns := [], harness := (true, "3fa39057ba8a08b78e9f815d5ea4cfa82360cf5fa1a0d72d6fdab495d9b6f03a"), looks := false }, kinds := [], alts := [], laidByText := true, laidKinds := [.data, .data, .data, .data, .pinned, .pinned], laidTests := true, laidLooks := .later }
def NumReadsUptoCardSaid : Prop := Claim7.holds Tryd.pinned (.plain (OpenSpec.upto numReadsSpec)) numReadsUptoCard

/-- THE SECOND FORM's CARD OF 'colanderlaw02.NumWrites'. -/
def numWritesUptoCard : Claim7 := { stood := { row := numWritesUptoRow, standIns := [], harness := (true, "3fa39057ba8a08b78e9f815d5ea4cfa82360cf5fa1a0d72d6fdab495d9b6f03a"), looks := false }, kinds := [], alts := [], laidByText := true, laidKinds := [.data, .data, .data, .data, .pinned, .pinned], laidTests := true, laidLooks := .later }
def NumWritesUptoCardSaid : Prop := Claim7.holds Tryd.pinned (.plain (OpenSpec.upto numWritesSpec)) numWritesUptoCard

/-- THE SECOND FORM's CARD OF 'colanderlaw02.NumBack'. -/
def numBackUptoCard : Claim7 := { stood := { row := numBackUptoRow, standIns := [], harness := (true, "3fa39057ba8a08b78e9f815d5ea4cfa82360cf5fa1a0d72d6fdab495d9b6f03a"), looks := false }, kinds := [], alts := [], laidByText := true, laidKinds := [.data, .data, .data, .data, .pinned, .pinned], laidTests := true, laidLooks := .later }
def NumBackUptoCardSaid : Prop := Claim7.holds Tryd.pinned (.plain (OpenSpec.upto numBackSpec)) numBackUptoCard

/-- THE SECOND FORM's CARD OF 'colanderlaw02.NumOver'. -/
def numOverUptoCard : Claim7 := { stood := { row := numOverUptoRow, standIns := [], harness := (true, "3fa39057ba8a08b78e9f815d5ea4cfa82360cf5fa1a0d72d6fdab495d9b6f03a"), looks := false }, kinds := [], alts := [], laidByText := true, laidKinds := [.data, .data, .data, .data, .pinned, .pinned], laidTests := true, laidLooks := .later }
def NumOverUptoCardSaid : Prop := Claim7.holds Tryd.pinned (.plain (OpenSpec.upto numOverSpec)) numOverUptoCard
end Rows
end Go.Proofs.YtmenoocaeakplaaDoor
