/-
  DERIVED. GIVEN WITH THE SEED: THE CARDS: each row of YteahieldmfehlaaDoorRows.lean that lists a variable, with what it lists TIED to the program's text (the seventh form; the later family's looks); each row that meets fmt, with fmt's text TOLD by the authors' own Lean function (tested against real Go, not proved from fmt's source: count such statements apart). THE CARD IS WHAT COUNTS. Prove the row's statement (the work); the ties are given (YteahieldmfehlaaDoorTie.lean); close each card by the builder's one call (the guide's Derived/Test/ToyasCard.lean, 'card_holds'). Laid BY PROGRAM, IN A SANDBOX (cutbox-door.mjs). By AI agents, Wed Nov 11 2026. No macro, syntax, notation, axiom, sorry.
-/
import Derived.Test.YteahieldmfehlaaDoorRows
import GoSem.ClaimSeven
namespace Go.Proofs.YteahieldmfehlaaDoor
namespace Rows

/-- THE TIED CARD OF 'colanderlaw03.LexQuotes'. -/
def lexQuotesCard : Claim7 := { stood := { row := lexQuotesRow, standIns := [], harness := (true, "b2338534f9457072f7bf3d40f233bf92cb37251f1a7c6a5256837b8de859892f"), looks := false }, kinds := [], alts := [], laidByText := true, laidKinds := [.data, .pinned], laidTests := true, laidLooks := .later }
def LexQuotesCardSaid : Prop := Claim7.holds Tryd.pinned (.plain (OpenSpec.ofChange lexQuotesSpec)) lexQuotesCard

/-- THE TIED CARD OF 'colanderlaw03.LexLists'. -/
def lexListsCard : Claim7 := { stood := { row := lexListsRow, standIns := [], harness := (true, "b2338534f9457072f7bf3d40f233bf92cb37251f1a7c6a5256837b8de859892f"), looks := false }, kinds := [], alts := [], laidByText := true, laidKinds := [.data, .pinned], laidTests := true, laidLooks := .later }
def LexListsCardSaid : Prop := Claim7.holds Tryd.pinned (.plain (OpenSpec.ofChange lexListsSpec)) lexListsCard

/-- THE TIED CARD OF 'colanderlaw03.LexMedias'. -/
def lexMediasCard : Claim7 := { stood := { row := lexMediasRow, standIns := [], harness := (true, "b2338534f9457072f7bf3d40f233bf92cb37251f1a7c6a5256837b8de859892f"), looks := false }, kinds := [], alts := [], laidByText := true, laidKinds := [.data, .pinned], laidTests := true, laidLooks := .later }
def LexMediasCardSaid : Prop := Claim7.holds Tryd.pinned (.plain (OpenSpec.ofChange lexMediasSpec)) lexMediasCard

/-- THE TIED CARD OF 'colanderlaw03.LexQuoted'. -/
def lexQuotedCard : Claim7 := { stood := { row := lexQuotedRow, standIns := [], harness := (true, "b2338534f9457072f7bf3d40f233bf92cb37251f1a7c6a5256837b8de859892f"), looks := false }, kinds := [], alts := [], laidByText := true, laidKinds := [.data, .pinned], laidTests := true, laidLooks := .later }
def LexQuotedCardSaid : Prop := Claim7.holds Tryd.pinned (.plain (OpenSpec.ofChange lexQuotedSpec)) lexQuotedCard

/-- THE TIED CARD OF 'colanderlaw03.LexJoined'. -/
def lexJoinedCard : Claim7 := { stood := { row := lexJoinedRow, standIns := [], harness := (true, "b2338534f9457072f7bf3d40f233bf92cb37251f1a7c6a5256837b8de859892f"), looks := false }, kinds := [], alts := [], laidByText := true, laidKinds := [.data, .pinned], laidTests := true, laidLooks := .later }
def LexJoinedCardSaid : Prop := Claim7.holds Tryd.pinned (.plain (OpenSpec.ofChange lexJoinedSpec)) lexJoinedCard

/-- THE TIED CARD OF 'colanderlaw03.LexMeant'. -/
def lexMeantCard : Claim7 := { stood := { row := lexMeantRow, standIns := [], harness := (true, "b2338534f9457072f7bf3d40f233bf92cb37251f1a7c6a5256837b8de859892f"), looks := false }, kinds := [], alts := [], laidByText := true, laidKinds := [.data, .pinned], laidTests := true, laidLooks := .later }
def LexMeantCardSaid : Prop := Claim7.holds Tryd.pinned (.plain (OpenSpec.ofChange lexMeantSpec)) lexMeantCard

/-- THE TIED CARD OF 'colanderlaw03.LexWords'. -/
def lexWordsCard : Claim7 := { stood := { row := lexWordsRow, standIns := [], harness := (true, "b2338534f9457072f7bf3d40f233bf92cb37251f1a7c6a5256837b8de859892f"), looks := false }, kinds := [], alts := [], laidByText := true, laidKinds := [.data, .pinned], laidTests := true, laidLooks := .later }
def LexWordsCardSaid : Prop := Claim7.holds Tryd.pinned (.plain (OpenSpec.ofChange lexWordsSpec)) lexWordsCard

/-- THE SECOND FORM's CARD OF 'colanderlaw03.LexQuotes'. -/
def lexQuotesUptoCard : Claim7 := { stood := { row := lexQuotesUptoRow, standIns := [], harness := (true, "b2338534f9457072f7bf3d40f233bf92cb37251f1a7c6a5256837b8de859892f"), looks := false }, kinds := [], alts := [], laidByText := true, laidKinds := [.data, .pinned], laidTests := true, laidLooks := .later }
def LexQuotesUptoCardSaid : Prop := Claim7.holds Tryd.pinned (.plain (OpenSpec.upto lexQuotesSpec)) lexQuotesUptoCard

/-- THE SECOND FORM's CARD OF 'colanderlaw03.LexLists'. -/
def lexListsUptoCard : Claim7 := { stood := { row := lexListsUptoRow, standIns := [], harness := (true, "b2338534f9457072f7bf3d40f233bf92cb37251f1a7c6a5256837b8de859892f"), looks := false }, kinds := [], alts := [], laidByText := true, laidKinds := [.data, .pinned], laidTests := true, laidLooks := .later }
def LexListsUptoCardSaid : Prop := Claim7.holds Tryd.pinned (.plain (OpenSpec.upto lexListsSpec)) lexListsUptoCard

/-- THE SECOND FORM's CARD OF 'colanderlaw03.LexMedias'. -/
def lexMediasUptoCard : Claim7 := { stood := { row := lexMediasUptoRow, standIns := [], harness := (true, "b2338534f9457072f7bf3d40f233bf92cb37251f1a7c6a5256837b8de859892f"), looks := false }, kinds := [], alts := [], laidByText := true, laidKinds := [.data, .pinned], laidTests := true, laidLooks := .later }
def LexMediasUptoCardSaid : Prop := Claim7.holds Tryd.pinned (.plain (OpenSpec.upto lexMediasSpec)) lexMediasUptoCard

/-- THE SECOND FORM's CARD OF 'colanderlaw03.LexQuoted'. -/
def lexQuotedUptoCard : Claim7 := { stood := { row := lexQuotedUptoRow, standIns := [], harness := (true, "b2338534f9457072f7bf3d40f233bf92cb37251f1a7c6a5256837b8de859892f"), looks := false }, kinds := [], alts := [], laidByText := true, laidKinds := [.data, .pinned], laidTests := true, laidLooks := .later }
def LexQuotedUptoCardSaid : Prop := Claim7.holds Tryd.pinned (.plain (OpenSpec.upto lexQuotedSpec)) lexQuotedUptoCard

/-- THE SECOND FORM's CARD OF 'colanderlaw03.LexJoined'. -/
def lexJoinedUptoCard : Claim7 := { stood := { row := lexJoinedUptoRow, standIns := [], harness := (true, "b2338534f9457072f7bf3d40f233bf92cb37251f1a7c6a5256837b8de859892f"), looks := false }, kinds := [], alts := [], laidByText := true, laidKinds := [.data, .pinned], laidTests := true, laidLooks := .later }
def LexJoinedUptoCardSaid : Prop := Claim7.holds Tryd.pinned (.plain (OpenSpec.upto lexJoinedSpec)) lexJoinedUptoCard

/-- THE SECOND FORM's CARD OF 'colanderlaw03.LexMeant'. -/
def lexMeantUptoCard : Claim7 := { stood := { row := lexMeantUptoRow, standIns := [], harness := (true, "b2338534f9457072f7bf3d40f233bf92cb37251f1a7c6a5256837b8de859892f"), looks := false }, kinds := [], alts := [], laidByText := true, laidKinds := [.data, .pinned], laidTests := true, laidLooks := .later }
def LexMeantUptoCardSaid : Prop := Claim7.holds Tryd.pinned (.plain (OpenSpec.upto lexMeantSpec)) lexMeantUptoCard

/-- THE SECOND FORM's CARD OF 'colanderlaw03.LexWords'. -/
def lexWordsUptoCard : Claim7 := { stood := { row := lexWordsUptoRow, standIns := [], harness := (true, "b2338534f9457072f7bf3d40f233bf92cb37251f1a7c6a5256837b8de859892f"), looks := false }, kinds := [], alts := [], laidByText := true, laidKinds := [.data, .pinned], laidTests := true, laidLooks := .later }
def LexWordsUptoCardSaid : Prop := Claim7.holds Tryd.pinned (.plain (OpenSpec.upto lexWordsSpec)) lexWordsUptoCard
end Rows
end Go.Proofs.YteahieldmfehlaaDoor
