/-
  DERIVED. GIVEN WITH THE SEED: THE CARDS: each row of YtecpgelhhbbjmaaDoorRows.lean that lists a variable, with what it lists TIED to the program's text (the seventh form; the later family's looks); each row that meets fmt, with fmt's text TOLD by the authors' own Lean function (tested against real Go, not proved from fmt's source: count such statements apart). THE CARD IS WHAT COUNTS. Prove the row's statement (the work); the ties are given (YtecpgelhhbbjmaaDoorTie.lean); close each card by the builder's one call (the guide's Derived/Test/ToyasCard.lean, 'card_holds'). Laid BY PROGRAM, IN A SANDBOX (cutbox-door.mjs). By AI agents, Wed Nov 11 2026. No macro, syntax, notation, axiom, sorry.
-/
import Derived.Test.YtecpgelhhbbjmaaDoorRows
import GoSem.ClaimSeven
namespace Go.Proofs.YtecpgelhhbbjmaaDoor
namespace Rows

/-- THE TIED CARD OF 'colanderlaw11.SniffBoms'. -/
def sniffBomsCard : Claim7 := { stood := { row := sniffBomsRow, standIns := [], harness := (true, "73796fea4a7d51da732bc7996c788deb5d8dadf87e9cf6f8050a0221ef02fb3a"), looks := true }, kinds := [], alts := [], laidByText := true, laidKinds := [.data, .pinned], laidTests := true, laidLooks := .later }
def SniffBomsCardSaid : Prop := Claim7.holds Tryd.pinned (.plain (OpenSpec.ofChange sniffBomsSpec)) sniffBomsCard

/-- THE TIED CARD OF 'colanderlaw11.SniffPrescans'. -/
def sniffPrescansCard : Claim7 := { stood := { row := sniffPrescansRow, standIns := [], harness := (true, "73796fea4a7d51da732bc7996c788deb5d8dadf87e9cf6f8050a0221ef02fb3a"), looks := true }, kinds := [], alts := [], laidByText := true, laidKinds := [.data, .pinned], laidTests := true, laidLooks := .later }
def SniffPrescansCardSaid : Prop := Claim7.holds Tryd.pinned (.plain (OpenSpec.ofChange sniffPrescansSpec)) sniffPrescansCard

/-- THE TIED CARD OF 'colanderlaw11.SniffFirst'. -/
def sniffFirstCard : Claim7 := { stood := { row := sniffFirstRow, standIns := [], harness := (true, "73796fea4a7d51da732bc7996c788deb5d8dadf87e9cf6f8050a0221ef02fb3a"), looks := true }, kinds := [], alts := [], laidByText := true, laidKinds := [.data, .pinned], laidTests := true, laidLooks := .later }
def SniffFirstCardSaid : Prop := Claim7.holds Tryd.pinned (.plain (OpenSpec.ofChange sniffFirstSpec)) sniffFirstCard

/-- THE TIED CARD OF 'colanderlaw11.SniffOrder'. -/
def sniffOrderCard : Claim7 := { stood := { row := sniffOrderRow, standIns := [], harness := (true, "73796fea4a7d51da732bc7996c788deb5d8dadf87e9cf6f8050a0221ef02fb3a"), looks := true }, kinds := [], alts := [], laidByText := true, laidKinds := [.data, .pinned], laidTests := true, laidLooks := .later }
def SniffOrderCardSaid : Prop := Claim7.holds Tryd.pinned (.plain (OpenSpec.ofChange sniffOrderSpec)) sniffOrderCard

/-- THE TIED CARD OF 'colanderlaw11.SniffReads'. -/
def sniffReadsCard : Claim7 := { stood := { row := sniffReadsRow, standIns := [], harness := (true, "73796fea4a7d51da732bc7996c788deb5d8dadf87e9cf6f8050a0221ef02fb3a"), looks := true }, kinds := [], alts := [], laidByText := true, laidKinds := [.data, .pinned], laidTests := true, laidLooks := .later }
def SniffReadsCardSaid : Prop := Claim7.holds Tryd.pinned (.plain (OpenSpec.ofChange sniffReadsSpec)) sniffReadsCard

/-- THE TIED CARD OF 'colanderlaw11.SniffMeta'. -/
def sniffMetaCard : Claim7 := { stood := { row := sniffMetaRow, standIns := [], harness := (true, "73796fea4a7d51da732bc7996c788deb5d8dadf87e9cf6f8050a0221ef02fb3a"), looks := true }, kinds := [], alts := [], laidByText := true, laidKinds := [.data, .pinned], laidTests := true, laidLooks := .later }
def SniffMetaCardSaid : Prop := Claim7.holds Tryd.pinned (.plain (OpenSpec.ofChange sniffMetaSpec)) sniffMetaCard

/-- THE TIED CARD OF 'colanderlaw11.SniffNothing'. -/
def sniffNothingCard : Claim7 := { stood := { row := sniffNothingRow, standIns := [], harness := (true, "73796fea4a7d51da732bc7996c788deb5d8dadf87e9cf6f8050a0221ef02fb3a"), looks := true }, kinds := [], alts := [], laidByText := true, laidKinds := [.data, .pinned], laidTests := true, laidLooks := .later }
def SniffNothingCardSaid : Prop := Claim7.holds Tryd.pinned (.plain (OpenSpec.ofChange sniffNothingSpec)) sniffNothingCard

/-- THE SECOND FORM's CARD OF 'colanderlaw11.SniffBoms'. -/
def sniffBomsUptoCard : Claim7 := { stood := { row := sniffBomsUptoRow, standIns := [], harness := (true, "73796fea4a7d51da732bc7996c788deb5d8dadf87e9cf6f8050a0221ef02fb3a"), looks := true }, kinds := [], alts := [], laidByText := true, laidKinds := [.data, .pinned], laidTests := true, laidLooks := .later }
def SniffBomsUptoCardSaid : Prop := Claim7.holds Tryd.pinned (.plain (OpenSpec.upto sniffBomsSpec)) sniffBomsUptoCard

/-- THE SECOND FORM's CARD OF 'colanderlaw11.SniffPrescans'. -/
def sniffPrescansUptoCard : Claim7 := { stood := { row := sniffPrescansUptoRow, standIns := [], harness := (true, "73796fea4a7d51da732bc7996c788deb5d8dadf87e9cf6f8050a0221ef02fb3a"), looks := true }, kinds := [], alts := [], laidByText := true, laidKinds := [.data, .pinned], laidTests := true, laidLooks := .later }
def SniffPrescansUptoCardSaid : Prop := Claim7.holds Tryd.pinned (.plain (OpenSpec.upto sniffPrescansSpec)) sniffPrescansUptoCard

/-- THE SECOND FORM's CARD OF 'colanderlaw11.SniffFirst'. -/
def sniffFirstUptoCard : Claim7 := { stood := { row := sniffFirstUptoRow, standIns := [], harness := (true, "73796fea4a7d51da732bc7996c788deb5d8dadf87e9cf6f8050a0221ef02fb3a"), looks := true }, kinds := [], alts := [], laidByText := true, laidKinds := [.data, .pinned], laidTests := true, laidLooks := .later }
def SniffFirstUptoCardSaid : Prop := Claim7.holds Tryd.pinned (.plain (OpenSpec.upto sniffFirstSpec)) sniffFirstUptoCard

/-- THE SECOND FORM's CARD OF 'colanderlaw11.SniffOrder'. -/
def sniffOrderUptoCard : Claim7 := { stood := { row := sniffOrderUptoRow, standIns := [], harness := (true, "73796fea4a7d51da732bc7996c788deb5d8dadf87e9cf6f8050a0221ef02fb3a"), looks := true }, kinds := [], alts := [], laidByText := true, laidKinds := [.data, .pinned], laidTests := true, laidLooks := .later }
def SniffOrderUptoCardSaid : Prop := Claim7.holds Tryd.pinned (.plain (OpenSpec.upto sniffOrderSpec)) sniffOrderUptoCard

/-- THE SECOND FORM's CARD OF 'colanderlaw11.SniffReads'. -/
def sniffReadsUptoCard : Claim7 := { stood := { row := sniffReadsUptoRow, standIns := [], harness := (true, "73796fea4a7d51da732bc7996c788deb5d8dadf87e9cf6f8050a0221ef02fb3a"), looks := true }, kinds := [], alts := [], laidByText := true, laidKinds := [.data, .pinned], laidTests := true, laidLooks := .later }
def SniffReadsUptoCardSaid : Prop := Claim7.holds Tryd.pinned (.plain (OpenSpec.upto sniffReadsSpec)) sniffReadsUptoCard

/-- THE SECOND FORM's CARD OF 'colanderlaw11.SniffMeta'. -/
def sniffMetaUptoCard : Claim7 := { stood := { row := sniffMetaUptoRow, standIns := [], harness := (true, "73796fea4a7d51da732bc7996c788deb5d8dadf87e9cf6f8050a0221ef02fb3a"), looks := true }, kinds := [], alts := [], laidByText := true, laidKinds := [.data, .pinned], laidTests := true, laidLooks := .later }
def SniffMetaUptoCardSaid : Prop := Claim7.holds Tryd.pinned (.plain (OpenSpec.upto sniffMetaSpec)) sniffMetaUptoCard

/-- THE SECOND FORM's CARD OF 'colanderlaw11.SniffNothing'. -/
def sniffNothingUptoCard : Claim7 := { stood := { row := sniffNothingUptoRow, standIns := [], harness := (true, "73796fea4a7d51da732bc7996c788deb5d8dadf87e9cf6f8050a0221ef02fb3a"), looks := true }, kinds := [], alts := [], laidByText := true, laidKinds := [.data, .pinned], laidTests := true, laidLooks := .later }
def SniffNothingUptoCardSaid : Prop := Claim7.holds Tryd.pinned (.plain (OpenSpec.upto sniffNothingSpec)) sniffNothingUptoCard
end Rows
end Go.Proofs.YtecpgelhhbbjmaaDoor
