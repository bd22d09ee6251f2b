/-
  DERIVED. GIVEN WITH THE SEED: THE CARDS: each row of YtcikflhenbpdiaaDoorRows.lean that lists a variable, with what it lists TIED to the program's text (the seventh form; the later family's looks); each row that meets fmt, with fmt's text TOLD by the authors' own Lean function (tested against real Go, not proved from fmt's source: count such statements apart). THE CARD IS WHAT COUNTS. Prove the row's statement (the work); the ties are given (YtcikflhenbpdiaaDoorTie.lean); close each card by the builder's one call (the guide's Derived/Test/ToyasCard.lean, 'card_holds'). Laid BY PROGRAM, IN A SANDBOX (cutbox-door.mjs). By AI agents, Wed Nov 11 2026. No macro, syntax, notation, axiom, sorry.
-/
import Derived.Test.YtcikflhenbpdiaaDoorRows
import GoSem.ClaimSeven
namespace Go.Proofs.YtcikflhenbpdiaaDoor
namespace Rows

/-- THE TIED CARD OF 'colanderlaw06.FramingSays'. -/
def framingSaysCard : Claim7 := { stood := { row := framingSaysRow, standIns := [], harness := (true, "7767abbce92d9ac23d293ba5c2794fb67cb4ce42f092faa85d670b0f567c01cf"), looks := false }, kinds := [], alts := [], laidByText := true, laidKinds := [.data, .pinned, .pinned], laidTests := true, laidLooks := .later }
def FramingSaysCardSaid : Prop := Claim7.holds Tryd.pinned (.plain (OpenSpec.ofChange framingSaysSpec)) framingSaysCard

/-- THE TIED CARD OF 'colanderlaw06.FramingBoth'. -/
def framingBothCard : Claim7 := { stood := { row := framingBothRow, standIns := [], harness := (true, "7767abbce92d9ac23d293ba5c2794fb67cb4ce42f092faa85d670b0f567c01cf"), looks := false }, kinds := [], alts := [], laidByText := true, laidKinds := [.data, .pinned, .pinned], laidTests := true, laidLooks := .later }
def FramingBothCardSaid : Prop := Claim7.holds Tryd.pinned (.plain (OpenSpec.ofChange framingBothSpec)) framingBothCard

/-- THE TIED CARD OF 'colanderlaw06.FramingOthers'. -/
def framingOthersCard : Claim7 := { stood := { row := framingOthersRow, standIns := [], harness := (true, "7767abbce92d9ac23d293ba5c2794fb67cb4ce42f092faa85d670b0f567c01cf"), looks := false }, kinds := [], alts := [], laidByText := true, laidKinds := [.data, .pinned, .pinned], laidTests := true, laidLooks := .later }
def FramingOthersCardSaid : Prop := Claim7.holds Tryd.pinned (.plain (OpenSpec.ofChange framingOthersSpec)) framingOthersCard

/-- THE TIED CARD OF 'colanderlaw06.FramingAgrees'. -/
def framingAgreesCard : Claim7 := { stood := { row := framingAgreesRow, standIns := [], harness := (true, "7767abbce92d9ac23d293ba5c2794fb67cb4ce42f092faa85d670b0f567c01cf"), looks := false }, kinds := [], alts := [], laidByText := true, laidKinds := [.data, .data, .data, .data, .pinned, .pinned], laidTests := true, laidLooks := .later }
def FramingAgreesCardSaid : Prop := Claim7.holds Tryd.pinned (.plain (OpenSpec.ofChange framingAgreesSpec)) framingAgreesCard

/-- THE SECOND FORM's CARD OF 'colanderlaw06.FramingSays'. -/
def framingSaysUptoCard : Claim7 := { stood := { row := framingSaysUptoRow, standIns := [], harness := (true, "7767abbce92d9ac23d293ba5c2794fb67cb4ce42f092faa85d670b0f567c01cf"), looks := false }, kinds := [], alts := [], laidByText := true, laidKinds := [.data, .pinned, .pinned], laidTests := true, laidLooks := .later }
def FramingSaysUptoCardSaid : Prop := Claim7.holds Tryd.pinned (.plain (OpenSpec.upto framingSaysSpec)) framingSaysUptoCard

/-- THE SECOND FORM's CARD OF 'colanderlaw06.FramingBoth'. -/
def framingBothUptoCard : Claim7 := { stood := { row := framingBothUptoRow, standIns := [], harness := (true, "7767abbce92d9ac23d293ba5c2794fb67cb4ce42f092faa85d670b0f567c01cf"), looks := false }, kinds := [], alts := [], laidByText := true, laidKinds := [.data, .pinned, .pinned], laidTests := true, laidLooks := .later }
def FramingBothUptoCardSaid : Prop := Claim7.holds Tryd.pinned (.plain (OpenSpec.upto framingBothSpec)) framingBothUptoCard

/-- THE SECOND FORM's CARD OF 'colanderlaw06.FramingOthers'. -/
def framingOthersUptoCard : Claim7 := { stood := { row := framingOthersUptoRow, standIns := [], harness := (true, "7767abbce92d9ac23d293ba5c2794fb67cb4ce42f092faa85d670b0f567c01cf"), looks := false }, kinds := [], alts := [], laidByText := true, laidKinds := [.data, .pinned, .pinned], laidTests := true, laidLooks := .later }
def FramingOthersUptoCardSaid : Prop := Claim7.holds Tryd.pinned (.plain (OpenSpec.upto framingOthersSpec)) framingOthersUptoCard

/-- THE SECOND FORM's CARD OF 'colanderlaw06.FramingAgrees'. -/
def framingAgreesUptoCard : Claim7 := { stood := { row := framingAgreesUptoRow, standIns := [], harness := (true, "7767abbce92d9ac23d293ba5c2794fb67cb4ce42f092faa85d670b0f567c01cf"), looks := false }, kinds := [], alts := [], laidByText := true, laidKinds := [.data, .data, .data, .data, .pinned, .pinned], laidTests := true, laidLooks := .later }
def FramingAgreesUptoCardSaid : Prop := Claim7.holds Tryd.pinned (.plain (OpenSpec.upto framingAgreesSpec)) framingAgreesUptoCard
end Rows
end Go.Proofs.YtcikflhenbpdiaaDoor
