/-
  DERIVED. GIVEN WITH THE SEED: THE CARDS: each row of YtmelgmhcamjfiaaDoorRows.lean that lists a variable, with what it lists TIED to the program's text (the seventh form; the later family's looks); each row that meets fmt, with fmt's text TOLD by the authors' own Lean function (tested against real Go, not proved from fmt's source: count such statements apart). THE CARD IS WHAT COUNTS. Prove the row's statement (the work); the ties are given (YtmelgmhcamjfiaaDoorTie.lean); close each card by the builder's one call (the guide's Derived/Test/ToyasCard.lean, 'card_holds'). Laid BY PROGRAM, IN A SANDBOX (cutbox-door.mjs). By AI agents, Wed Nov 11 2026. No macro, syntax, notation, axiom, sorry.
-/
import Derived.Test.YtmelgmhcamjfiaaDoorRows
import GoSem.ClaimSeven
namespace Go.Proofs.YtmelgmhcamjfiaaDoor
namespace Rows

/-- THE TIED CARD OF 'colanderlaw04.FieldsRights'. -/
def fieldsRightsCard : Claim7 := { stood := { row := fieldsRightsRow, standIns := [], harness := (true, "cdd5e7fb076bd00f370482b4c760076e7c15e959f1513eaa385da86be8e521a8"), looks := false }, kinds := [], alts := [], laidByText := true, laidKinds := [.data, .pinned], laidTests := true, laidLooks := .later }
def FieldsRightsCardSaid : Prop := Claim7.holds Tryd.pinned (.plain (OpenSpec.ofChange fieldsRightsSpec)) fieldsRightsCard

/-- THE TIED CARD OF 'colanderlaw04.FieldsNames'. -/
def fieldsNamesCard : Claim7 := { stood := { row := fieldsNamesRow, standIns := [], harness := (true, "cdd5e7fb076bd00f370482b4c760076e7c15e959f1513eaa385da86be8e521a8"), looks := false }, kinds := [], alts := [], laidByText := true, laidKinds := [.data, .pinned], laidTests := true, laidLooks := .later }
def FieldsNamesCardSaid : Prop := Claim7.holds Tryd.pinned (.plain (OpenSpec.ofChange fieldsNamesSpec)) fieldsNamesCard

/-- THE TIED CARD OF 'colanderlaw04.FieldsMembers'. -/
def fieldsMembersCard : Claim7 := { stood := { row := fieldsMembersRow, standIns := [], harness := (true, "cdd5e7fb076bd00f370482b4c760076e7c15e959f1513eaa385da86be8e521a8"), looks := false }, kinds := [], alts := [], laidByText := true, laidKinds := [.data, .pinned], laidTests := true, laidLooks := .later }
def FieldsMembersCardSaid : Prop := Claim7.holds Tryd.pinned (.plain (OpenSpec.ofChange fieldsMembersSpec)) fieldsMembersCard

/-- THE TIED CARD OF 'colanderlaw04.FieldsParted'. -/
def fieldsPartedCard : Claim7 := { stood := { row := fieldsPartedRow, standIns := [], harness := (true, "cdd5e7fb076bd00f370482b4c760076e7c15e959f1513eaa385da86be8e521a8"), looks := false }, kinds := [], alts := [], laidByText := true, laidKinds := [.data, .pinned], laidTests := true, laidLooks := .later }
def FieldsPartedCardSaid : Prop := Claim7.holds Tryd.pinned (.plain (OpenSpec.ofChange fieldsPartedSpec)) fieldsPartedCard

/-- THE SECOND FORM's CARD OF 'colanderlaw04.FieldsRights'. -/
def fieldsRightsUptoCard : Claim7 := { stood := { row := fieldsRightsUptoRow, standIns := [], harness := (true, "cdd5e7fb076bd00f370482b4c760076e7c15e959f1513eaa385da86be8e521a8"), looks := false }, kinds := [], alts := [], laidByText := true, laidKinds := [.data, .pinned], laidTests := true, laidLooks := .later }
def FieldsRightsUptoCardSaid : Prop := Claim7.holds Tryd.pinned (.plain (OpenSpec.upto fieldsRightsSpec)) fieldsRightsUptoCard

/-- THE SECOND FORM's CARD OF 'colanderlaw04.FieldsNames'. -/
def fieldsNamesUptoCard : Claim7 := { stood := { row := fieldsNamesUptoRow, standIns := [], harness := (true, "cdd5e7fb076bd00f370482b4c760076e7c15e959f1513eaa385da86be8e521a8"), looks := false }, kinds := [], alts := [], laidByText := true, laidKinds := [.data, .pinned], laidTests := true, laidLooks := .later }
def FieldsNamesUptoCardSaid : Prop := Claim7.holds Tryd.pinned (.plain (OpenSpec.upto fieldsNamesSpec)) fieldsNamesUptoCard

/-- THE SECOND FORM's CARD OF 'colanderlaw04.FieldsMembers'. -/
def fieldsMembersUptoCard : Claim7 := { stood := { row := fieldsMembersUptoRow, standIns := [], harness := (true, "cdd5e7fb076bd00f370482b4c760076e7c15e959f1513eaa385da86be8e521a8"), looks := false }, kinds := [], alts := [], laidByText := true, laidKinds := [.data, .pinned], laidTests := true, laidLooks := .later }
def FieldsMembersUptoCardSaid : Prop := Claim7.holds Tryd.pinned (.plain (OpenSpec.upto fieldsMembersSpec)) fieldsMembersUptoCard

/-- THE SECOND FORM's CARD OF 'colanderlaw04.FieldsParted'. -/
def fieldsPartedUptoCard : Claim7 := { stood := { row := fieldsPartedUptoRow, standIns := [], harness := (true, "cdd5e7fb076bd00f370482b4c760076e7c15e959f1513eaa385da86be8e521a8"), looks := false }, kinds := [], alts := [], laidByText := true, laidKinds := [.data, .pinned], laidTests := true, laidLooks := .later }
def FieldsPartedUptoCardSaid : Prop := Claim7.holds Tryd.pinned (.plain (OpenSpec.upto fieldsPartedSpec)) fieldsPartedUptoCard
end Rows
end Go.Proofs.YtmelgmhcamjfiaaDoor
