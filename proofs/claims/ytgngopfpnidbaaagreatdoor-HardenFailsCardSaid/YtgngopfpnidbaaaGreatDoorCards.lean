/-
  DERIVED. GIVEN WITH THE SEED: THE CARDS: each row of YtgngopfpnidbaaaGreatDoorRows.lean that lists a variable, with what it lists TIED to the program's text (the seventh form; the later family's looks); each row that meets fmt, with fmt's text TOLD by the authors' own Lean function (tested against real Go, not proved from fmt's source: count such statements apart). THE CARD IS WHAT COUNTS. Prove the row's statement (the work); the ties are given (YtgngopfpnidbaaaGreatDoorTie.lean); close each card by the builder's one call (the guide's Derived/Test/ToyasCard.lean, 'card_holds'). Laid BY PROGRAM, IN A SANDBOX (cutbox-door.mjs). By AI agents, Wed Nov 11 2026. No macro, syntax, notation, axiom, sorry.
-/
import Derived.Test.YtgngopfpnidbaaaGreatDoorRows
import GoSem.ClaimSeven
namespace Go.Proofs.YtgngopfpnidbaaaGreatDoor
namespace Rows

/-- THE TIED CARD OF 'colanderlaw21.HardenKinds'. -/
def hardenKindsCard : Claim7 := { stood := { row := hardenKindsRow, standIns := [], harness := (true, "de841690976032e03c3210014cc97625b1dce64deff889d587bbfd7e68549bdc"), looks := true }, kinds := [], alts := [], laidByText := true, laidKinds := [.data, .data, .data, .data, .pinned], laidTests := true, laidLooks := .later }
def HardenKindsCardSaid : Prop := Claim7.holds Tryz.pinned (.plain (OpenSpec.ofChange hardenKindsSpec)) hardenKindsCard

/-- THE TIED CARD OF 'colanderlaw21.HardenForwards'. -/
def hardenForwardsCard : Claim7 := { stood := { row := hardenForwardsRow, standIns := [], harness := (true, "de841690976032e03c3210014cc97625b1dce64deff889d587bbfd7e68549bdc"), looks := true }, kinds := [], alts := [], laidByText := true, laidKinds := [.data, .data, .data, .data, .pinned], laidTests := true, laidLooks := .later }
def HardenForwardsCardSaid : Prop := Claim7.holds Tryz.pinned (.plain (OpenSpec.ofChange hardenForwardsSpec)) hardenForwardsCard

/-- THE TIED CARD OF 'colanderlaw21.HardenHeads'. -/
def hardenHeadsCard : Claim7 := { stood := { row := hardenHeadsRow, standIns := [], harness := (true, "de841690976032e03c3210014cc97625b1dce64deff889d587bbfd7e68549bdc"), looks := true }, kinds := [], alts := [], laidByText := true, laidKinds := [.data, .data, .data, .data, .pinned], laidTests := true, laidLooks := .later }
def HardenHeadsCardSaid : Prop := Claim7.holds Tryz.pinned (.plain (OpenSpec.ofChange hardenHeadsSpec)) hardenHeadsCard

/-- THE TIED CARD OF 'colanderlaw21.HardenFails'. -/
def hardenFailsCard : Claim7 := { stood := { row := hardenFailsRow, standIns := [], harness := (true, "de841690976032e03c3210014cc97625b1dce64deff889d587bbfd7e68549bdc"), looks := true }, kinds := [], alts := [], laidByText := true, laidKinds := [.data, .data, .data, .data, .pinned, .pinned], laidTests := true, laidLooks := .later }
def HardenFailsCardSaid : Prop := Claim7.holds Tryz.pinned (.plain (OpenSpec.ofChange hardenFailsSpec)) hardenFailsCard

/-- THE TIED CARD OF 'colanderlaw21.HardenOne'. -/
def hardenOneCard : Claim7 := { stood := { row := hardenOneRow, standIns := [], harness := (true, "de841690976032e03c3210014cc97625b1dce64deff889d587bbfd7e68549bdc"), looks := true }, kinds := [], alts := [], laidByText := true, laidKinds := [.data, .data, .data, .data, .pinned, .pinned], laidTests := true, laidLooks := .later }
def HardenOneCardSaid : Prop := Claim7.holds Tryz.pinned (.plain (OpenSpec.ofChange hardenOneSpec)) hardenOneCard

/-- THE SECOND FORM's CARD OF 'colanderlaw21.HardenKinds'. -/
def hardenKindsUptoCard : Claim7 := { stood := { row := hardenKindsUptoRow, standIns := [], harness := (true, "de841690976032e03c3210014cc97625b1dce64deff889d587bbfd7e68549bdc"), looks := true }, kinds := [], alts := [], laidByText := true, laidKinds := [.data, .data, .data, .data, .pinned], laidTests := true, laidLooks := .later }
def HardenKindsUptoCardSaid : Prop := Claim7.holds Tryz.pinned (.plain (OpenSpec.upto hardenKindsSpec)) hardenKindsUptoCard

/-- THE SECOND FORM's CARD OF 'colanderlaw21.HardenForwards'. -/
def hardenForwardsUptoCard : Claim7 := { stood := { row := hardenForwardsUptoRow, standIns := [], harness := (true, "de841690976032e03c3210014cc97625b1dce64deff889d587bbfd7e68549bdc"), looks := true }, kinds := [], alts := [], laidByText := true, laidKinds := [.data, .data, .data, .data, .pinned], laidTests := true, laidLooks := .later }
def HardenForwardsUptoCardSaid : Prop := Claim7.holds Tryz.pinned (.plain (OpenSpec.upto hardenForwardsSpec)) hardenForwardsUptoCard

/-- THE SECOND FORM's CARD OF 'colanderlaw21.HardenHeads'. -/
def hardenHeadsUptoCard : Claim7 := { stood := { row := hardenHeadsUptoRow, standIns := [], harness := (true, "de841690976032e03c3210014cc97625b1dce64deff889d587bbfd7e68549bdc"), looks := true }, kinds := [], alts := [], laidByText := true, laidKinds := [.data, .data, .data, .data, .pinned], laidTests := true, laidLooks := .later }
def HardenHeadsUptoCardSaid : Prop := Claim7.holds Tryz.pinned (.plain (OpenSpec.upto hardenHeadsSpec)) hardenHeadsUptoCard

/-- THE SECOND FORM's CARD OF 'colanderlaw21.HardenFails'. -/
def hardenFailsUptoCard : Claim7 := { stood := { row := hardenFailsUptoRow, standIns := [], harness := (true, "de841690976032e03c3210014cc97625b1dce64deff889d587bbfd7e68549bdc"), looks := true }, kinds := [], alts := [], laidByText := true, laidKinds := [.data, .data, .data, .data, .pinned, .pinned], laidTests := true, laidLooks := .later }
def HardenFailsUptoCardSaid : Prop := Claim7.holds Tryz.pinned (.plain (OpenSpec.upto hardenFailsSpec)) hardenFailsUptoCard

/-- THE SECOND FORM's CARD OF 'colanderlaw21.HardenOne'. -/
def hardenOneUptoCard : Claim7 := { stood := { row := hardenOneUptoRow, standIns := [], harness := (true, "de841690976032e03c3210014cc97625b1dce64deff889d587bbfd7e68549bdc"), looks := true }, kinds := [], alts := [], laidByText := true, laidKinds := [.data, .data, .data, .data, .pinned, .pinned], laidTests := true, laidLooks := .later }
def HardenOneUptoCardSaid : Prop := Claim7.holds Tryz.pinned (.plain (OpenSpec.upto hardenOneSpec)) hardenOneUptoCard
end Rows
end Go.Proofs.YtgngopfpnidbaaaGreatDoor
