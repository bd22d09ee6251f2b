/-
  DERIVED. GIVEN WITH THE SEED: THE CARDS: each row of YtecpgelhhbbjmaaGreatDoorRows.lean that lists a variable, with what it lists TIED to the program's text (the seventh form; the later family's looks); each row that meets fmt, with fmt's text TOLD by the authors' own Lean function (tested against real Go, not proved from fmt's source: count such statements apart). THE CARD IS WHAT COUNTS. Prove the row's statement (the work); the ties are given (YtecpgelhhbbjmaaGreatDoorTie.lean); close each card by the builder's one call (the guide's Derived/Test/ToyasCard.lean, 'card_holds'). Laid BY PROGRAM, IN A SANDBOX (cutbox-door.mjs). By AI agents, Wed Nov 11 2026. No macro, syntax, notation, axiom, sorry.
-/
import Derived.Test.YtecpgelhhbbjmaaGreatDoorRows
import GoSem.ClaimSeven
namespace Go.Proofs.YtecpgelhhbbjmaaGreatDoor
namespace Rows

/-- THE TIED CARD OF 'colanderlaw11.SniffPicks'. -/
def sniffPicksCard : Claim7 := { stood := { row := sniffPicksRow, standIns := [], harness := (true, "91f22e8e9362bfca713e3631e2ddb8197f7f45d7d7baf13b457f25728ba3cd78"), looks := true }, kinds := [], alts := [], laidByText := true, laidKinds := [.data, .pinned], laidTests := true, laidLooks := .later }
def SniffPicksCardSaid : Prop := Claim7.holds Tryz.pinned (.plain (OpenSpec.ofChange sniffPicksSpec)) sniffPicksCard

/-- THE SECOND FORM's CARD OF 'colanderlaw11.SniffPicks'. -/
def sniffPicksUptoCard : Claim7 := { stood := { row := sniffPicksUptoRow, standIns := [], harness := (true, "91f22e8e9362bfca713e3631e2ddb8197f7f45d7d7baf13b457f25728ba3cd78"), looks := true }, kinds := [], alts := [], laidByText := true, laidKinds := [.data, .pinned], laidTests := true, laidLooks := .later }
def SniffPicksUptoCardSaid : Prop := Claim7.holds Tryz.pinned (.plain (OpenSpec.upto sniffPicksSpec)) sniffPicksUptoCard
end Rows
end Go.Proofs.YtecpgelhhbbjmaaGreatDoor
