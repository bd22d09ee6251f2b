/-
  DERIVED. GIVEN WITH THE SEED: THE CARDS: each row of YtgngopfpnidbaaaDoorRows.lean that lists a variable, with what it lists TIED to the program's text (the seventh form; the later family's looks); each row that meets fmt, with fmt's text TOLD by the authors' own Lean function (tested against real Go, not proved from fmt's source: count such statements apart). THE CARD IS WHAT COUNTS. Prove the row's statement (the work); the ties are given (YtgngopfpnidbaaaDoorTie.lean); close each card by the builder's one call (the guide's Derived/Test/ToyasCard.lean, 'card_holds'). Laid BY PROGRAM, IN A SANDBOX (cutbox-door.mjs). By AI agents, Wed Nov 11 2026. No macro, syntax, notation, axiom, sorry.
-/
import Derived.Test.YtgngopfpnidbaaaDoorRows
import GoSem.ClaimSeven
namespace Go.Proofs.YtgngopfpnidbaaaDoor
namespace Rows

/-- THE TIED CARD OF 'colanderlaw21.HardenPages'. -/
def hardenPagesCard : Claim7 := { stood := { row := hardenPagesRow, standIns := [], harness := (true, "6a80297beb1caa6c00c458f2730aa0b3b9ba77314c0d6a1932c496ed0dc0c690"), looks := false }, kinds := [], alts := [], laidByText := true, laidKinds := [.data, .data, .data, .data, .pinned], laidTests := true, laidLooks := .later }
def HardenPagesCardSaid : Prop := Claim7.holds Tryd.pinned (.plain (OpenSpec.ofChange hardenPagesSpec)) hardenPagesCard

/-- THE SECOND FORM's CARD OF 'colanderlaw21.HardenPages'. -/
def hardenPagesUptoCard : Claim7 := { stood := { row := hardenPagesUptoRow, standIns := [], harness := (true, "6a80297beb1caa6c00c458f2730aa0b3b9ba77314c0d6a1932c496ed0dc0c690"), looks := false }, kinds := [], alts := [], laidByText := true, laidKinds := [.data, .data, .data, .data, .pinned], laidTests := true, laidLooks := .later }
def HardenPagesUptoCardSaid : Prop := Claim7.holds Tryd.pinned (.plain (OpenSpec.upto hardenPagesSpec)) hardenPagesUptoCard
end Rows
end Go.Proofs.YtgngopfpnidbaaaDoor
