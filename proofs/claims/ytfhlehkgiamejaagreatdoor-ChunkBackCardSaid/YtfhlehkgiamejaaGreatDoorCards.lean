/-
  DERIVED. GIVEN WITH THE SEED: THE CARDS: each row of YtfhlehkgiamejaaGreatDoorRows.lean that lists a variable, with what it lists TIED to the program's text (the seventh form; the later family's looks); each row that meets fmt, with fmt's text TOLD by the authors' own Lean function (tested against real Go, not proved from fmt's source: count such statements apart). THE CARD IS WHAT COUNTS. Prove the row's statement (the work); the ties are given (YtfhlehkgiamejaaGreatDoorTie.lean); close each card by the builder's one call (the guide's Derived/Test/ToyasCard.lean, 'card_holds'). Laid BY PROGRAM, IN A SANDBOX (cutbox-door.mjs). By AI agents, Wed Nov 11 2026. No macro, syntax, notation, axiom, sorry.
-/
import Derived.Test.YtfhlehkgiamejaaGreatDoorRows
import GoSem.ClaimSeven
namespace Go.Proofs.YtfhlehkgiamejaaGreatDoor
namespace Rows

/-- THE TIED CARD OF 'colanderlaw07.ChunkWrites'. -/
def chunkWritesCard : Claim7 := { stood := { row := chunkWritesRow, standIns := [], harness := (true, "fd9328a99e27aab598e3212e76d7d33c3a9507ec5fbb617344efa3e716f7f140"), looks := true }, kinds := [], alts := [], laidByText := true, laidKinds := [.data, .data, .data], laidTests := true, laidLooks := .later }
def ChunkWritesCardSaid : Prop := Claim7.holds Tryz.pinned (.plain (OpenSpec.ofChange chunkWritesSpec)) chunkWritesCard

/-- THE TIED CARD OF 'colanderlaw07.ChunkBack'. -/
def chunkBackCard : Claim7 := { stood := { row := chunkBackRow, standIns := [], harness := (true, "fd9328a99e27aab598e3212e76d7d33c3a9507ec5fbb617344efa3e716f7f140"), looks := true }, kinds := [], alts := [], laidByText := true, laidKinds := [.data, .data, .data], laidTests := true, laidLooks := .later }
def ChunkBackCardSaid : Prop := Claim7.holds Tryz.pinned (.plain (OpenSpec.ofChange chunkBackSpec)) chunkBackCard

/-- THE TIED CARD OF 'colanderlaw07.ChunkCuts'. -/
def chunkCutsCard : Claim7 := { stood := { row := chunkCutsRow, standIns := [], harness := (true, "fd9328a99e27aab598e3212e76d7d33c3a9507ec5fbb617344efa3e716f7f140"), looks := true }, kinds := [], alts := [], laidByText := true, laidKinds := [.data, .data, .data], laidTests := true, laidLooks := .later }
def ChunkCutsCardSaid : Prop := Claim7.holds Tryz.pinned (.plain (OpenSpec.ofChange chunkCutsSpec)) chunkCutsCard

/-- THE TIED CARD OF 'colanderlaw07.ChunkPlain'. -/
def chunkPlainCard : Claim7 := { stood := { row := chunkPlainRow, standIns := [], harness := (true, "fd9328a99e27aab598e3212e76d7d33c3a9507ec5fbb617344efa3e716f7f140"), looks := true }, kinds := [], alts := [], laidByText := true, laidKinds := [.data, .data, .data], laidTests := true, laidLooks := .later }
def ChunkPlainCardSaid : Prop := Claim7.holds Tryz.pinned (.plain (OpenSpec.ofChange chunkPlainSpec)) chunkPlainCard

/-- THE SECOND FORM's CARD OF 'colanderlaw07.ChunkWrites'. -/
def chunkWritesUptoCard : Claim7 := { stood := { row := chunkWritesUptoRow, standIns := [], harness := (true, "fd9328a99e27aab598e3212e76d7d33c3a9507ec5fbb617344efa3e716f7f140"), looks := true }, kinds := [], alts := [], laidByText := true, laidKinds := [.data, .data, .data], laidTests := true, laidLooks := .later }
def ChunkWritesUptoCardSaid : Prop := Claim7.holds Tryz.pinned (.plain (OpenSpec.upto chunkWritesSpec)) chunkWritesUptoCard

/-- THE SECOND FORM's CARD OF 'colanderlaw07.ChunkBack'. -/
def chunkBackUptoCard : Claim7 := { stood := { row := chunkBackUptoRow, standIns := [], harness := (true, "fd9328a99e27aab598e3212e76d7d33c3a9507ec5fbb617344efa3e716f7f140"), looks := true }, kinds := [], alts := [], laidByText := true, laidKinds := [.data, .data, .data], laidTests := true, laidLooks := .later }
def ChunkBackUptoCardSaid : Prop := Claim7.holds Tryz.pinned (.plain (OpenSpec.upto chunkBackSpec)) chunkBackUptoCard

/-- THE SECOND FORM's CARD OF 'colanderlaw07.ChunkCuts'. -/
def chunkCutsUptoCard : Claim7 := { stood := { row := chunkCutsUptoRow, standIns := [], harness := (true, "fd9328a99e27aab598e3212e76d7d33c3a9507ec5fbb617344efa3e716f7f140"), looks := true }, kinds := [], alts := [], laidByText := true, laidKinds := [.data, .data, .data], laidTests := true, laidLooks := .later }
def ChunkCutsUptoCardSaid : Prop := Claim7.holds Tryz.pinned (.plain (OpenSpec.upto chunkCutsSpec)) chunkCutsUptoCard

/-- THE SECOND FORM's CARD OF 'colanderlaw07.ChunkPlain'. -/
def chunkPlainUptoCard : Claim7 := { stood := { row := chunkPlainUptoRow, standIns := [], harness := (true, "fd9328a99e27aab598e3212e76d7d33c3a9507ec5fbb617344efa3e716f7f140"), looks := true }, kinds := [], alts := [], laidByText := true, laidKinds := [.data, .data, .data], laidTests := true, laidLooks := .later }
def ChunkPlainUptoCardSaid : Prop := Claim7.holds Tryz.pinned (.plain (OpenSpec.upto chunkPlainSpec)) chunkPlainUptoCard
end Rows
end Go.Proofs.YtfhlehkgiamejaaGreatDoor
