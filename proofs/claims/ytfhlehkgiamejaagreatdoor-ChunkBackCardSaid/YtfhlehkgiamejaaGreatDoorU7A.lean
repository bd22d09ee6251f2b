/- Chunks: what Chunk and Last write; what must be in any case. -/
import Derived.Test.YtfhlehkgiamejaaGreatDoorU2B
import Derived.Test.YtfhlehkgiamejaaGreatDoorGK
import Derived.Test.YtfhlehkgiamejaaGreatDoorLibM
import Derived.Test.YtfhlehkgiamejaaGreatDoorAvY
import Derived.Test.YtfhlehkgiamejaaGreatDoorAvPj
namespace Go.Proofs.YtfhlehkgiamejaaGreatDoor
open Go.Av
set_option linter.unusedVariables false
set_option linter.unusedSimpArgs false
def lastT : List UInt8 := [48, 13, 10, 13, 10]
def chunkT (b : List UInt8) : List UInt8 := if b = [] then [] else ((textS 16 (b.length : Int) ++ [13, 10]) ++ b) ++ [13, 10]
theorem text16_len {n : Nat} (h : n ≤ 1048576) : (textS 16 (n : Int)).length ≤ 19 := by
  unfold textS
  rw [if_neg (by omega), Int.toNat_natCast]
  exact txt_short (.inr rfl) (by unfold MX; omega)
theorem chunk_eq {b : List UInt8} (h : b.length ≤ 1048576) : chunk_Chunk b = some (chunkT b) := by
  unfold chunk_Chunk chunkT
  have ht := text16_len h
  by_cases h0 : b = []
  · subst h0; rfl
  · have hp : 0 < b.length := List.length_pos_iff.2 h0
    rw [if_neg (by simp; omega), if_neg h0, hexes_eq _ (by omega)]
    simp only [Option.bind_some]
    rw [szC_ok (by simp; omega), szC_ok (by simp; omega), szC_ok (by simp; omega)]
    rfl
theorem last_eq : chunk_Last = some lastT := rfl
theorem chunk_len {b : List UInt8} (h : b.length ≤ 1048576) : (chunkT b).length ≤ b.length + 23 := by
  have ht := text16_len h
  unfold chunkT
  split
  · simp
  · simp; omega
end Go.Proofs.YtfhlehkgiamejaaGreatDoor
