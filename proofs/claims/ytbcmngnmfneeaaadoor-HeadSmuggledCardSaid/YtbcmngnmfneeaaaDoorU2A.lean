/- Numbers: what digits tell, and a number's text; the program's and the reference's reading and writing. -/
import Derived.Test.YtbcmngnmfneeaaaDoorU4A
import Derived.Test.YtbcmngnmfneeaaaDoorGN
namespace Go.Proofs.YtbcmngnmfneeaaaDoor
open Go.Av
set_option linter.unusedVariables false
set_option linter.unusedSimpArgs false
/-! the program's -/
theorem irune {ds : List UInt8} {c : UInt8} (h : c.toNat < 128) : strings_IndexRune ds ((c.toNat : Nat) : Int) = some (Lib.indexByte ds c) := by
  have e : toB ((c.toNat : Nat) : Int) = c := by
    have := toB_b2i c
    unfold b2i at this
    exact this
  unfold strings_IndexRune indexByteX
  rw [show decide (0 ≤ ((c.toNat : Nat) : Int)) = true from by simp, show decide (((c.toNat : Nat) : Int) < 128) = true from by simp; omega, e]
  rfl
end Go.Proofs.YtbcmngnmfneeaaaDoor
