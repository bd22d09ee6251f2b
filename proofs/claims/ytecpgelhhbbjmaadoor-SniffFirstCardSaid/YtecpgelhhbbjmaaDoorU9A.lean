/- leaf, plain: a byte's character, a character's byte. -/
import Derived.Test.YtecpgelhhbbjmaaDoorU8J
import Derived.Test.YtecpgelhhbbjmaaDoorGC
import Derived.Test.YtecpgelhhbbjmaaDoorGD
namespace Go.Proofs.YtecpgelhhbbjmaaDoor
open Go.Av
set_option linter.unusedVariables false
set_option maxRecDepth 100000
/-- what holds of all 256 bytes, told one by one -/
theorem all256 {p : UInt8 → Bool} (h : (List.range 256).all (fun n => p (UInt8.ofNat n)) = true) (c : UInt8) : p c = true := by
  have := List.all_eq_true.1 h c.toNat (List.mem_range.2 c.toNat_lt)
  rwa [UInt8.ofNat_toNat] at this
end Go.Proofs.YtecpgelhhbbjmaaDoor
