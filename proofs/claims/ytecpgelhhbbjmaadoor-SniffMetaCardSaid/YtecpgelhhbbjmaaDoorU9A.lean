/- leaf, plain: a byte's character, a character's byte. -/
import Derived.Test.YtecpgelhhbbjmaaDoorU8J
import Derived.Test.YtecpgelhhbbjmaaDoorGC
import Derived.Test.YtecpgelhhbbjmaaDoorGD
namespace Go.Proofs.YtecpgelhhbbjmaaDoor
open Go.Av
set_option linter.unusedVariables false
set_option maxRecDepth 100000
/-- what holds of all 256 bytes, told one by one -/
theorem all256 {p : UInt8 → Bool} (h : (List.range 256).all (fun n => p (UInt8.ofNat n)) = true) (c : UInt8) : p c = true := by
  have := List.all_eq_true.1 h c.toNat (List.mem_range.2 c.toNat_lt)
  rwa [UInt8.ofNat_toNat] at this
def chT (c : UInt8) : Int := (leaf_Char c).getD 0
theorem Char_eq (c : UInt8) : leaf_Char c = some (chT c) := by
  have h := all256 (p := fun c => (leaf_Char c).isSome) (by kernel_rfl) c
  unfold chT
  rw [Option.isSome_iff_exists] at h
  obtain ⟨x, hx⟩ := h
  rw [hx]; rfl
theorem chT_good (c : UInt8) : goodC (chT c) := of_decide_eq_true (all256 (p := fun c => decide (goodC (chT c))) (by kernel_rfl) c)
end Go.Proofs.YtecpgelhhbbjmaaDoor
