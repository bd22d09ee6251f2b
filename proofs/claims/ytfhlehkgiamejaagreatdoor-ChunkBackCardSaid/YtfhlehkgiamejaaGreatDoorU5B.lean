/- head, plain: the host. -/
import Derived.Test.YtfhlehkgiamejaaGreatDoorU5A
import Derived.Test.YtfhlehkgiamejaaGreatDoorU5Z
namespace Go.Proofs.YtfhlehkgiamejaaGreatDoor
open Go.Av
set_option linter.unusedVariables false
set_option linter.unusedSimpArgs false
set_option maxRecDepth 100000
theorem cut_len (s : List UInt8) (c : UInt8) : (Lib.cut s [c]).1.length ≤ s.length ∧ (Lib.cut s [c]).2.1.length ≤ s.length := by
  unfold Lib.cut
  split
  · exact ⟨by simp; omega, by simp⟩
  · exact ⟨Nat.le_refl _, Nat.zero_le _⟩
end Go.Proofs.YtfhlehkgiamejaaGreatDoor
