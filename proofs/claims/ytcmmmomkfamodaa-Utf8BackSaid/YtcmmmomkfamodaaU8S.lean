/- utf8, plain: the two ways of finding pieces agree. -/
import Derived.Test.YtcmmmomkfamodaaU8R
namespace Go.Proofs.Ytcmmmomkfamodaa
open Go.Av
set_option linter.unusedVariables false
set_option linter.unusedSimpArgs false
set_option maxHeartbeats 4000000
theorem b2i_rng (c : UInt8) : 0 ≤ b2i c ∧ b2i c < 256 := ⟨b2i_nonneg c, b2i_lt c⟩
end Go.Proofs.Ytcmmmomkfamodaa
