/- Utf8Many, plain. -/
import Derived.Test.YtcmmmomkfamodaaU8X
import Derived.Test.YtcmmmomkfamodaaLMany
namespace Go.Proofs.Ytcmmmomkfamodaa
open Go.Av
theorem law_Utf8Many (b : List UInt8) (_hv : ∀ x ∈ b, True) (hb : sumM (fun _ => 1) b + 1 ≤ 1048576) : law08_Utf8Many b = some true := by
  rw [sum_one] at hb
  have h1 := runesT_len _ b (Nat.le_refl _)
  have h2 := encL_run _ b (Nat.le_refl _)
  unfold law08_Utf8Many
  rw [shown_true, Runes_eq (by omega), Decode_eq (by omega)]
  simp only [Option.bind_some, if_true, decide_eq_true_eq]
  rw [if_pos (by omega), imul64 (by omega) (by omega), if_pos (by omega), imul64 (by omega) (by omega), if_pos (by omega), Encode_eq (by omega)]
  simp
end Go.Proofs.Ytcmmmomkfamodaa
