/- Utf8Encodes, plain. -/
import Derived.Test.YtcmmmomkfamodaaU8P
import Derived.Test.YtcmmmomkfamodaaLEncodes
namespace Go.Proofs.Ytcmmmomkfamodaa
open Go.Av
theorem law_Utf8Encodes (l : List Int) (hv : ∀ x ∈ l, inR .i32 x) (hb : sumM (fun _ => 1) l + 1 ≤ 1048576) : law08_Utf8Encodes l = some true := by
  rw [sum_one] at hb
  unfold law08_Utf8Encodes
  rw [shown_true, szC_ok (by omega), Encode_eq (by omega), ref_Encode_eq (by omega) hv, runes_eq (by omega) (by omega)]
  simp
end Go.Proofs.Ytcmmmomkfamodaa
