/- Utf8Encodes, plain. -/
import Derived.Test.YtcmmmomkfamodaaU8P
import Derived.Test.YtcmmmomkfamodaaLEncodes
namespace Go.Proofs.Ytcmmmomkfamodaa
open Go.Av
theorem law_Utf8Encodes_all (l : List Int) (hv : ∀ x ∈ l, inR .i32 x) (hb1 : l.length * 4 ≤ 140737488351232 ∧ ∀ x ∈ l, True) : law08_Utf8Encodes l = some true := by
  have hb := hb1.1
  unfold law08_Utf8Encodes
  rw [shown_true, szC_ok (by omega), Encode_eq (by omega), ref_Encode_eq (by omega) hv, runes_eq (by omega) (by omega)]
  simp
end Go.Proofs.Ytcmmmomkfamodaa
