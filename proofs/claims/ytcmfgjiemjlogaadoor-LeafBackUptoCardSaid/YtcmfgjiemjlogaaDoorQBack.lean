/- LeafBack, plain. -/
import Derived.Test.YtcmfgjiemjlogaaDoorU9B
import Derived.Test.YtcmfgjiemjlogaaDoorLBack
namespace Go.Proofs.YtcmfgjiemjlogaaDoor
open Go.Av
theorem law_LeafBack (b : List UInt8) (_hb : ∀ x ∈ b, True) (hb : sumM (fun _ => 1) b + 1 ≤ 1048576) : law09_LeafBack b = some true := by
  rw [sum_one] at hb
  have h3 := enc3_len b
  have hf := faultT_encL (b.map chT) [] 0 (map_good b)
  rw [List.append_nil, faultT_nil, Nat.zero_add] at hf
  unfold law09_LeafBack
  rw [shown9, Decode9_eq (by omega)]
  simp only [Option.bind_some]
  rw [Encode9_eq (by omega), szC_ok (by omega), ref_Runes_eq (by omega), runes_dec, encT, bytesT_map]
  simp only [Option.bind_some, if_true, decide_true, List.length_map]
  rw [ref_Fault_eq (by omega), hf]
  simp
end Go.Proofs.YtcmfgjiemjlogaaDoor
