/- LeafDecodes, plain. -/
import Derived.Test.YtcmfgjiemjlogaaDoorU9B
import Derived.Test.YtcmfgjiemjlogaaDoorLDecodes
namespace Go.Proofs.YtcmfgjiemjlogaaDoor
open Go.Av
theorem law_LeafDecodes (b s : List UInt8) (_hb : ∀ x ∈ b, True) (_hs : True) (hb : sumM (fun _ => 1) b + 1 + (s.length + 1 + 0) ≤ 1048576) : law09_LeafDecodes b s = some true := by
  rw [sum_one] at hb
  unfold law09_LeafDecodes
  rw [shown9]
  simp only [Option.bind_some]
  rw [szC_ok (by omega), szC_ok (by simp; omega), slL_to (by simp)]
  simp only [Option.bind_some]
  rw [List.take_left, Decode9_eq (by omega), Encode9_eq (by omega), ref_Encode9_eq (by omega), ref_Decode9_eq (by omega)]
  simp only [Option.bind_some, decide_true, if_true, beq_self_eq_true]
  rw [ixL_nat, List.getElem?_append_right (Nat.le_refl _)]
  simp
end Go.Proofs.YtcmfgjiemjlogaaDoor
