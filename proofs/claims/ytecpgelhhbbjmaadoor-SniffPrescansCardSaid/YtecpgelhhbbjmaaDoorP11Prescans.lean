/- SniffPrescans, plain. -/
import Derived.Test.YtecpgelhhbbjmaaDoorV11
import Derived.Test.YtecpgelhhbbjmaaDoorLPrescans
namespace Go.Proofs.YtecpgelhhbbjmaaDoor
open Go.Av
theorem law_SniffPrescans_all (b : List UInt8) (_hb : ∀ x ∈ b, True) (hb1 : b.length * 1 ≤ 140737488351232 ∧ ∀ x ∈ b, True) : law11_SniffPrescans b = some true := by
  have hb := hb1.1
  unfold law11_SniffPrescans
  rw [shown11, szC_ok (by omega), szC_ok (by rw [List.length_append, List.length_singleton]; omega), slL_to (by rw [List.length_append]; omega)]
  simp only [Option.bind_some]
  rw [List.take_left, Prescan_eq (by omega), ref_Prescan_eq (by omega)]
  simp only [Option.bind_some, if_true, decide_true]
  rw [szC_ok (by rw [List.length_append, List.length_singleton]; omega)]
  simp only [Option.bind_some]
  exact congrArg some (decide_eq_true rfl)
end Go.Proofs.YtecpgelhhbbjmaaDoor
