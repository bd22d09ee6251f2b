/- SniffPrescans, plain. -/
import Derived.Test.YtecpgelhhbbjmaaDoorV11
import Derived.Test.YtecpgelhhbbjmaaDoorLPrescans
namespace Go.Proofs.YtecpgelhhbbjmaaDoor
open Go.Av
theorem law_SniffPrescans (b : List UInt8) (_hb : ∀ x ∈ b, True) (hb : sumM (fun _ => 1) b + 1 + 0 ≤ 1048576) : law11_SniffPrescans b = some true := by
  rw [sum_one] at hb
  unfold law11_SniffPrescans
  rw [shown11, szC_ok (by omega), szC_ok (by rw [List.length_append, List.length_singleton]; omega), slL_to (by rw [List.length_append]; omega)]
  simp only [Option.bind_some]
  rw [List.take_left, Prescan_eq (by omega), ref_Prescan_eq (by omega)]
  simp only [Option.bind_some, if_true, decide_true]
  rw [szC_ok (by rw [List.length_append, List.length_singleton]; omega)]
  simp only [Option.bind_some]
  exact congrArg some (decide_eq_true rfl)
end Go.Proofs.YtecpgelhhbbjmaaDoor
