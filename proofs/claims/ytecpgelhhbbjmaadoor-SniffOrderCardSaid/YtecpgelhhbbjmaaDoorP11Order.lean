/- SniffOrder, plain. -/
import Derived.Test.YtecpgelhhbbjmaaDoorU11D
import Derived.Test.YtecpgelhhbbjmaaDoorLOrder
namespace Go.Proofs.YtecpgelhhbbjmaaDoor
open Go.Av
theorem law_SniffOrder_all (cs b : List UInt8) (_hc : True) (_hb : ∀ x ∈ b, True) (hc : cs.length ≤ 140737488351232) (hb1 : b.length * 1 ≤ 140737488351232 ∧ ∀ x ∈ b, True) : law11_SniffOrder cs b = some true := by
  have hb := hb1.1
  unfold law11_SniffOrder
  rw [shown11, Pick_eq (by omega) (by omega), Bom_eq, LabelT_eq (by omega), Prescan_eq (by omega)]
  have hbl := bom_len b
  simp only [Option.bind_some, pickT]
  by_cases h1 : (bomT b).1 = 0
  · simp only [h1, decide_true, Bool.not_true, Bool.false_eq_true, if_false, if_true]
    by_cases h2 : lblT cs = 0
    · simp only [h2, decide_true, Bool.not_true, Bool.false_eq_true, if_false, if_true]
      by_cases h3 : preT b = 0
      · simp [h3]
      · simp [h3]
    · simp [h2]
  · simp [h1]
end Go.Proofs.YtecpgelhhbbjmaaDoor
