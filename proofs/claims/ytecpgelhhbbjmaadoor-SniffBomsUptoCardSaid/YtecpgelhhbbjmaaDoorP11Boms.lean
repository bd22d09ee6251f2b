/- SniffBoms, plain. -/
import Derived.Test.YtecpgelhhbbjmaaDoorU11F
import Derived.Test.YtecpgelhhbbjmaaDoorLBoms
namespace Go.Proofs.YtecpgelhhbbjmaaDoor
open Go.Av
theorem law_SniffBoms (b s : List UInt8) (_hb : ∀ x ∈ b, True) (_hs : True) (hb : sumM (fun _ => 1) b + 1 + (s.length + 1 + 0) ≤ 1048576) : law11_SniffBoms b s = some true := by
  rw [sum_one] at hb
  unfold law11_SniffBoms
  rw [shown11, Bom_eq, ref_Bom_eq, Content_eq (by omega), ref_Content_eq (by omega)]
  simp
end Go.Proofs.YtecpgelhhbbjmaaDoor
