/- FieldsRights, plain. -/
import Derived.Test.YtmelgmhcamjfiaaDoorU4D
import Derived.Test.YtmelgmhcamjfiaaDoorLRights
namespace Go.Proofs.YtmelgmhcamjfiaaDoor
open Go.Av
theorem law_FieldsRights (l : List (List UInt8 × List UInt8)) (_hl : ∀ x ∈ l, True ∧ True) (hb0 : sumM (fun y0 => ((y0.1.length + 1) + (y0.2.length + 1)) + 1) l + 1 ≤ 1048576) : law04_FieldsRights l = some true := by
  have hb : sumM mFld l + 1 ≤ 1048576 := hb0
  have hF := okF_of (l := l) (by omega)
  have h1 := hF.1
  have e1 : slL (l ++ [([33], [])]) 0 (l.length : Int) = some l := by
    rw [slL_to (by simp), List.take_left]
  have e2 : slL (l ++ [([33], [])]) 0 (iadd .i64 (l.length : Int) 1) = some (l ++ [([33], [])]) := by
    rw [iadd64 (by omega) (by omega), ← Int.natCast_add_one, slL_to (by simp), List.take_of_length_le (by simp)]
  have e3 : ixL (l ++ [([33], [])] : List Fld) (l.length : Int) = some ([33], []) := by
    rw [ixL_nat]; simp
  unfold law04_FieldsRights
  rw [shown4, szC_ok (by omega), szC_ok (by simp; omega), e1, e2]
  simp only [Option.bind_some]
  rw [Right_eq hF, ref_Right_eq hF, FText_eq hF, ref_FText_eq hF, SameF_eq (by omega)]
  simp only [Option.bind_some, decide_true, if_true]
  rw [e3]
  simp
end Go.Proofs.YtmelgmhcamjfiaaDoor
