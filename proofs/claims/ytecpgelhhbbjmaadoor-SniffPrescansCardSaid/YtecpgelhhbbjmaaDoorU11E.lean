/- sniff, plain: which encodings there are; tame texts. -/
import Derived.Test.YtecpgelhhbbjmaaDoorU11D
namespace Go.Proofs.YtecpgelhhbbjmaaDoor
open Go.Av
set_option linter.unusedVariables false
set_option linter.unusedSimpArgs false
set_option maxRecDepth 100000
def rngE (x : Int) : Prop := 0 ≤ x ∧ x ≤ 3
theorem lbl_rng (s : List UInt8) : rngE (lblT s) := by
  unfold lblT labT rngE
  repeat' split
  all_goals omega
theorem val_rng (s : List UInt8) : rngE (valC s) := by
  unfold valC
  split
  · exact lbl_rng _
  · split
    · split
      · exact lbl_rng _
      · unfold rngE; omega
    · exact lbl_rng _
theorem cnt_rng (s : List UInt8) : rngE (cntT s) := by
  unfold cntT
  split
  · unfold rngE; omega
  · exact val_rng _
/-! tame texts -/
theorem pre_ne {c : UInt8} {r : List UInt8} (h : c ≠ 60) (w : List UInt8) : (60 :: w : List UInt8).isPrefixOf (c :: r) = false := by
  have : ¬ (60 : UInt8) = c := fun e => h e.symm
  simp [List.isPrefixOf, this]
theorem step_plain {c : UInt8} {r : List UInt8} (h : c ≠ 60) : stepT (c :: r) = some (0, r) := by
  unfold stepT mtT
  simp only [pre_ne h, Bool.false_and, Bool.false_eq_true, if_false, or_self, List.drop_succ_cons, List.drop_zero]
end Go.Proofs.YtecpgelhhbbjmaaDoor
