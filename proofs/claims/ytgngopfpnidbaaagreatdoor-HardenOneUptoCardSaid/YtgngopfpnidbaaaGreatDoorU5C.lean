/- head, plain: whole texts. -/
import Derived.Test.YtgngopfpnidbaaaGreatDoorU5B
import Derived.Test.YtgngopfpnidbaaaGreatDoorU2B
import Derived.Test.YtgngopfpnidbaaaGreatDoorGCa
namespace Go.Proofs.YtgngopfpnidbaaaGreatDoor
open Go.Av
set_option linter.unusedVariables false
set_option linter.unusedSimpArgs false
set_option maxRecDepth 100000
theorem lines_len : ∀ l : List Fld, (∀ f ∈ l, f.1.length ≤ 16777216 ∧ f.2.length ≤ 16777216) → (linesT l).length ≤ l.length * 33554436
  | [], _ => by simp [linesT]
  | f :: l, h => by
    have h1 := lineT_len f
    have h2 := h f (by simp)
    have h3 := lines_len l (fun g hg => h g (by simp [hg]))
    rw [linesT_cons, List.length_append, List.length_cons]
    omega
theorem ftext_len {l : List Fld} (hl : okF l) : (ftextT l).length ≤ 1100000000 := by
  unfold ftextT
  split
  · rename_i h
    have := right_32 h
    have := lines_len l hl.2
    omega
  · simp
def boundT (s : List UInt8) : List UInt8 := if 2048 < s.length then [] else s
def reqT (q : List UInt8 × List UInt8 × List Fld) : List UInt8 :=
  if decide ((rightT q.2.2).2 = 0) && (methT q.1 && (targT q.2.1 && hostT q.2.2)) then boundT (((((q.1 ++ [32]) ++ q.2.1) ++ [32, 72, 84, 84, 80, 47, 49, 46, 49, 13, 10]) ++ ftextT q.2.2) ++ [13, 10]) else []
theorem bounded_eq (s : List UInt8) : head_bounded s = some (boundT s) := by
  unfold head_bounded boundT
  by_cases h : 2048 < s.length
  · rw [if_pos (by simp; omega), if_pos h]
  · rw [if_neg (by simp; omega), if_neg h]
theorem reqText_eq {q : List UInt8 × List UInt8 × List Fld} (hl : okF q.2.2) (h1 : q.1.length ≤ 16777216) (h2 : q.2.1.length ≤ 16777216) : head_RequestText q = some (reqT q) := by
  have hf := ftext_len hl
  unfold head_RequestText reqT
  rw [Right_eq hl]
  simp only [Option.bind_some, method_eq h1, target_eq h2, host_eq hl]
  by_cases hr : (rightT q.2.2).2 = 0
  · rw [if_neg (by simp [hr]), decide_eq_true hr]
    cases methT q.1 <;> cases targT q.2.1 <;> cases hostT q.2.2 <;> simp only [Bool.not_true, Bool.not_false, Bool.false_eq_true, if_true, if_false, Option.bind_some, Bool.true_and, Bool.and_true, Bool.and_false, Bool.false_and, Bool.and_self]
    rw [szC_ok (by simp; omega), szC_ok (by simp; omega), szC_ok (by simp; omega), FText_eq hl, Option.bind_some, Option.bind_some, Option.bind_some, Option.bind_some, szC_ok (by simp; omega), szC_ok (by simp; omega), bounded_eq]
    rfl
  · rw [if_pos (by simp [hr]), decide_eq_false hr]
    rfl
end Go.Proofs.YtgngopfpnidbaaaGreatDoor
