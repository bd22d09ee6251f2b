/- fields, plain: sizes; lists that stand in several fields; a name's fields and the others. -/
import Derived.Test.YtbcmngnmfneeaaaGreatDoorU4C
import Derived.Test.YtbcmngnmfneeaaaGreatDoorRow
import Derived.Test.YtbcmngnmfneeaaaGreatDoorGE
namespace Go.Proofs.YtbcmngnmfneeaaaGreatDoor
open Go.Av
set_option linter.unusedVariables false
set_option linter.unusedSimpArgs false
set_option maxRecDepth 100000
/-- a field's bulk -/
def mFld (p : Fld) : Nat := ((p.1.length + 1) + (p.2.length + 1)) + 1
theorem mem_sum {α : Type} {m : α → Nat} : ∀ {l : List α} {x : α}, x ∈ l → m x ≤ sumM m l
  | [], x, h => by simp at h
  | y :: l, x, h => by
    rcases List.mem_cons.1 h with rfl | h
    · simp only [sumM]; omega
    · have := mem_sum (m := m) h
      simp only [sumM]; omega
theorem len_sum {α : Type} {m : α → Nat} (h1 : ∀ x, 1 ≤ m x) : ∀ l : List α, l.length ≤ sumM m l
  | [] => Nat.le_refl _
  | x :: l => by
    have := len_sum h1 l
    have := h1 x
    simp only [sumM, List.length_cons]; omega
theorem okF_of {l : List Fld} (h : sumM mFld l ≤ 16777216) : okF l := by
  refine ⟨Nat.le_trans (len_sum (m := mFld) (fun x => by unfold mFld; omega) l) h, fun f hf => ?_⟩
  have : f.1.length + 1 + (f.2.length + 1) + 1 ≤ sumM mFld l := mem_sum (m := mFld) hf
  omega
/-! a name's fields and the others -/
end Go.Proofs.YtbcmngnmfneeaaaGreatDoor
