/- head, plain: texts, by the document. -/
import Derived.Test.YtbcmngnmfneeaaaGreatDoorU5C
import Derived.Test.YtbcmngnmfneeaaaGreatDoorU5H
namespace Go.Proofs.YtbcmngnmfneeaaaGreatDoor
open Go.Av
set_option linter.unusedVariables false
set_option linter.unusedSimpArgs false
set_option maxRecDepth 100000
theorem ref_reqText_eq {q : List UInt8 × List UInt8 × List Fld} (hl : okF q.2.2) (h1 : q.1.length ≤ 16777216) (h2 : q.2.1.length ≤ 16777216) : ref05_RequestText q = some (reqT q) := by
  have hf := ftext_len hl
  unfold ref05_RequestText reqT
  rw [ref_Method_eq h1, ref_Target_eq h2, ref_Right_eq hl, ref_Host_eq hl]
  simp only [Option.bind_some]
  by_cases hr : (rightT q.2.2).2 = 0
  · rw [decide_eq_true hr]
    cases methT q.1 <;> cases targT q.2.1 <;> cases hostT q.2.2 <;> simp only [Bool.not_true, Bool.not_false, Bool.false_eq_true, if_true, if_false, Option.bind_some, Bool.true_and, Bool.and_true, Bool.and_false, Bool.false_and, Bool.and_self]
    rw [szC_ok (by simp; omega), szC_ok (by simp; omega), szC_ok (by simp; omega), ref_FText_eq hl, Option.bind_some, Option.bind_some, Option.bind_some, Option.bind_some, szC_ok (by simp; omega), szC_ok (by simp; omega)]
    simp only [Option.bind_some]
    unfold boundT
    split <;> split <;> first | rfl | (rename_i a b; simp at a b; omega)
  · rw [decide_eq_false hr]
    cases methT q.1 <;> cases targT q.2.1 <;> cases hostT q.2.2 <;> rfl
theorem ref_respText_eq {p : Int × List UInt8 × List Fld} (hl : okF p.2.2) (h1 : p.1 ≤ 9223372036854775807) (h2 : p.2.1.length ≤ 16777216) : ref05_ResponseText p = some (respT5 p) := by
  have hf := ftext_len hl
  unfold ref05_ResponseText respT5
  rw [ref_Right_eq hl]
  simp only [Option.bind_some]
  by_cases g1 : p.1 < 200
  · simp [g1]
  · by_cases g2 : 599 < p.1
    · simp [g1, g2]
    · obtain ⟨v, e1, e2⟩ := ref_wrong_eq h2
      have hs := stat_len g1 g2
      rw [if_neg (by simpa using g1), if_neg (by simpa using g2), e1, decide_eq_false g1, decide_eq_false g2]
      simp only [Option.bind_some, e2]
      cases ho : p.2.1.all quoT with
      | false => simp
      | true =>
        by_cases hr : (rightT p.2.2).2 = 0
        · rw [decide_eq_true hr]
          simp only [Bool.not_true, Bool.false_eq_true, if_false, Option.bind_some]
          rw [refDigits_eq _ h1, Option.bind_some, szC_ok (by simp; omega), szC_ok (by simp; omega), szC_ok (by simp; omega), szC_ok (by simp; omega), ref_FText_eq hl]
          simp only [Option.bind_some]
          rw [szC_ok (by simp; omega), szC_ok (by simp; omega)]
          simp only [Option.bind_some]
          unfold boundT
          by_cases hz : 2048 < ((((((([72, 84, 84, 80, 47, 49, 46, 49, 32] : List UInt8) ++ textS 10 p.1) ++ [32]) ++ p.2.1) ++ [13, 10]) ++ ftextT p.2.2) ++ [13, 10]).length
          · rw [if_pos (by rw [decide_eq_true_eq]; exact_mod_cast hz), if_pos (by rfl), if_pos hz]
          · rw [if_neg (by rw [decide_eq_true_eq]; exact_mod_cast hz), if_pos (by rfl), if_neg hz]
        · rw [decide_eq_false hr]
          rfl
end Go.Proofs.YtbcmngnmfneeaaaGreatDoor
