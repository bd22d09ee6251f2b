/- head, plain: whole texts. -/
import Derived.Test.YtbcmngnmfneeaaaGreatDoorU5B
import Derived.Test.YtbcmngnmfneeaaaGreatDoorU2B
import Derived.Test.YtbcmngnmfneeaaaGreatDoorGCa
namespace Go.Proofs.YtbcmngnmfneeaaaGreatDoor
open Go.Av
set_option linter.unusedVariables false
set_option linter.unusedSimpArgs false
set_option maxRecDepth 100000
theorem lines_len : ∀ l : List Fld, (∀ f ∈ l, f.1.length ≤ 16777216 ∧ f.2.length ≤ 16777216) → (linesT l).length ≤ l.length * 33554436
  | [], _ => by simp [linesT]
  | f :: l, h => by
    have h1 := lineT_len f
    have h2 := h f (by simp)
    have h3 := lines_len l (fun g hg => h g (by simp [hg]))
    rw [linesT_cons, List.length_append, List.length_cons]
    omega
theorem ftext_len {l : List Fld} (hl : okF l) : (ftextT l).length ≤ 1100000000 := by
  unfold ftextT
  split
  · rename_i h
    have := right_32 h
    have := lines_len l hl.2
    omega
  · simp
def boundT (s : List UInt8) : List UInt8 := if 2048 < s.length then [] else s
def reqT (q : List UInt8 × List UInt8 × List Fld) : List UInt8 :=
  if decide ((rightT q.2.2).2 = 0) && (methT q.1 && (targT q.2.1 && hostT q.2.2)) then boundT (((((q.1 ++ [32]) ++ q.2.1) ++ [32, 72, 84, 84, 80, 47, 49, 46, 49, 13, 10]) ++ ftextT q.2.2) ++ [13, 10]) else []
theorem bounded_eq (s : List UInt8) : head_bounded s = some (boundT s) := by
  unfold head_bounded boundT
  by_cases h : 2048 < s.length
  · rw [if_pos (by simp; omega), if_pos h]
  · rw [if_neg (by simp; omega), if_neg h]
theorem reqText_eq {q : List UInt8 × List UInt8 × List Fld} (hl : okF q.2.2) (h1 : q.1.length ≤ 16777216) (h2 : q.2.1.length ≤ 16777216) : head_RequestText q = some (reqT q) := by
  have hf := ftext_len hl
  unfold head_RequestText reqT
  rw [Right_eq hl]
  simp only [Option.bind_some, method_eq h1, target_eq h2, host_eq hl]
  by_cases hr : (rightT q.2.2).2 = 0
  · rw [if_neg (by simp [hr]), decide_eq_true hr]
    cases methT q.1 <;> cases targT q.2.1 <;> cases hostT q.2.2 <;> simp only [Bool.not_true, Bool.not_false, Bool.false_eq_true, if_true, if_false, Option.bind_some, Bool.true_and, Bool.and_true, Bool.and_false, Bool.false_and, Bool.and_self]
    rw [szC_ok (by simp; omega), szC_ok (by simp; omega), szC_ok (by simp; omega), FText_eq hl, Option.bind_some, Option.bind_some, Option.bind_some, Option.bind_some, szC_ok (by simp; omega), szC_ok (by simp; omega), bounded_eq]
    rfl
  · rw [if_pos (by simp [hr]), decide_eq_false hr]
    rfl
def respT5 (p : Int × List UInt8 × List Fld) : List UInt8 :=
  if decide ((rightT p.2.2).2 = 0) && (!decide (p.1 < 200) && (!decide (599 < p.1) && p.2.1.all quoT)) then boundT (((((([72, 84, 84, 80, 47, 49, 46, 49, 32] ++ textS 10 p.1) ++ [32]) ++ p.2.1) ++ [13, 10]) ++ ftextT p.2.2) ++ [13, 10]) else []
theorem odd_loop (p : Int × List UInt8 × List Fld) (hl : p.2.1.length ≤ 16777216) : ∃ o, head_ResponseText_strings_indexFunc_L166 p 1099511627776 0 = some o ∧ (match o with | Sum.inl v => p.2.1.all quoT = false ∧ 0 ≤ v | Sum.inr _ => p.2.1.all quoT = true) := by
  obtain ⟨o, h1, h2⟩ := idx_loop (s := p.2.1) (G := oddG) (L := head_ResponseText_strings_indexFunc_L166 p) (.inr fun r hr => by
      unfold oddG
      exact decide_eq_false (by omega)) (fun k i => by
      simp only [head_ResponseText_strings_indexFunc_L166, odd1_eq, Option.bind_some, decide_eq_true_eq, beq_iff_eq]) 1099511627776 0 (by omega)
  rw [List.drop_zero, any_all (q := quoT) (fun c => quo_lo c)] at h2
  exact ⟨o, h1, by cases o <;> simpa using h2⟩
theorem stat_len {n : Int} (h0 : ¬ n < 200) (h1 : ¬ 599 < n) : (textS 10 n).length ≤ 20 := by
  have : ∀ k : _root_.Fin 600, (textS 10 ((k.val : Nat) : Int)).length ≤ 20 := by decide +kernel
  have := this ⟨n.toNat, by omega⟩
  simpa [Int.toNat_of_nonneg (show 0 ≤ n by omega)] using this
theorem respText_eq {p : Int × List UInt8 × List Fld} (hl : okF p.2.2) (h1 : p.1 ≤ 9223372036854775807) (h2 : p.2.1.length ≤ 16777216) : head_ResponseText p = some (respT5 p) := by
  have hf := ftext_len hl
  unfold head_ResponseText respT5
  rw [Right_eq hl]
  simp only [Option.bind_some]
  by_cases hr : (rightT p.2.2).2 = 0
  · rw [if_neg (by simp [hr]), decide_eq_true hr]
    by_cases g1 : p.1 < 200
    · simp [g1]
    · by_cases g2 : 599 < p.1
      · simp [g1, g2]
      · obtain ⟨o, e1, e2⟩ := odd_loop p h2
        have hs := stat_len g1 g2
        rw [if_neg (by simpa using g1), if_neg (by simpa using g2), e1, decide_eq_false g1, decide_eq_false g2]
        cases o with
        | inl v => obtain ⟨e2, e3⟩ := e2; simp [e2, e3]
        | inr v =>
          simp only at e2
          simp only [Option.bind_some, e2]
          rw [if_neg (by decide), digits_eq _ h1, Option.bind_some, szC_ok (by simp; omega), szC_ok (by simp; omega), szC_ok (by simp; omega), szC_ok (by simp; omega), FText_eq hl]
          simp only [Option.bind_some]
          rw [szC_ok (by simp; omega), szC_ok (by simp; omega), bounded_eq]
          rfl
  · rw [if_pos (by simp [hr]), decide_eq_false hr]
    rfl
end Go.Proofs.YtbcmngnmfneeaaaGreatDoor
