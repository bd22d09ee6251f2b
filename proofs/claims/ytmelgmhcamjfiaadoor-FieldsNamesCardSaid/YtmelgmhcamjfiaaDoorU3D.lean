/- lex, plain: lists. -/
import Derived.Test.YtmelgmhcamjfiaaDoorU3C
namespace Go.Proofs.YtmelgmhcamjfiaaDoor
open Go.Av
set_option linter.unusedVariables false
set_option linter.unusedSimpArgs false
set_option maxRecDepth 100000
theorem same_loop (a b : List (List UInt8)) (hl : a.length ≤ 100000000000000) (he : a.length = b.length) : ∀ (k i : Nat), i ≤ a.length → a.length - i < k →
    ref03_SameList_L9 a b k (i : Int) = some (if a.drop i = b.drop i then Sum.inr () else Sum.inl false)
  | 0, i, _, hk => by omega
  | k + 1, i, hi, hk => by
    simp only [ref03_SameList_L9, decide_eq_true_eq]
    by_cases hlt : i < a.length
    · have hlb : i < b.length := by omega
      have e : (a.drop i = b.drop i) = (a[i] = b[i] ∧ a.drop (i + 1) = b.drop (i + 1)) := by
        conv => lhs; rw [drop_step hlt, drop_step hlb]
        exact List.cons.injEq _ _ _ _
      rw [if_pos (by omega), ixL_in hlt, ixL_in hlb]
      simp only [Option.bind_some, e]
      by_cases h : a[i] = b[i]
      · rw [iadd64 (by omega) (by omega), ← Int.natCast_add_one, same_loop a b hl he k (i + 1) (by omega) (by omega)]
        simp [h]
      · simp [h]
    · rw [if_neg (by omega), List.drop_eq_nil_of_le (by omega), List.drop_eq_nil_of_le (by omega), if_pos rfl]
theorem SameList_eq {a b : List (List UInt8)} (hl : a.length ≤ 100000000000000) : ref03_SameList a b = some (decide (a = b)) := by
  unfold ref03_SameList
  by_cases he : a.length = b.length
  · have := same_loop a b hl he 140737488355328 0 (by omega) (by omega)
    simp only [Int.natCast_zero, List.drop_zero] at this
    rw [this, he]
    simp only [decide_true, Bool.not_true, Bool.false_eq_true, if_false]
    by_cases h : a = b
    · simp [h]
    · simp [h]
  · have hn : a ≠ b := fun e => he (by rw [e])
    rw [decide_eq_false (by omega)]
    simp [hn]
end Go.Proofs.YtmelgmhcamjfiaaDoor
