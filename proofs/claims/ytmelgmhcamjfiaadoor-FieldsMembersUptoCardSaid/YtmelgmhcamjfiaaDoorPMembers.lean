/- FieldsMembers, plain. -/
import Derived.Test.YtmelgmhcamjfiaaDoorU4D
import Derived.Test.YtmelgmhcamjfiaaDoorLMembers
namespace Go.Proofs.YtmelgmhcamjfiaaDoor
open Go.Av
theorem join_loop (r : List (List UInt8)) : ∀ (k i : Nat) (t : List UInt8), i ≤ r.length → r.length - i < k → t.length + wtV (r.drop i) ≤ 16777216 → r.length ≤ 16777216 →
    law04_FieldsMembers_L26 r k t (i : Int) = some (t ++ if i = 0 then (jnC (r.drop i)).drop 1 else jnC (r.drop i))
  | 0, i, t, _, hk, _, _ => by omega
  | k + 1, i, t, hi, hk, ht, hr => by
    simp only [law04_FieldsMembers_L26, decide_eq_true_eq]
    by_cases hlt : i < r.length
    · have hw := wtV_at hlt
      rw [if_pos (by omega), ixL_in hlt, drop_step hlt, jnC_cons, iadd64 (by omega) (by omega), ← Int.natCast_add_one]
      by_cases h0 : i = 0
      · rw [if_neg (by omega), if_pos h0]
        simp only [Option.bind_some]
        rw [szC_ok (by simp; omega)]
        simp only [Option.bind_some]
        rw [join_loop r k (i + 1) (t ++ r[i]) (by omega) (by omega) (by simp; omega) hr, if_neg (by omega)]
        simp
      · rw [if_pos (by omega), if_neg h0, szC_ok (by simp; omega)]
        simp only [Option.bind_some]
        rw [szC_ok (by simp; omega)]
        simp only [Option.bind_some]
        rw [join_loop r k (i + 1) (t ++ [44] ++ r[i]) (by omega) (by omega) (by simp; omega) hr, if_neg (by omega)]
        simp
    · rw [if_neg (by omega), show r.drop i = [] from List.drop_eq_nil_of_le (by omega)]
      simp [jnC]
theorem law_FieldsMembers (l : List (List UInt8 × List UInt8)) (n : List UInt8) (_hl : ∀ x ∈ l, True ∧ True) (_hn : True) (hb0 : sumM (fun y0 => ((y0.1.length + 1) + (y0.2.length + 1)) + 1) l + 1 + (n.length + 1 + 0) ≤ 1048576) : law04_FieldsMembers l n = some true := by
  have hb : sumM mFld l + 1 + (n.length + 1 + 0) ≤ 1048576 := hb0
  have hF := okF_of (l := l) (by omega)
  have hw := wtV_all n l
  have hv := wtV_len (allT l n)
  unfold law04_FieldsMembers
  rw [shown4, Members_eq hF (by omega) (by omega), ref_Members_eq hF (by omega) (by omega)]
  simp only [Option.bind_some]
  cases hm : mbF (allT l n) with
  | none =>
    have e : membT (allT l n) = ([], 5) := by unfold membT; rw [hm]; rfl
    rw [e]; rfl
  | some ms =>
    have e : membT (allT l n) = (ms, 0) := by unfold membT; rw [hm]; rfl
    have hj := join_loop (allT l n) 1099511627776 0 [] (by omega) (by omega) (by simp; omega) (by omega)
    simp only [Int.natCast_zero, List.drop_zero, List.nil_append, if_true] at hj
    have hl : listT ((jnC (allT l n)).drop 1) = (ms, 0) := by
      cases hv : allT l n with
      | nil => rw [hv, mbF] at hm; rw [← Option.some.inj hm]; rfl
      | cons v vs =>
        rw [hv] at hm
        have := ls_join vs v ms hm
        rw [jnC_cons]
        unfold listT
        simp only [List.drop_succ_cons, List.drop_zero]
        rw [this]; rfl
    have hlen : ((jnC (allT l n)).drop 1).length ≤ 1048576 := by rw [List.length_drop, jnC_len]; omega
    have hml : ms.length ≤ 2000000 := by
      have := listT_len ((jnC (allT l n)).drop 1)
      rw [hl] at this
      simp only at this
      omega
    rw [e]
    simp only
    rw [SameList_eq (by omega)]
    simp only [Option.bind_some, decide_true, Bool.not_true, Bool.false_eq_true, if_false]
    rw [All_eq hF (by omega)]
    simp only [Option.bind_some]
    rw [hj]
    simp only [Option.bind_some]
    rw [List_eq (by omega), hl]
    simp only [Option.bind_some]
    rw [SameList_eq (by omega)]
    simp
end Go.Proofs.YtmelgmhcamjfiaaDoor
