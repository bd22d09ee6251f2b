/- FieldsParted, plain. -/
import Derived.Test.YtmelgmhcamjfiaaDoorU4D
import Derived.Test.YtmelgmhcamjfiaaDoorLParted
namespace Go.Proofs.YtmelgmhcamjfiaaDoor
open Go.Av
theorem parted_loop {l : List Fld} {n : List UInt8} (hl : okF l) (hn : n.length ≤ 140737488351232) : ∀ (k i q : Nat), i ≤ l.length → l.length - i < k → q ≤ (outT l [n]).length → (outT l [n]).drop q = outT (l.drop i) [n] →
    law04_FieldsParted_L39 l (outT l [n]) n k (q : Int) (i : Int) = some ((outT l [n]).length : Int)
  | 0, i, q, _, hk, _, _ => by omega
  | k + 1, i, q, hi, hk, hq, hd => by
    have h1 := hl.1
    have h2 := (okF_out hl [n]).1
    simp only [law04_FieldsParted_L39, decide_eq_true_eq]
    by_cases hlt : i < l.length
    · have hx := okF_at hl hlt
      have hdl := congrArg List.length hd
      rw [List.length_drop] at hdl
      rw [drop_step hlt, outT_cons, in_one] at hd
      rw [if_pos (by omega), ixL_in hlt]
      simp only [Option.bind_some]
      rw [Same_eq hx.1 hn, iadd64 (a := (i : Int)) (by omega) (by omega), ← Int.natCast_add_one]
      simp only [Option.bind_some]
      cases h : sameT l[i].1 n with
      | true =>
        rw [h] at hd
        simp only [if_true] at hd
        by_cases hqr : q < (outT l [n]).length
        · rw [if_pos (by omega), ixL_in hqr]
          simp only [Option.bind_some, Bool.not_true]
          have := parted_loop hl hn k (i + 1) q (by omega) (by omega) hq hd
          by_cases hc : (decide (l[i].1 = (outT l [n])[q].1) && decide (l[i].2 = (outT l [n])[q].2)) = true
          · rw [if_pos hc]; simpa using this
          · rw [if_neg hc]; simpa using this
        · rw [if_neg (by omega)]
          simpa using parted_loop hl hn k (i + 1) q (by omega) (by omega) hq hd
      | false =>
        rw [h] at hd
        simp only [Bool.false_eq_true, if_false] at hd
        have hqr : q < (outT l [n]).length := by
          have := congrArg List.length hd
          simp at this
          omega
        rw [drop_step hqr] at hd
        obtain ⟨e1, e2⟩ := List.cons.inj hd
        rw [if_pos (by omega), ixL_in hqr, e1]
        simp only [Option.bind_some, decide_true, Bool.and_self, if_true, Bool.not_false]
        rw [iadd64 (by omega) (by omega), ← Int.natCast_add_one]
        exact parted_loop hl hn k (i + 1) (q + 1) (by omega) (by omega) (by omega) e2
    · rw [if_neg (by omega)]
      rw [List.drop_eq_nil_of_le (show l.length ≤ i by omega)] at hd
      have := congrArg List.length hd
      rw [List.length_drop, show outT [] [n] = [] from rfl, List.length_nil] at this
      rw [show q = (outT l [n]).length by omega]
theorem law_FieldsParted_all (l : List (List UInt8 × List UInt8)) (n : List UInt8) (_hl : ∀ x ∈ l, True ∧ True) (_hn : True) (hb : l.length * 32 ≤ 140737488351232 ∧ ∀ x ∈ l, x.1.length ≤ 140737488351232 ∧ x.2.length ≤ 140737488351232) (hN : n.length ≤ 140737488351232) : law04_FieldsParted l n = some true := by
  have hF : okF l := ⟨by have := hb.1; omega, hb.2⟩
  have h1 := hF.1
  have hO := okF_out hF [n]
  have h2 := hO.1
  have hs := out_all n l
  have hp := parted_loop hF hN 140737488355328 0 0 (by omega) (by omega) (by omega) (by rw [List.drop_zero, List.drop_zero])
  simp only [Int.natCast_zero] at hp
  unfold law04_FieldsParted
  rw [shown4, Without_eq hF (okN_one hN)]
  simp only [Option.bind_some, Bool.not_true, Bool.false_eq_true, if_false]
  rw [Count_eq hF hN, Count_eq hO hN, All_eq hF hN, all_out]
  simp only [Option.bind_some, List.length_nil]
  rw [iadd64 (by omega) (by omega), decide_eq_true (show ((outT l [n]).length : Int) + ((allT l n).length : Int) = (l.length : Int) by omega), hp, Without_eq hO (okN_one hN), out_out, Without_eq hF ⟨by simp, by simp⟩, out_nil]
  simp only [Option.bind_some]
  rw [SameF_eq (by omega), SameF_eq (by omega)]
  simp
end Go.Proofs.YtmelgmhcamjfiaaDoor
