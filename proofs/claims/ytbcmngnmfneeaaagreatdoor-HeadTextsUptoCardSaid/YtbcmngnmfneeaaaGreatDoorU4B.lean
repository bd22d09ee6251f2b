/- fields, plain: All, Count, Without, Members, Same. -/
import Derived.Test.YtbcmngnmfneeaaaGreatDoorV3C
import Derived.Test.YtbcmngnmfneeaaaGreatDoorU4A
import Derived.Test.YtbcmngnmfneeaaaGreatDoorGF
import Derived.Test.YtbcmngnmfneeaaaGreatDoorGH
namespace Go.Proofs.YtbcmngnmfneeaaaGreatDoor
open Go.Av
set_option linter.unusedVariables false
set_option linter.unusedSimpArgs false
set_option maxRecDepth 100000
abbrev Fld := List UInt8 × List UInt8
def okF (l : List Fld) : Prop := l.length ≤ 16777216 ∧ ∀ f ∈ l, f.1.length ≤ 16777216 ∧ f.2.length ≤ 16777216
theorem okF_at {l : List Fld} (h : okF l) {i : Nat} (hi : i < l.length) : l[i].1.length ≤ 16777216 ∧ l[i].2.length ≤ 16777216 := h.2 _ (List.getElem_mem hi)
def allT (l : List Fld) (n : List UInt8) : List (List UInt8) := (l.filter fun f => sameT f.1 n).map (·.2)
theorem allT_nil (n : List UInt8) : allT [] n = [] := rfl
theorem allT_cons (f : Fld) (l : List Fld) (n : List UInt8) : allT (f :: l) n = if sameT f.1 n then f.2 :: allT l n else allT l n := by
  unfold allT
  rw [List.filter_cons]
  split <;> rfl
theorem All_loop {l : List Fld} {n : List UInt8} (hl : okF l) (hn : n.length ≤ 16777216) : ∀ (k i : Nat) (acc : List (List UInt8)), i ≤ l.length → l.length - i < k → acc.length ≤ i →
    fields_All_L17 l n k (i : Int) acc = some (acc ++ allT (l.drop i) n)
  | 0, i, acc, _, hk, _ => by omega
  | k + 1, i, acc, hi, hk, ha => by
    have h1 := hl.1
    simp only [fields_All_L17, decide_eq_true_eq]
    by_cases hlt : i < l.length
    · have hx := okF_at hl hlt
      rw [if_pos (by omega), ixL_in hlt, drop_step hlt, allT_cons]
      simp only [Option.bind_some]
      rw [Same_eq hx.1 hn]
      simp only [Option.bind_some]
      rw [iadd64 (by omega) (by omega), ← Int.natCast_add_one]
      cases h : sameT l[i].1 n with
      | true =>
        simp only [if_true]
        rw [szC_ok (by simp; omega)]
        simp only [Option.bind_some]
        rw [All_loop hl hn k (i + 1) (acc ++ [l[i].2]) (by omega) (by omega) (by simp; omega)]
        simp
      | false =>
        simp only [Bool.false_eq_true, if_false]
        rw [All_loop hl hn k (i + 1) acc (by omega) (by omega) (by omega)]
    · rw [if_neg (by omega), List.drop_eq_nil_of_le (by omega), allT_nil, List.append_nil]
theorem All_eq {l : List Fld} {n : List UInt8} (hl : okF l) (hn : n.length ≤ 16777216) : fields_All l n = some (allT l n) := by
  have h1 := hl.1
  unfold fields_All
  have := All_loop hl hn 1099511627776 0 [] (by omega) (by omega) (by simp)
  simp only [Int.natCast_zero, List.drop_zero, List.nil_append] at this
  rw [this]; rfl
theorem ref_All_loop {l : List Fld} {n : List UInt8} (hl : okF l) (hn : n.length ≤ 16777216) : ∀ (k i : Nat) (acc : List (List UInt8)), i ≤ l.length → l.length - i < k → acc.length ≤ i →
    ref04_All_L20 l n k (i : Int) acc = some (acc ++ allT (l.drop i) n)
  | 0, i, acc, _, hk, _ => by omega
  | k + 1, i, acc, hi, hk, ha => by
    have h1 := hl.1
    simp only [ref04_All_L20, decide_eq_true_eq]
    by_cases hlt : i < l.length
    · have hx := okF_at hl hlt
      rw [if_pos (by omega), ixL_in hlt, drop_step hlt, allT_cons]
      simp only [Option.bind_some]
      rw [ref_Same_eq hx.1 hn]
      simp only [Option.bind_some]
      rw [iadd64 (by omega) (by omega), ← Int.natCast_add_one]
      cases h : sameT l[i].1 n with
      | true =>
        simp only [if_true]
        rw [szC_ok (by simp; omega)]
        simp only [Option.bind_some]
        rw [ref_All_loop hl hn k (i + 1) (acc ++ [l[i].2]) (by omega) (by omega) (by simp; omega)]
        simp
      | false =>
        simp only [Bool.false_eq_true, if_false]
        rw [ref_All_loop hl hn k (i + 1) acc (by omega) (by omega) (by omega)]
    · rw [if_neg (by omega), List.drop_eq_nil_of_le (by omega), allT_nil, List.append_nil]
theorem ref_All_eq {l : List Fld} {n : List UInt8} (hl : okF l) (hn : n.length ≤ 16777216) : ref04_All l n = some (allT l n) := by
  have h1 := hl.1
  unfold ref04_All
  have := ref_All_loop hl hn 1099511627776 0 [] (by omega) (by omega) (by simp)
  simp only [Int.natCast_zero, List.drop_zero, List.nil_append] at this
  rw [this]; rfl
/-! without names -/
theorem samef_loop (a b : List Fld) (hl : a.length ≤ 1000000000) (he : a.length = b.length) : ∀ (k i : Nat), i ≤ a.length → a.length - i < k →
    ref04_Same_L9 a b k (i : Int) = some (if a.drop i = b.drop i then Sum.inr () else Sum.inl false)
  | 0, i, _, hk => by omega
  | k + 1, i, hi, hk => by
    simp only [ref04_Same_L9, decide_eq_true_eq]
    by_cases hlt : i < a.length
    · have hlb : i < b.length := by omega
      have e : (a.drop i = b.drop i) = (a[i] = b[i] ∧ a.drop (i + 1) = b.drop (i + 1)) := by
        conv => lhs; rw [drop_step hlt, drop_step hlb]
        exact List.cons.injEq _ _ _ _
      rw [if_pos (by omega), ixL_in hlt, ixL_in hlb]
      simp only [Option.bind_some, e]
      by_cases h : a[i] = b[i]
      · rw [iadd64 (by omega) (by omega), ← Int.natCast_add_one, samef_loop a b hl he k (i + 1) (by omega) (by omega)]
        simp only [h, decide_true, Bool.and_self, Bool.not_true, Bool.false_eq_true, if_false, true_and]
      · have h2 : (decide (a[i].1 = b[i].1) && decide (a[i].2 = b[i].2)) = false := by
          rw [Bool.and_eq_false_imp]
          intro h3
          exact decide_eq_false fun h4 => h (Prod.ext (of_decide_eq_true h3) h4)
        simp only [h, h2, Bool.not_false, if_true, if_false, false_and]
    · rw [if_neg (by omega), List.drop_eq_nil_of_le (by omega), List.drop_eq_nil_of_le (by omega), if_pos rfl]
theorem SameF_eq {a b : List Fld} (hl : a.length ≤ 1000000000) : ref04_Same a b = some (decide (a = b)) := by
  unfold ref04_Same
  by_cases he : a.length = b.length
  · have := samef_loop a b hl he 1099511627776 0 (by omega) (by omega)
    simp only [Int.natCast_zero, List.drop_zero] at this
    rw [this, he]
    simp only [decide_true, Bool.not_true, Bool.false_eq_true, if_false]
    by_cases h : a = b
    · simp [h]
    · simp [h]
  · have hn : a ≠ b := fun e => he (by rw [e])
    rw [decide_eq_false (by omega)]
    simp [hn]
/-! members -/
end Go.Proofs.YtbcmngnmfneeaaaGreatDoor
