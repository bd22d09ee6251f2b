/- fields, plain: All, Count, Without, Members, Same. -/
import Derived.Test.YtcikflhenbpdiaaDoorV3C
import Derived.Test.YtcikflhenbpdiaaDoorU4A
import Derived.Test.YtcikflhenbpdiaaDoorGF
import Derived.Test.YtcikflhenbpdiaaDoorGH
namespace Go.Proofs.YtcikflhenbpdiaaDoor
open Go.Av
set_option linter.unusedVariables false
set_option linter.unusedSimpArgs false
set_option maxRecDepth 100000
abbrev Fld := List UInt8 × List UInt8
def okF (l : List Fld) : Prop := l.length ≤ 4398046511000 ∧ ∀ f ∈ l, f.1.length ≤ 140737488351232 ∧ f.2.length ≤ 140737488351232
theorem okF_at {l : List Fld} (h : okF l) {i : Nat} (hi : i < l.length) : l[i].1.length ≤ 140737488351232 ∧ l[i].2.length ≤ 140737488351232 := h.2 _ (List.getElem_mem hi)
def allT (l : List Fld) (n : List UInt8) : List (List UInt8) := (l.filter fun f => sameT f.1 n).map (·.2)
theorem allT_nil (n : List UInt8) : allT [] n = [] := rfl
theorem allT_cons (f : Fld) (l : List Fld) (n : List UInt8) : allT (f :: l) n = if sameT f.1 n then f.2 :: allT l n else allT l n := by
  unfold allT
  rw [List.filter_cons]
  split <;> rfl
theorem All_loop {l : List Fld} {n : List UInt8} (hl : okF l) (hn : n.length ≤ 140737488351232) : ∀ (k i : Nat) (acc : List (List UInt8)), i ≤ l.length → l.length - i < k → acc.length ≤ i →
    fields_All_L17 l n k (i : Int) acc = some (acc ++ allT (l.drop i) n)
  | 0, i, acc, _, hk, _ => by omega
  | k + 1, i, acc, hi, hk, ha => by
    have h1 := hl.1
    simp only [fields_All_L17, decide_eq_true_eq]
    by_cases hlt : i < l.length
    · have hx := okF_at hl hlt
      rw [if_pos (by omega), ixL_in hlt, drop_step hlt, allT_cons]
      simp only [Option.bind_some]
      rw [Same_eq hx.1 hn]
      simp only [Option.bind_some]
      rw [iadd64 (by omega) (by omega), ← Int.natCast_add_one]
      cases h : sameT l[i].1 n with
      | true =>
        simp only [if_true]
        rw [szC_ok (by simp; omega)]
        simp only [Option.bind_some]
        rw [All_loop hl hn k (i + 1) (acc ++ [l[i].2]) (by omega) (by omega) (by simp; omega)]
        simp
      | false =>
        simp only [Bool.false_eq_true, if_false]
        rw [All_loop hl hn k (i + 1) acc (by omega) (by omega) (by omega)]
    · rw [if_neg (by omega), List.drop_eq_nil_of_le (by omega), allT_nil, List.append_nil]
theorem All_eq {l : List Fld} {n : List UInt8} (hl : okF l) (hn : n.length ≤ 140737488351232) : fields_All l n = some (allT l n) := by
  have h1 := hl.1
  unfold fields_All
  have := All_loop hl hn 140737488355328 0 [] (by omega) (by omega) (by simp)
  simp only [Int.natCast_zero, List.drop_zero, List.nil_append] at this
  rw [this]; rfl
theorem Count_eq {l : List Fld} {n : List UInt8} (hl : okF l) (hn : n.length ≤ 140737488351232) : fields_Count l n = some ((allT l n).length : Int) := by
  unfold fields_Count
  rw [All_eq hl hn]; rfl
end Go.Proofs.YtcikflhenbpdiaaDoor
