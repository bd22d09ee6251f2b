/- FieldsNames, plain. -/
import Derived.Test.YtmelgmhcamjfiaaDoorU4D
import Derived.Test.YtmelgmhcamjfiaaDoorLNames
namespace Go.Proofs.YtmelgmhcamjfiaaDoor
open Go.Av
theorem spoil1_loop : ∀ (k i : Nat) (l : List (List UInt8)), l.length ≤ 100000000000000 → i ≤ l.length → l.length - i < k →
    law04_FieldsNames_L316 k (i : Int) l = some ()
  | 0, i, l, _, _, hk => by omega
  | k + 1, i, l, hl, hi, hk => by
    simp only [law04_FieldsNames_L316, decide_eq_true_eq]
    by_cases hlt : i < l.length
    · rw [if_pos (by omega), ixL_in hlt, iadd64 (by omega) (by omega), ← Int.natCast_add_one]
      exact spoil1_loop k (i + 1) _ (by rw [List.length_set]; omega) (by rw [List.length_set]; omega) (by rw [List.length_set]; omega)
    · rw [if_neg (by omega)]
theorem spoil2_loop : ∀ (k i : Nat) (l : List Fld), l.length ≤ 100000000000000 → i ≤ l.length → l.length - i < k →
    law04_FieldsNames_L337 k (i : Int) l = some ()
  | 0, i, l, _, _, hk => by omega
  | k + 1, i, l, hl, hi, hk => by
    simp only [law04_FieldsNames_L337, decide_eq_true_eq]
    by_cases hlt : i < l.length
    · rw [if_pos (by omega), ixL_in hlt, iadd64 (by omega) (by omega), ← Int.natCast_add_one]
      exact spoil2_loop k (i + 1) _ (by rw [List.length_set]; omega) (by rw [List.length_set]; omega) (by rw [List.length_set]; omega)
    · rw [if_neg (by omega)]
theorem lent_eq (l : List Fld) : slL (l ++ [([33], [])]) 0 (l.length : Int) = some l := by
  rw [slL_to (by simp), List.take_left]
theorem names_loop {l : List Fld} {ns : List (List UInt8)} (hl : okF l) (hn : okN ns) : ∀ (k i : Nat), i ≤ ns.length → ns.length - i < k → law04_FieldsNames_L292 ns l k (i : Int) = some (Sum.inr ())
  | 0, i, _, hk => by omega
  | k + 1, i, hi, hk => by
    have h1 := hl.1
    have h2 := hn.1
    simp only [law04_FieldsNames_L292, decide_eq_true_eq]
    rw [lent_eq]
    by_cases hlt : i < ns.length
    · have hx := hn.2 _ (List.getElem_mem hlt)
      have ha := allT_len l ns[i]
      have hs := spoil1_loop 140737488355328 0 (allT l ns[i]) (by omega) (by omega) (by omega)
      rw [if_pos (by omega), ixL_in hlt]
      simp only [Option.bind_some]
      by_cases h20 : (i : Int) < 20
      · rw [decide_eq_true h20, if_pos rfl, All_eq hl hx, ref_All_eq hl hx]
        simp only [Option.bind_some]
        rw [SameList_eq (by omega), Count_eq hl hx]
        simp only [Option.bind_some, decide_true, Bool.not_true, Bool.false_eq_true, if_false]
        rw [show (0 : Int) = ((0 : Nat) : Int) from rfl, hs]
        simp only [Option.bind_some]
        rw [iadd64 (by omega) (by omega), ← Int.natCast_add_one]
        exact names_loop hl hn k (i + 1) (by omega) (by omega)
      · rw [decide_eq_false h20]; rfl
    · rw [if_neg (by omega)]; rfl
theorem names_turn {l : List Fld} {ns : List (List UInt8)} (hl : okF l) (hn : okN ns) (k : Nat) (i : Int) (h : i < 2) : law04_FieldsNames_L233 ns l (k + 1) i = law04_FieldsNames_L233 ns l k (iadd .i64 i 1) := by
  have h1 := hl.1
  have h2 := hn.1
  have hO := (okF_out hl ns).1
  have e1 : slL (ns ++ [[63]]) 0 (ns.length : Int) = some ns := by rw [slL_to (by simp), List.take_left]
  have h3 := names_loop hl hn 140737488355328 0 (by omega) (by omega)
  have h4 := spoil2_loop 140737488355328 0 (outT l ns ++ [([], [])]) (by simp; omega) (by omega) (by simp; omega)
  simp only [Int.natCast_zero] at h3 h4
  rw [law04_FieldsNames_L233, decide_eq_true h, if_pos rfl, h3]
  simp only [Option.bind_some]
  rw [lent_eq, e1]
  simp only [Option.bind_some]
  rw [Without_eq hl hn, ref_Without_eq hl hn]
  simp only [Option.bind_some]
  rw [SameF_eq (by omega)]
  simp only [Option.bind_some, decide_true, Bool.not_true, Bool.false_eq_true, if_false]
  rw [szC_ok (by simp; omega)]
  simp only [Option.bind_some]
  rw [h4]
  rfl
theorem law_FieldsNames_all (l : List (List UInt8 × List UInt8)) (ns : List (List UInt8)) (_hl : ∀ x ∈ l, True ∧ True) (_hn : ∀ x ∈ ns, True) (hb : l.length * 32 ≤ 140737488351232 ∧ ∀ x ∈ l, x.1.length ≤ 140737488351232 ∧ x.2.length ≤ 140737488351232) (hb2 : ns.length * 16 ≤ 140737488351232 ∧ ∀ x ∈ ns, x.length ≤ 140737488351232) : law04_FieldsNames l ns = some true := by
  have hF : okF l := ⟨by have := hb.1; omega, hb.2⟩
  have hN : okN ns := ⟨by have := hb2.1; omega, hb2.2⟩
  have h1 := hF.1
  have h2 := hN.1
  have e2 : slL (l ++ [([33], [])]) 0 (iadd .i64 (l.length : Int) 1) = some (l ++ [([33], [])]) := by
    rw [iadd64 (by omega) (by omega), ← Int.natCast_add_one, slL_to (by simp), List.take_of_length_le (by simp)]
  have e3 : ixL (l ++ [([33], [])] : List Fld) (l.length : Int) = some ([33], []) := by
    rw [ixL_nat]; simp
  have e4 : ixL (ns ++ [[63]] : List (List UInt8)) (ns.length : Int) = some [63] := by
    rw [ixL_nat]; simp
  have h5 : law04_FieldsNames_L233 ns l 140737488355328 0 = some (Sum.inr ()) := by
    rw [show (140737488355328 : Nat) = 140737488355325 + 1 + 1 + 1 from rfl, names_turn hF hN _ _ (by decide), names_turn hF hN _ _ (by decide), law04_FieldsNames_L233, if_neg (by decide)]
  unfold law04_FieldsNames
  rw [shown4, szC_ok (by omega), szC_ok (by simp; omega), lent_eq, szC_ok (by omega), szC_ok (by simp; omega), h5]
  simp only [Option.bind_some]
  rw [SameF_eq (by omega), e2]
  simp only [Option.bind_some, decide_true, if_true]
  rw [e3]
  simp only [Option.bind_some]
  rw [e4]
  simp
end Go.Proofs.YtmelgmhcamjfiaaDoor
