/- harden, plain: whether a response is a page. -/
import Derived.Test.YtgngopfpnidbaaaGreatDoorU2HA
import Derived.Test.YtgngopfpnidbaaaGreatDoorU3F
import Derived.Test.YtgngopfpnidbaaaGreatDoorU4D
import Derived.Test.YtgngopfpnidbaaaGreatDoorLKinds
namespace Go.Proofs.YtgngopfpnidbaaaGreatDoor
open Go.Av
set_option linter.unusedVariables false
set_option linter.unusedSimpArgs false
set_option maxRecDepth 100000
def idN : List UInt8 := [105, 100, 101, 110, 116, 105, 116, 121]
def csN : List UInt8 := [99, 104, 97, 114, 115, 101, 116]
def ctN : List UInt8 := [99, 111, 110, 116, 101, 110, 116, 45, 116, 121, 112, 101]
def ceN : List UInt8 := [99, 111, 110, 116, 101, 110, 116, 45, 101, 110, 99, 111, 100, 105, 110, 103]
theorem enc_loop (r2 : List (List UInt8) × Int) (h1 : r2.1.length ≤ 16777216) (h2 : ∀ x ∈ r2.1, x.length ≤ 16777216) : ∀ (k i : Nat), i ≤ r2.1.length → r2.1.length - i < k →
    ∃ o, slices_IndexFunc_string_string_L104 r2 k (i : Int) = some o ∧ (match o with | .inl v => 0 ≤ v ∧ (r2.1.drop i).any (fun n => !sameT n idN) = true | .inr _ => (r2.1.drop i).any (fun n => !sameT n idN) = false)
  | 0, i, _, hk => by omega
  | k + 1, i, hi, hk => by
    simp only [slices_IndexFunc_string_string_L104, harden_Kind_1]
    by_cases hlt : i < r2.1.length
    · rw [if_pos (by simpa using hlt), ixL_in hlt]
      simp only [Option.bind_some]
      rw [Same_eq (h2 _ (List.getElem_mem hlt)) (by decide), drop_step hlt, List.any_cons]
      simp only [Option.bind_some]
      show ∃ o, (if (!sameT r2.1[i] idN) = true then _ else _) = _ ∧ _
      cases hs : sameT r2.1[i] idN with
      | false => exact ⟨_, rfl, by simp⟩
      | true =>
        rw [if_neg (by simp), iadd64 (by omega) (by omega), ← Int.natCast_add_one]
        obtain ⟨o, g1, g2⟩ := enc_loop r2 h1 h2 k (i + 1) (by omega) (by omega)
        exact ⟨o, g1, by simpa using g2⟩
    · rw [if_neg (by simpa using hlt), List.drop_eq_nil_of_le (by omega)]
      exact ⟨_, rfl, rfl⟩
theorem ref_enc_loop (r2 : List (List UInt8) × Int) (h1 : r2.1.length ≤ 16777216) (h2 : ∀ x ∈ r2.1, x.length ≤ 16777216) : ∀ (k i : Nat), i ≤ r2.1.length → r2.1.length - i < k →
    ref21_Kind_L18 r2 k (i : Int) = some (if (r2.1.drop i).any (fun n => !sameT n idN) then .inl (false, [], 25) else .inr ())
  | 0, i, _, hk => by omega
  | k + 1, i, hi, hk => by
    simp only [ref21_Kind_L18]
    by_cases hlt : i < r2.1.length
    · rw [if_pos (by simpa using hlt), ixL_in hlt]
      simp only [Option.bind_some]
      rw [ref_Same_eq (h2 _ (List.getElem_mem hlt)) (by decide), drop_step hlt, List.any_cons]
      simp only [Option.bind_some]
      show (if (!sameT r2.1[i] idN) = true then _ else _) = _
      cases hs : sameT r2.1[i] idN with
      | false => rfl
      | true =>
        rw [if_neg (by simp), iadd64 (by omega) (by omega), ← Int.natCast_add_one, ref_enc_loop r2 h1 h2 k (i + 1) (by omega) (by omega)]
        simp
    · rw [if_neg (by simpa using hlt), List.drop_eq_nil_of_le (by omega)]
      rfl
theorem par_loop (r4 : Med × Int) (h1 : r4.1.2.2.length ≤ 1000000000) : ∀ (k i : Nat), i ≤ r4.1.2.2.length → r4.1.2.2.length - i < k →
    ∃ o, slices_IndexFunc_api_Param_api_Param_L131 r4 k (i : Int) = some o ∧ (match (r4.1.2.2.drop i).find? (fun x => decide (x.1 = csN)), o with | some x, .inl v => ∃ j : Nat, v = (j : Int) ∧ r4.1.2.2[j]? = some x | none, .inr _ => True | _, _ => False)
  | 0, i, _, hk => by omega
  | k + 1, i, hi, hk => by
    simp only [slices_IndexFunc_api_Param_api_Param_L131, harden_Kind_2]
    by_cases hlt : i < r4.1.2.2.length
    · rw [if_pos (by simpa using hlt), ixL_in hlt]
      simp only [Option.bind_some]
      rw [drop_step hlt, List.find?_cons]
      show ∃ o, (if decide (r4.1.2.2[i].1 = csN) = true then _ else _) = _ ∧ _
      by_cases hs : r4.1.2.2[i].1 = csN
      · rw [decide_eq_true hs, if_pos rfl]
        exact ⟨_, rfl, i, rfl, List.getElem?_eq_getElem hlt⟩
      · rw [decide_eq_false hs, if_neg (by simp), iadd64 (by omega) (by omega), ← Int.natCast_add_one]
        exact par_loop r4 h1 k (i + 1) (by omega) (by omega)
    · rw [if_neg (by simpa using hlt), List.drop_eq_nil_of_le (by omega)]
      exact ⟨_, rfl, trivial⟩
theorem ref_par_loop (r4 : Med × Int) (h1 : r4.1.2.2.length ≤ 1000000000) : ∀ (k i : Nat), i ≤ r4.1.2.2.length → r4.1.2.2.length - i < k →
    ref21_Kind_L29 r4 k (i : Int) = some (match (r4.1.2.2.drop i).find? (fun x => decide (x.1 = csN)) with | some x => .inl (true, x.2, 0) | none => .inr ())
  | 0, i, _, hk => by omega
  | k + 1, i, hi, hk => by
    simp only [ref21_Kind_L29]
    by_cases hlt : i < r4.1.2.2.length
    · rw [if_pos (by simpa using hlt), ixL_in hlt]
      simp only [Option.bind_some]
      rw [drop_step hlt, List.find?_cons]
      show (if decide (r4.1.2.2[i].1 = csN) = true then _ else _) = _
      by_cases hs : r4.1.2.2[i].1 = csN
      · rw [decide_eq_true hs, if_pos rfl]
      · rw [decide_eq_false hs, if_neg (by simp), iadd64 (by omega) (by omega), ← Int.natCast_add_one]
        exact ref_par_loop r4 h1 k (i + 1) (by omega) (by omega)
    · rw [if_neg (by simpa using hlt), List.drop_eq_nil_of_le (by omega)]
      rfl
end Go.Proofs.YtgngopfpnidbaaaGreatDoor
