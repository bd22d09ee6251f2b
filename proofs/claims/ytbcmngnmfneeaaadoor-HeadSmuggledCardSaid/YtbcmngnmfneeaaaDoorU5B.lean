/- head, plain: the host. -/
import Derived.Test.YtbcmngnmfneeaaaDoorU5A
import Derived.Test.YtbcmngnmfneeaaaDoorU5Z
namespace Go.Proofs.YtbcmngnmfneeaaaDoor
open Go.Av
set_option linter.unusedVariables false
set_option linter.unusedSimpArgs false
set_option maxRecDepth 100000
def hoB (r : Int) : Bool := (decide (97 ≤ r) && decide (r ≤ 122)) || ((decide (65 ≤ r) && decide (r ≤ 90)) || ((decide (48 ≤ r) && decide (r ≤ 57)) || (decide (r = 46) || decide (r = 45))))
def hoG (r : Int) : Bool := !hoB r
def diB (r : Int) : Bool := decide (48 ≤ r) && decide (r ≤ 57)
def hoC (c : UInt8) : Bool := hoB (c.toNat : Int)
def diC (c : UInt8) : Bool := diB (c.toNat : Int)
def hostS (s : List UInt8) : Bool := !decide ((Lib.cut s [58]).1 = []) && ((Lib.cut s [58]).1.all hoC && (!(Lib.cut s [58]).2.2 || (decide (1 ≤ (Lib.cut s [58]).2.1.length) && (decide ((Lib.cut s [58]).2.1.length ≤ 5) && (Lib.cut s [58]).2.1.all diC))))
def hostT (l : List Fld) : Bool := match allT l [104, 111, 115, 116] with
  | [v] => hostS v
  | _ => false
theorem host1_eq (r : Int) : head_host_1 r = some (diB r) := by
  unfold head_host_1 diB
  by_cases h : 48 ≤ r <;> simp [h]
theorem cut_len (s : List UInt8) (c : UInt8) : (Lib.cut s [c]).1.length ≤ s.length ∧ (Lib.cut s [c]).2.1.length ≤ s.length := by
  unfold Lib.cut
  split
  · exact ⟨by simp; omega, by simp⟩
  · exact ⟨Nat.le_refl _, Nat.zero_le _⟩
theorem ho_loop (r4 : List UInt8 × List UInt8 × Bool) (hl : r4.1.length ≤ 16777216) : ∃ o, strings_indexFunc_L1491 r4 1099511627776 0 = some o ∧ (match o with | Sum.inl v => r4.1.all hoC = false ∧ 0 ≤ v | Sum.inr _ => r4.1.all hoC = true) := by
  obtain ⟨o, h1, h2⟩ := idx_loop (s := r4.1) (G := hoG) (L := strings_indexFunc_L1491 r4) (.inl fun r hr => by
      unfold hoG hoB
      rw [decide_eq_false (show ¬ (r : Int) ≤ 122 by omega), decide_eq_false (show ¬ (r : Int) ≤ 90 by omega), decide_eq_false (show ¬ (r : Int) ≤ 57 by omega), decide_eq_false (show ¬ (r : Int) = 46 by omega), decide_eq_false (show ¬ (r : Int) = 45 by omega)]
      simp) (fun k p => by
      simp only [strings_indexFunc_L1491]
      by_cases hlt : p < r4.1.length
      · rw [if_pos (by simpa using hlt), if_pos hlt]
        generalize (((decR r4.1 p).1 : Nat) : Int) = x
        simp only [host1_eq, Option.bind_some, decide_eq_true_eq, diB]
        by_cases g1 : 97 ≤ x <;> by_cases g2 : x ≤ 122 <;> by_cases g3 : 65 ≤ x <;> by_cases g4 : x ≤ 90 <;> by_cases g5 : 48 ≤ x <;> by_cases g6 : x ≤ 57 <;> by_cases g7 : x = 46 <;> by_cases g8 : x = 45 <;> simp [g1, g2, g3, g4, g5, g6, g7, g8, hoG, hoB]
      · rw [if_neg (by simpa using hlt), if_neg hlt]) 1099511627776 0 (by omega)
  rw [List.drop_zero, any_all (q := hoC) (fun c => rfl)] at h2
  exact ⟨o, h1, by cases o <;> simpa using h2⟩
theorem di_loop (r4 : List UInt8 × List UInt8 × Bool) (hl : r4.2.1.length ≤ 16777216) : ∃ o, strings_indexFunc_L1692 r4 1099511627776 0 = some o ∧ (match o with | Sum.inl v => r4.2.1.all diC = false ∧ 0 ≤ v | Sum.inr _ => r4.2.1.all diC = true) := by
  obtain ⟨o, h1, h2⟩ := idx_loop (s := r4.2.1) (G := fun r => !diB r) (L := strings_indexFunc_L1692 r4) (.inl fun r hr => by
      unfold diB
      rw [decide_eq_false (show ¬ (r : Int) ≤ 57 by omega)]
      simp) (fun k p => by
      simp only [strings_indexFunc_L1692]
      by_cases hlt : p < r4.2.1.length
      · rw [if_pos (by simpa using hlt), if_pos hlt]
        simp only [host1_eq, Option.bind_some, beq_iff_eq]
      · rw [if_neg (by simpa using hlt), if_neg hlt]) 1099511627776 0 (by omega)
  rw [List.drop_zero, any_all (q := diC) (fun c => rfl)] at h2
  exact ⟨o, h1, by cases o <;> simpa using h2⟩
theorem host_eq {l : List Fld} (hl : okF l) : head_host l = some (hostT l) := by
  unfold head_host hostT
  rw [All_eq hl (by decide)]
  simp only [Option.bind_some]
  rcases h : allT l [104, 111, 115, 116] with _ | ⟨v, _ | ⟨v2, r⟩⟩
  · rfl
  · have hv : v.length ≤ 16777216 := by
      have : v ∈ allT l [104, 111, 115, 116] := by rw [h]; simp
      unfold allT at this
      obtain ⟨f, hf, rfl⟩ := List.mem_map.1 this
      exact (hl.2 f (List.mem_filter.1 hf).1).2
    have e0 : ixL [v] 0 = some v := by have := ixL_nat [v] 0; simpa using this
    have ec : cutX v [58] = some (Lib.cut v [58]) := by unfold cutX; rw [if_pos (by omega)]
    obtain ⟨k1, k2⟩ := cut_len v 58
    rw [if_neg (by simp), e0]
    simp only [Option.bind_some]
    rw [ec]
    simp only [Option.bind_some]
    unfold hostS
    generalize Lib.cut v [58] = r4 at k1 k2
    obtain ⟨o, h1, h2⟩ := ho_loop r4 (by omega)
    obtain ⟨o2, h3, h4⟩ := di_loop r4 (by omega)
    by_cases hn : r4.1 = []
    · simp [hn]
    · rw [h1]
      cases o with
      | inl q => obtain ⟨h2, h5⟩ := h2; simp [hn, h2, h5]
      | inr q =>
        simp only at h2
        simp only [hn, h2, decide_false, Bool.false_eq_true, if_false, Option.bind_some]
        cases hb : r4.2.2 with
        | false => simp
        | true =>
          by_cases g1 : 1 ≤ r4.2.1.length
          · by_cases g2 : r4.2.1.length ≤ 5
            · rw [h3]
              cases o2 with
              | inl q => obtain ⟨h4, h5⟩ := h4; simp [g1, g2, h4, h5]
              | inr q =>
                simp only at h4
                simp [g1, g2]
                rw [if_pos (by omega), if_pos (by omega), h4]
            · simp [g1, g2]; omega
          · simp [g1]; omega
  · have : ¬ (((v :: v2 :: r).length : Nat) : Int) = 1 := by simp only [List.length_cons]; omega
    rw [if_pos (by simp only [decide_eq_false this]; rfl)]
end Go.Proofs.YtbcmngnmfneeaaaDoor
