/- head, plain: the host, by the document. -/
import Derived.Test.YtbcmngnmfneeaaaGreatDoorU5B
import Derived.Test.YtbcmngnmfneeaaaGreatDoorGIh
namespace Go.Proofs.YtbcmngnmfneeaaaGreatDoor
open Go.Av
set_option linter.unusedVariables false
set_option linter.unusedSimpArgs false
set_option maxRecDepth 100000
theorem ref_host_loop (s : List UInt8) (hl : s.length ≤ 16777216) : ∀ (k i : Nat), i ≤ s.length → s.length - i < k → ref05_host_L128 s k (i : Int) = some ((i + ((s.drop i).takeWhile hoC).length : Nat) : Int)
  | 0, i, _, hk => by omega
  | k + 1, i, hi, hk => by
    simp only [ref05_host_L128, decide_eq_true_eq]
    by_cases hlt : i < s.length
    · rw [if_pos (by omega), ixL_in hlt]
      simp only [Option.bind_some, b2i_bC]
      rw [iadd64 (by omega) (by omega), ← Int.natCast_add_one, ref_host_loop s hl k (i + 1) (by omega) (by omega), drop_step hlt, List.takeWhile_cons]
      have hc : hoC s[i] = hoB (b2i s[i]) := rfl
      rw [hc]
      generalize b2i s[i] = x
      generalize hz : (some (((i + 1 + ((s.drop (i + 1)).takeWhile hoC).length : Nat)) : Int)) = z
      have hz' : z = some (((i + (s[i] :: (s.drop (i + 1)).takeWhile hoC).length : Nat)) : Int) := by rw [← hz]; congr 2; simp; omega
      by_cases g1 : 97 ≤ x <;> by_cases g2 : x ≤ 122 <;> by_cases g3 : 65 ≤ x <;> by_cases g4 : x ≤ 90 <;> by_cases g5 : 48 ≤ x <;> by_cases g6 : x ≤ 57 <;> by_cases g7 : x = 46 <;> by_cases g8 : x = 45 <;> simp [g1, g2, g3, g4, g5, g6, g7, g8, hoB, hz']
    · rw [if_neg (by omega), List.drop_eq_nil_of_le (by omega)]; rfl
theorem ref_di_loop (s : List UInt8) (hl : s.length ≤ 16777216) : ∀ (k i : Nat), i ≤ s.length → s.length - i < k → ref05_host_L213 s k (i : Int) = some (if (s.drop i).all diC then Sum.inr () else Sum.inl false)
  | 0, i, _, hk => by omega
  | k + 1, i, hi, hk => by
    simp only [ref05_host_L213, decide_eq_true_eq]
    by_cases hlt : i < s.length
    · rw [if_pos (by omega), ixL_in hlt]
      simp only [Option.bind_some]
      rw [drop_step hlt, List.all_cons]
      have e : (if b2i s[i] < b2i (bC 48) then some true else some (decide (b2i (bC 57) < b2i s[i]))) = some (!diC s[i]) :=
        of_decide_eq_true (all256 (p := fun c => decide ((if b2i c < b2i (bC 48) then some true else some (decide (b2i (bC 57) < b2i c))) = some (!diC c))) (by kernel_rfl) s[i])
      rw [e]
      simp only [Option.bind_some]
      cases h : diC s[i] with
      | true =>
        simp only [Bool.not_true, Bool.false_eq_true, if_false, Bool.true_and]
        rw [iadd64 (by omega) (by omega), ← Int.natCast_add_one, ref_di_loop s hl k (i + 1) (by omega) (by omega)]
      | false => simp
    · rw [if_neg (by omega), List.drop_eq_nil_of_le (by omega)]; rfl
theorem cut_case : ∀ s : List UInt8, ((s.takeWhile hoC).length = s.length ∧ Lib.cut s [58] = (s, [], false) ∧ s.all hoC = true) ∨
    (∃ h : (s.takeWhile hoC).length < s.length, s[(s.takeWhile hoC).length] = 58 ∧ Lib.cut s [58] = (s.take (s.takeWhile hoC).length, s.drop ((s.takeWhile hoC).length + 1), true) ∧ (s.take (s.takeWhile hoC).length).all hoC = true) ∨
    (∃ h : (s.takeWhile hoC).length < s.length, s[(s.takeWhile hoC).length] ≠ 58 ∧ (Lib.cut s [58]).1.all hoC = false)
  | [] => .inl ⟨rfl, cutc_nil 58, rfl⟩
  | b :: l => by
    have h58 : hoC 58 = false := by decide
    rw [cutc_cons]
    cases hb : hoC b with
    | true =>
      have hne : b ≠ 58 := fun e => by rw [e, h58] at hb; cases hb
      have e1 : (b :: l).takeWhile hoC = b :: l.takeWhile hoC := by rw [List.takeWhile_cons, hb]; rfl
      rw [if_neg hne, e1]
      rcases cut_case l with ⟨h1, h2, h3⟩ | ⟨h1, h2, h3, h4⟩ | ⟨h1, h2, h3⟩
      · exact .inl ⟨by simp [h1], by rw [h2], by rw [List.all_cons, hb, h3]; rfl⟩
      · exact .inr (.inl ⟨by simpa using h1, by simpa using h2, by rw [h3]; simp, by simp only [List.length_cons, List.take_succ_cons, List.all_cons, hb, h4]; rfl⟩)
      · exact .inr (.inr ⟨by simpa using h1, by simpa using h2, by simp only [List.all_cons, h3, Bool.and_false]⟩)
    | false =>
      have e1 : (b :: l).takeWhile hoC = [] := by rw [List.takeWhile_cons, hb]; rfl
      rw [e1]
      by_cases h : b = 58
      · exact .inr (.inl ⟨by simp, by simpa using h, by rw [if_pos h]; simp, rfl⟩)
      · exact .inr (.inr ⟨by simp, by simpa using h, by rw [if_neg h]; simp only [List.all_cons, hb, Bool.false_and]⟩)
theorem ref_host_eq {s : List UInt8} (hl : s.length ≤ 16777216) : ref05_host s = some (hostS s) := by
  unfold ref05_host hostS
  have h0 := ref_host_loop s hl 1099511627776 0 (by omega) (by omega)
  simp only [Int.natCast_zero, List.drop_zero, Nat.zero_add] at h0
  rw [h0]
  simp only [Option.bind_some]
  rcases cut_case s with ⟨h1, h2, h3⟩ | ⟨h1, h2, h3, h4⟩ | ⟨h1, h2, h3⟩
  · rw [h1, h2]
    cases s with
    | nil => rfl
    | cons c r =>
      have : ¬ (((c :: r).length : Nat) : Int) = 0 := by simp only [List.length_cons]; omega
      simp only [this, decide_false, Bool.false_eq_true, if_false, decide_true, Option.bind_some, if_true, h3]
      simp
  · generalize (s.takeWhile hoC).length = m at *
    rw [h3]
    by_cases hm : m = 0
    · subst hm; simp
    · rw [if_neg (by simp; omega)]
      have e1 : decide ((m : Int) = (s.length : Int)) = false := decide_eq_false (by omega)
      simp only [e1, Option.bind_some, Bool.false_eq_true, if_false, ixL_in h1, h2]
      have e2 : isub .i64 (isub .i64 (s.length : Int) (m : Int)) 1 = (((s.drop (m + 1)).length : Nat) : Int) := by
        rw [isub64 (a := (s.length : Int)) (b := (m : Int)) (by omega) (by omega), isub64 (by omega) (by omega)]
        have e5 : (s.drop (m + 1)).length = s.length - (m + 1) := by simp
        omega
      have e3 : ¬ s.take m = [] := fun e => by have := congrArg List.length e; rw [List.length_take] at this; simp only [List.length_nil] at this; omega
      have e4 := ref_di_loop s hl 1099511627776 (m + 1) (by omega) (by omega)
      rw [if_neg (by decide), e2, iadd64 (by omega) (by omega), ← Int.natCast_add_one, e4]
      simp only [e3, h4, decide_false, Bool.not_false, Bool.true_and, Bool.not_true, Bool.false_or]
      by_cases g1 : 1 ≤ (s.drop (m + 1)).length
      · rw [if_neg (by simp only [decide_eq_true_eq]; omega), decide_eq_true g1]
        by_cases g2 : (s.drop (m + 1)).length ≤ 5
        · rw [decide_eq_true g2, decide_eq_false (show ¬ (5 : Int) < (((s.drop (m + 1)).length : Nat) : Int) by omega)]
          cases (s.drop (m + 1)).all diC <;> simp
        · rw [decide_eq_false g2, decide_eq_true (show (5 : Int) < (((s.drop (m + 1)).length : Nat) : Int) by omega)]
          simp
      · rw [if_pos (by simp only [decide_eq_true_eq]; omega), decide_eq_false g1]
        simp
  · rw [h3]
    generalize (s.takeWhile hoC).length = m at *
    by_cases hm : m = 0
    · subst hm; simp
    · rw [if_neg (by simp; omega)]
      have e1 : decide ((m : Int) = (s.length : Int)) = false := decide_eq_false (by omega)
      have e2 : ¬ b2i s[m] = b2i (bC 58) := fun e => h2 (b2i_inj.1 e)
      simp only [e1, Option.bind_some, Bool.false_eq_true, if_false, ixL_in h1, e2, decide_false, Bool.not_false, if_true]
      simp
theorem ref_Host_eq {l : List Fld} (hl : okF l) : ref05_Host l = some (hostT l) := by
  unfold ref05_Host hostT
  rw [ref_All_eq hl (by decide)]
  simp only [Option.bind_some]
  rcases h : allT l [104, 111, 115, 116] with _ | ⟨v, _ | ⟨v2, r⟩⟩
  · rfl
  · have hv : v.length ≤ 16777216 := by
      have : v ∈ allT l [104, 111, 115, 116] := by rw [h]; simp
      unfold allT at this
      obtain ⟨f, hf, rfl⟩ := List.mem_map.1 this
      exact (hl.2 f (List.mem_filter.1 hf).1).2
    have e0 : ixL [v] 0 = some v := by have := ixL_nat [v] 0; simpa using this
    rw [if_pos (by simp), e0]
    simp only [Option.bind_some, ref_host_eq hv]
  · have : ¬ (((v :: v2 :: r).length : Nat) : Int) = 1 := by simp only [List.length_cons]; omega
    rw [if_neg (by simp only [decide_eq_true_eq]; exact this)]
end Go.Proofs.YtbcmngnmfneeaaaGreatDoor
