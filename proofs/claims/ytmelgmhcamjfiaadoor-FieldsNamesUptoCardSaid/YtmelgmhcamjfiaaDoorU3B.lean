/- lex, plain: quoted strings. -/
import Derived.Test.YtmelgmhcamjfiaaDoorU3A
namespace Go.Proofs.YtmelgmhcamjfiaaDoor
open Go.Av
set_option linter.unusedVariables false
set_option linter.unusedSimpArgs false
theorem hasPrefix1 (s : List UInt8) (c : UInt8) : strings_HasPrefix s [c] = some (decide (s.head? = some c)) := by
  unfold strings_HasPrefix stringslite_HasPrefix
  cases s with
  | nil => rfl
  | cons x s =>
    simp only [decide_eq_true_eq]
    rw [if_pos (by simp; omega)]
    have e : slL (x :: s) 0 (([c] : List UInt8).length : Int) = some [x] := by
      have := slL_to (xs := x :: s) (b := 1) (by simp); simpa using this
    rw [e]
    simp
def plainT (s : List UInt8) : Bool := s.all quoT
theorem ref_plain_loop (s : List UInt8) (hl : s.length ≤ 16777216) : ∀ (k i : Nat), i ≤ s.length → s.length - i < k → ref03_Quotable_L8 s k (i : Int) = some (if (s.drop i).all quoT then Sum.inr () else Sum.inl false)
  | 0, i, _, hk => by omega
  | k + 1, i, hi, hk => by
    simp only [ref03_Quotable_L8, decide_eq_true_eq]
    by_cases hlt : i < s.length
    · rw [if_pos (by omega), ixL_in hlt]
      simp only [Option.bind_some, ref_quotable_eq]
      rw [drop_step hlt, List.all_cons]
      cases h : quoT s[i] with
      | true =>
        simp only [Bool.not_true, Bool.false_eq_true, if_false, Bool.true_and]
        rw [iadd64 (by omega) (by omega), ← Int.natCast_add_one, ref_plain_loop s hl k (i + 1) (by omega) (by omega)]
      | false => simp
    · rw [if_neg (by omega), List.drop_eq_nil_of_le (by omega)]; rfl
theorem ref_Quotable_eq {s : List UInt8} (hl : s.length ≤ 16777216) : ref03_Quotable s = some (plainT s) := by
  unfold ref03_Quotable plainT
  have := ref_plain_loop s hl 1099511627776 0 (by omega) (by omega)
  simp only [Int.natCast_zero, List.drop_zero] at this
  rw [this]
  cases s.all quoT <;> simp

/-! unquoting -/
/-- what stands behind the opening quote: the text that is meant, and how many bytes are read -/
def uq : List UInt8 → Option (List UInt8 × Nat)
  | [] => none
  | c :: r => if c = 34 then some ([], 1) else if c = 92 then (match r with
    | [] => none
    | d :: r' => if quoT d then (uq r').map fun p => (d :: p.1, p.2 + 2) else none) else if quoT c then (uq r).map fun p => (c :: p.1, p.2 + 1) else none
theorem uq_34 (r : List UInt8) : uq (34 :: r) = some ([], 1) := by rw [uq.eq_def]; rfl
theorem uq_92n : uq [92] = none := by rw [uq.eq_def]; rfl
theorem uq_92 (d : UInt8) (r : List UInt8) : uq (92 :: d :: r) = if quoT d then (uq r).map fun p => (d :: p.1, p.2 + 2) else none := by rw [uq.eq_def]; rfl
theorem uq_o {c : UInt8} (r : List UInt8) (h1 : c ≠ 34) (h2 : c ≠ 92) : uq (c :: r) = if quoT c then (uq r).map fun p => (c :: p.1, p.2 + 1) else none := by rw [uq.eq_def]; simp only [h1, h2, if_false]
def uqR (acc : List UInt8) (i : Nat) : Option (List UInt8 × Nat) → List UInt8 × Int × Int
  | none => ([], 0, 5)
  | some p => (acc ++ p.1, ((i + p.2 : Nat) : Int), 0)
def unqT (s : List UInt8) : List UInt8 × Int × Int := match s with
  | c :: r => if c = 34 then uqR [] 1 (uq r) else ([], 0, 5)
  | [] => ([], 0, 5)
theorem uqR_one (acc : List UInt8) (i : Nat) (c : UInt8) (o : Option (List UInt8 × Nat)) : uqR acc i (o.map fun p => (c :: p.1, p.2 + 1)) = uqR (acc ++ [c]) (i + 1) o := by
  cases o with
  | none => rfl
  | some p => simp only [Option.map_some, uqR, List.append_assoc, List.singleton_append]; rw [show i + (p.2 + 1) = i + 1 + p.2 by omega]
theorem uqR_two (acc : List UInt8) (i : Nat) (c : UInt8) (o : Option (List UInt8 × Nat)) : uqR acc i (o.map fun p => (c :: p.1, p.2 + 2)) = uqR (acc ++ [c]) (i + 2) o := by
  cases o with
  | none => rfl
  | some p => simp only [Option.map_some, uqR, List.append_assoc, List.singleton_append]; rw [show i + (p.2 + 2) = i + 2 + p.2 by omega]
theorem b34 (c : UInt8) : b2i c = b2i (bC 34) ↔ c = 34 := b2i_inj
theorem b92 (c : UInt8) : b2i c = b2i (bC 92) ↔ c = 92 := b2i_inj
def outU : Sum (List UInt8 × Int × Int) Unit → List UInt8 × Int × Int
  | .inl r => r
  | .inr _ => ([], 0, 5)
theorem Unquote_loop (s : List UInt8) (hl : s.length ≤ 16777216) : ∀ (k i : Nat) (acc : List UInt8), i ≤ s.length → s.length - i < k → acc.length ≤ i →
    ∃ o, lex_Unquote_L52 s k (i : Int) acc = some o ∧ outU o = uqR acc i (uq (s.drop i))
  | 0, i, _, _, hk, _ => by omega
  | k + 1, i, acc, hi, hk, ha => by
    simp only [lex_Unquote_L52, decide_eq_true_eq, b34, b92]
    by_cases hlt : i < s.length
    · rw [if_pos (by omega), ixL_in hlt]
      simp only [Option.bind_some]
      rw [iadd64 (by omega) (by omega), ← Int.natCast_add_one, drop_step hlt]
      by_cases h1 : s[i] = 34
      · rw [if_pos h1, h1, uq_34]
        exact ⟨_, rfl, by simp [outU, uqR]⟩
      · rw [if_neg h1]
        by_cases h2 : s[i] = 92
        · rw [if_pos h2]
          by_cases hlt2 : i + 1 < s.length
          · rw [decide_eq_true (by omega), drop_step hlt2, h2, uq_92]
            simp only [Option.bind_some, if_true]
            rw [ixL_in hlt2]
            simp only [Option.bind_some, quotable_eq]
            cases hq : quoT s[i + 1] with
            | true =>
              simp only [Bool.not_true, Bool.false_eq_true, if_false, if_true]
              rw [szC_ok (by rw [List.length_append]; simp; omega)]
              simp only [Option.bind_some]
              rw [iadd64 (by omega) (by omega), ← Int.natCast_add_one, uqR_two]
              exact Unquote_loop s hl k (i + 2) _ (by omega) (by omega) (by rw [List.length_append]; simp; omega)
            | false =>
              simp only [Bool.not_false, if_true, Bool.false_eq_true, if_false]
              exact ⟨_, rfl, rfl⟩
          · rw [decide_eq_false (by omega), List.drop_eq_nil_of_le (by omega), h2, uq_92n]
            simp only [Option.bind_some, Bool.false_eq_true, if_false, if_true]
            exact ⟨_, rfl, rfl⟩
        · rw [uq_o _ h1 h2]
          simp only [h2, if_false, Option.bind_some, Bool.false_eq_true, quotable_eq]
          cases hq : quoT s[i] with
          | true =>
            simp only [Bool.not_true, Bool.false_eq_true, if_false, if_true]
            rw [szC_ok (by rw [List.length_append]; simp; omega)]
            simp only [Option.bind_some]
            rw [iadd64 (by omega) (by omega), ← Int.natCast_add_one, uqR_one]
            exact Unquote_loop s hl k (i + 1) _ (by omega) (by omega) (by rw [List.length_append]; simp; omega)
          | false =>
            simp only [Bool.not_false, if_true, Bool.false_eq_true, if_false]
            exact ⟨_, rfl, rfl⟩
    · rw [if_neg (by omega), List.drop_eq_nil_of_le (by omega)]
      exact ⟨_, rfl, rfl⟩
theorem Unquote_eq {s : List UInt8} (hl : s.length ≤ 16777216) : lex_Unquote s = some (unqT s) := by
  unfold lex_Unquote
  rw [hasPrefix1]
  cases s with
  | nil => rfl
  | cons c r =>
    simp only [Option.bind_some, List.head?_cons, Option.some.injEq]
    by_cases h : c = 34
    · obtain ⟨o, h1, h2⟩ := Unquote_loop (c :: r) hl 1099511627776 1 [] (by simp) (by omega) (by simp)
      simp only [h, decide_true, Bool.not_true, Bool.false_eq_true, if_false]
      rw [h] at h1
      have h1' : lex_Unquote_L52 (34 :: r) 1099511627776 1 [] = some o := by simpa using h1
      rw [h1']
      simp only [unqT, if_true]
      rw [show (c :: r).drop 1 = r from rfl] at h2
      rw [← h2]
      cases o <;> rfl
    · simp [h, unqT]
theorem ref_Unquote_loop (s : List UInt8) (hl : s.length ≤ 16777216) : ∀ (k i : Nat) (acc : List UInt8), i ≤ s.length → s.length - i < k → acc.length ≤ i →
    ∃ o, ref03_Unquote_L32 s k (i : Int) acc = some o ∧ outU o = uqR acc i (uq (s.drop i))
  | 0, i, _, _, hk, _ => by omega
  | k + 1, i, acc, hi, hk, ha => by
    simp only [ref03_Unquote_L32, decide_eq_true_eq, b34, b92]
    by_cases hlt : i < s.length
    · rw [if_pos (by omega), ixL_in hlt]
      simp only [Option.bind_some]
      rw [iadd64 (by omega) (by omega), ← Int.natCast_add_one, drop_step hlt]
      by_cases h1 : s[i] = 34
      · rw [if_pos h1, h1, uq_34]
        exact ⟨_, rfl, by simp [outU, uqR]⟩
      · rw [if_neg h1]
        by_cases h2 : s[i] = 92
        · rw [if_pos h2]
          by_cases hlt2 : i + 1 < s.length
          · rw [if_neg (by omega), drop_step hlt2, h2, uq_92, ixL_in hlt2]
            simp only [Option.bind_some, ref_quotable_eq]
            cases hq : quoT s[i + 1] with
            | true =>
              simp only [Bool.not_true, Bool.false_eq_true, if_false, if_true]
              rw [szC_ok (by rw [List.length_append]; simp; omega)]
              simp only [Option.bind_some]
              rw [iadd64 (by omega) (by omega), ← Int.natCast_add_one, uqR_two]
              exact ref_Unquote_loop s hl k (i + 2) _ (by omega) (by omega) (by rw [List.length_append]; simp; omega)
            | false =>
              simp only [Bool.not_false, if_true, Bool.false_eq_true, if_false]
              exact ⟨_, rfl, rfl⟩
          · rw [if_pos (by omega), List.drop_eq_nil_of_le (by omega), h2, uq_92n]
            exact ⟨_, rfl, rfl⟩
        · rw [uq_o _ h1 h2]
          simp only [h2, if_false, Option.bind_some, ref_quotable_eq]
          cases hq : quoT s[i] with
          | true =>
            simp only [Bool.not_true, Bool.false_eq_true, if_false, if_true]
            rw [szC_ok (by rw [List.length_append]; simp; omega)]
            simp only [Option.bind_some]
            rw [iadd64 (by omega) (by omega), ← Int.natCast_add_one, uqR_one]
            exact ref_Unquote_loop s hl k (i + 1) _ (by omega) (by omega) (by rw [List.length_append]; simp; omega)
          | false =>
            simp only [Bool.not_false, if_true, Bool.false_eq_true, if_false]
            exact ⟨_, rfl, rfl⟩
    · rw [if_neg (by omega), List.drop_eq_nil_of_le (by omega)]
      exact ⟨_, rfl, rfl⟩
theorem ref_Unquote_eq {s : List UInt8} (hl : s.length ≤ 16777216) : ref03_Unquote s = some (unqT s) := by
  unfold ref03_Unquote
  cases s with
  | nil => rfl
  | cons c r =>
    have e0 : ixL (c :: r) 0 = some c := rfl
    simp only [decide_eq_true_eq, List.cons_ne_nil, decide_false, Bool.false_eq_true, if_false, e0, Option.bind_some, b34]
    by_cases h : c = 34
    · obtain ⟨o, h1, h2⟩ := ref_Unquote_loop (c :: r) hl 1099511627776 1 [] (by simp) (by omega) (by simp)
      have h1' : ref03_Unquote_L32 (c :: r) 1099511627776 1 [] = some o := by simpa using h1
      simp only [h, decide_true, Bool.not_true, Bool.false_eq_true, if_false]
      rw [h] at h1'
      rw [h1']
      simp only [unqT, if_true]
      rw [show (c :: r).drop 1 = r from rfl] at h2
      rw [← h2]
      cases o <;> rfl
    · simp [h, unqT]
theorem uq_le : ∀ (n : Nat) (r t : List UInt8) (m : Nat), r.length ≤ n → uq r = some (t, m) → 1 ≤ m ∧ m ≤ r.length ∧ t.length < m
  | _, [], t, m, _, h => by simp [uq] at h
  | 0, c :: r, t, m, hn, h => by simp at hn
  | n + 1, c :: r, t, m, hn, h => by
    simp only [List.length_cons] at hn
    by_cases h1 : c = 34
    · subst h1; rw [uq_34] at h; cases h; simp
    · by_cases h2 : c = 92
      · subst h2
        cases r with
        | nil => rw [uq_92n] at h; cases h
        | cons d r' =>
          rw [uq_92] at h
          split at h
          · obtain ⟨p, h1, h2⟩ := Option.map_eq_some_iff.1 h
            cases h2
            simp only [List.length_cons] at hn
            have := uq_le n r' p.1 p.2 (by omega) h1
            simp only [List.length_cons]
            omega
          · cases h
      · rw [uq_o r h1 h2] at h
        split at h
        · obtain ⟨p, h1, h2⟩ := Option.map_eq_some_iff.1 h
          cases h2
          have := uq_le n r p.1 p.2 (by omega) h1
          simp only [List.length_cons]
          omega
        · cases h
end Go.Proofs.YtmelgmhcamjfiaaDoor
