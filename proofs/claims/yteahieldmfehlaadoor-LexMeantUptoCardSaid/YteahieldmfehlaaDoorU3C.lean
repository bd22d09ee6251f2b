/- lex, plain: what is quoted; lists. -/
import Derived.Test.YteahieldmfehlaaDoorU3B
namespace Go.Proofs.YteahieldmfehlaaDoor
open Go.Av
set_option linter.unusedVariables false
set_option linter.unusedSimpArgs false
theorem rk_ne {a c : UInt8} (new : List UInt8) (h : c ≠ a) : ∀ (k : Nat) (s : List UInt8), Lib.replaceK [a] new k (c :: s) = c :: Lib.replaceK [a] new k s
  | 0, s => rfl
  | k + 1, s => by
    have hp : ([a] : List UInt8).isPrefixOf (c :: s) = false := by simp [List.isPrefixOf, Ne.symm h]
    have hge := Lib.index_ge s [a]
    rw [Lib.replaceK, Lib.replaceK, Lib.index, hp]
    simp only [Bool.false_eq_true, if_false]
    by_cases hm : Lib.index s [a] = -1
    · simp [hm]
    · have h1 : ¬ (Lib.index s [a] == -1) = true := by simpa using hm
      have h2 : ¬ (Lib.index s [a] + 1 == -1) = true := by simp; omega
      rw [if_neg h1, if_neg h2, if_neg h1]
      have e : (Lib.index s [a] + 1).toNat = (Lib.index s [a]).toNat + 1 := by omega
      rw [e]
      rfl
theorem rk_eq {a : UInt8} (new : List UInt8) (k : Nat) (s : List UInt8) : Lib.replaceK [a] new (k + 1) (a :: s) = new ++ Lib.replaceK [a] new k s := by
  have hp : ([a] : List UInt8).isPrefixOf (a :: s) = true := by simp [List.isPrefixOf]
  rw [Lib.replaceK, Lib.index, hp]
  simp
def putT (a : UInt8) (new : List UInt8) (s : List UInt8) : List UInt8 := s.flatMap fun c => if c = a then new else [c]
theorem rk_put (a : UInt8) (new : List UInt8) : ∀ s : List UInt8, Lib.replaceK [a] new (s.count a) s = putT a new s
  | [] => rfl
  | c :: s => by
    unfold putT
    rw [List.flatMap_cons]
    by_cases h : c = a
    · subst h
      rw [List.count_cons_self, rk_eq, rk_put c new s, if_pos rfl]; rfl
    · rw [List.count_cons_of_ne h, rk_ne new h, rk_put a new s, if_neg h]; rfl
theorem putT_len (a : UInt8) (new : List UInt8) (hn : new.length = 2) : ∀ s : List UInt8, (putT a new s).length ≤ 2 * s.length
  | [] => Nat.le_refl _
  | c :: s => by
    have := putT_len a new hn s
    unfold putT at this ⊢
    rw [List.flatMap_cons, List.length_append, List.length_cons]
    split
    · omega
    · simp only [List.length_cons, List.length_nil]; omega
theorem repl_eq {s : List UInt8} {a : UInt8} {new : List UInt8} (hl : s.length ≤ 1000000000) (hn : new.length = 2) : replX s [a] new = some (putT a new s) := by
  have hc : Lib.countB ⟨s.toArray⟩ ⟨[a].toArray⟩ = s.count a := Lib.count_one a s
  have h1 := List.count_le_length (a := a) (l := s)
  unfold replX
  rw [if_pos ⟨by omega, by simp, by rw [hc, hn]; omega⟩]
  unfold Lib.replaceAll Lib.replace Lib.replaceNum
  have hne : ¬ (([a] : List UInt8) == new) = true := by
    intro h
    have := congrArg List.length (beq_iff_eq.1 h)
    simp [hn] at this
  rw [if_neg hne, if_pos (.inl (by decide)), Lib.count_one, rk_put]
/-- within quotes -/
def escT (s : List UInt8) : List UInt8 := s.flatMap fun c => if c = 34 ∨ c = 92 then [92, c] else [c]
theorem escT_cons (c : UInt8) (s : List UInt8) : escT (c :: s) = (if c = 34 ∨ c = 92 then [92, c] else [c]) ++ escT s := by unfold escT; rw [List.flatMap_cons]
theorem escT_len : ∀ s : List UInt8, s.length ≤ (escT s).length ∧ (escT s).length ≤ 2 * s.length
  | [] => ⟨Nat.le_refl _, Nat.le_refl _⟩
  | c :: s => by
    have := escT_len s
    rw [escT_cons, List.length_append, List.length_cons]
    split <;> simp only [List.length_cons, List.length_nil] <;> omega
theorem esc_put (s : List UInt8) : putT 34 [92, 34] (putT 92 [92, 92] s) = escT s := by
  unfold putT escT
  rw [List.flatMap_assoc]
  congr 1
  funext c
  by_cases h : c = 92
  · subst h; rfl
  · by_cases h2 : c = 34
    · subst h2; rfl
    · simp [h, h2]
def quoteT (s : List UInt8) : List UInt8 := if plainT s then [34] ++ escT s ++ [34] else []
theorem quoteT_len (s : List UInt8) : (quoteT s).length ≤ 2 * s.length + 2 := by
  have := escT_len s
  unfold quoteT
  split
  · simp; omega
  · simp
theorem Quote_eq {s : List UInt8} (hl : s.length ≤ 16777216) : lex_Quote s = some (quoteT s) := by
  unfold lex_Quote quoteT
  rw [plain_eq hl]
  simp only [Option.bind_some]
  cases h : plainT s with
  | false => simp
  | true =>
    have h1 := putT_len 92 [92, 92] rfl s
    have h2 := escT_len s
    simp only [Bool.not_true, Bool.false_eq_true, if_false, if_true]
    rw [repl_eq (by omega) rfl]
    simp only [Option.bind_some]
    rw [repl_eq (by omega) rfl, esc_put]
    simp only [Option.bind_some]
    rw [szC_ok (by simp; omega), szC_ok (by simp; omega)]
    rfl
theorem ref_Quote_loop (s : List UInt8) (hl : s.length ≤ 16777216) : ∀ (k i : Nat) (acc : List UInt8), i ≤ s.length → s.length - i < k → acc.length ≤ 2 * i + 1 → ref03_Quote_L62 s k (i : Int) acc = some (acc ++ escT (s.drop i))
  | 0, i, _, _, hk, _ => by omega
  | k + 1, i, acc, hi, hk, ha => by
    simp only [ref03_Quote_L62, decide_eq_true_eq, b34, b92]
    by_cases hlt : i < s.length
    · rw [if_pos (by omega), ixL_in hlt, drop_step hlt, escT_cons]
      simp only [Option.bind_some]
      have z1 := szC_ok (n := (acc ++ [bC 92]).length) (by rw [List.length_append]; simp; omega)
      have z2 := szC_ok (n := (acc ++ [bC 92] ++ [s[i]]).length) (by rw [List.length_append, List.length_append]; simp; omega)
      have z3 := szC_ok (n := (acc ++ [s[i]]).length) (by rw [List.length_append]; simp; omega)
      rw [iadd64 (by omega) (by omega), ← Int.natCast_add_one]
      by_cases h1 : s[i] = 34
      · rw [if_pos h1]
        simp only [Option.bind_some, if_true, z1, z2]
        rw [ref_Quote_loop s hl k (i + 1) _ (by omega) (by omega) (by rw [List.length_append, List.length_append]; simp; omega), if_pos (.inl h1)]
        have : bC 92 = 92 := rfl
        simp [this]
      · rw [if_neg h1]
        simp only [Option.bind_some]
        by_cases h2 : s[i] = 92
        · rw [decide_eq_true h2]
          simp only [Option.bind_some, if_true, z1, z2]
          rw [ref_Quote_loop s hl k (i + 1) _ (by omega) (by omega) (by rw [List.length_append, List.length_append]; simp; omega), if_pos (.inr h2)]
          have : bC 92 = 92 := rfl
          simp [this]
        · rw [decide_eq_false h2]
          simp only [Option.bind_some, Bool.false_eq_true, if_false, z3]
          rw [ref_Quote_loop s hl k (i + 1) _ (by omega) (by omega) (by rw [List.length_append]; simp; omega), if_neg (by simp [h1, h2])]
          simp
    · rw [if_neg (by omega), List.drop_eq_nil_of_le (by omega)]
      simp [escT]
theorem ref_Quote_eq {s : List UInt8} (hl : s.length ≤ 16777216) : ref03_Quote s = some (quoteT s) := by
  unfold ref03_Quote quoteT
  rw [ref_Quotable_eq hl]
  simp only [Option.bind_some]
  cases h : plainT s with
  | false => simp
  | true =>
    have h2 := escT_len s
    have := ref_Quote_loop s hl 1099511627776 0 [bC 34] (by omega) (by omega) (by simp)
    simp only [Int.natCast_zero, List.drop_zero] at this
    simp only [Bool.not_true, Bool.false_eq_true, if_false, if_true, this, Option.bind_some]
    rw [szC_ok (by simp; omega)]
    rfl
theorem quo_34 : quoT 34 = true := by decide
theorem quo_92 : quoT 92 = true := by decide
theorem uq_esc (r : List UInt8) : ∀ s : List UInt8, plainT s = true → uq (escT s ++ 34 :: r) = some (s, (escT s).length + 1)
  | [], _ => by rw [show escT [] = [] from rfl, List.nil_append, uq_34]; rfl
  | c :: s, h => by
    unfold plainT at h
    rw [List.all_cons, Bool.and_eq_true] at h
    have ih := uq_esc r s h.2
    rw [escT_cons]
    by_cases h1 : c = 34 ∨ c = 92
    · have hq : quoT c = true := h.1
      rw [if_pos h1, List.append_assoc]
      show uq (92 :: c :: (escT s ++ 34 :: r)) = _
      rw [uq_92, if_pos hq, ih]
      simp only [Option.map_some, List.length_append, List.length_cons, List.length_nil]
      congr 2; omega
    · rw [if_neg h1, List.append_assoc]
      show uq (c :: (escT s ++ 34 :: r)) = _
      rw [uq_o _ (fun e => h1 (.inl e)) (fun e => h1 (.inr e)), if_pos h.1, ih]
      simp only [Option.map_some, List.length_append, List.length_cons, List.length_nil]
      congr 2; omega
theorem uq_esc_cut : ∀ s : List UInt8, uq (escT s) = none
  | [] => rfl
  | c :: s => by
    have ih := uq_esc_cut s
    rw [escT_cons]
    by_cases h1 : c = 34 ∨ c = 92
    · rw [if_pos h1]
      show uq (92 :: c :: escT s) = _
      rw [uq_92, ih]; simp
    · rw [if_neg h1]
      show uq (c :: escT s) = _
      rw [uq_o _ (fun e => h1 (.inl e)) (fun e => h1 (.inr e)), ih]; simp
/-- what is read is plain -/
theorem uq_plain : ∀ (n : Nat) (r t : List UInt8) (m : Nat), r.length ≤ n → uq r = some (t, m) → plainT t = true
  | _, [], t, m, _, h => by simp [uq] at h
  | 0, c :: r, t, m, hn, h => by simp at hn
  | n + 1, c :: r, t, m, hn, h => by
    simp only [List.length_cons] at hn
    by_cases h1 : c = 34
    · subst h1; rw [uq_34] at h; cases h; rfl
    · by_cases h2 : c = 92
      · subst h2
        cases r with
        | nil => rw [uq_92n] at h; cases h
        | cons d r' =>
          rw [uq_92] at h
          split at h
          · rename_i hd
            obtain ⟨p, h1, h2⟩ := Option.map_eq_some_iff.1 h
            cases h2
            simp only [List.length_cons] at hn
            have := uq_plain n r' p.1 p.2 (by omega) h1
            unfold plainT at this ⊢
            rw [List.all_cons, hd, this]; rfl
          · cases h
      · rw [uq_o r h1 h2] at h
        split at h
        · rename_i hd
          obtain ⟨p, h1, h2⟩ := Option.map_eq_some_iff.1 h
          cases h2
          have := uq_plain n r p.1 p.2 (by omega) h1
          unfold plainT at this ⊢
          rw [List.all_cons, hd, this]; rfl
        · cases h
/-- more behind does not matter -/
theorem uq_more (y : List UInt8) : ∀ (n : Nat) (r t : List UInt8) (m : Nat), r.length ≤ n → uq r = some (t, m) → uq (r ++ y) = some (t, m)
  | _, [], t, m, _, h => by simp [uq] at h
  | 0, c :: r, t, m, hn, h => by simp at hn
  | n + 1, c :: r, t, m, hn, h => by
    simp only [List.length_cons] at hn
    by_cases h1 : c = 34
    · subst h1; rw [uq_34] at h; cases h; exact uq_34 _
    · by_cases h2 : c = 92
      · subst h2
        cases r with
        | nil => rw [uq_92n] at h; cases h
        | cons d r' =>
          rw [uq_92] at h
          show uq (92 :: d :: (r' ++ y)) = _
          rw [uq_92]
          split at h
          · rename_i hd
            obtain ⟨p, h1, h2⟩ := Option.map_eq_some_iff.1 h
            simp only [List.length_cons] at hn
            rw [if_pos hd, uq_more y n r' p.1 p.2 (by omega) h1]
            exact congrArg some h2
          · cases h
      · rw [uq_o r h1 h2] at h
        show uq (c :: (r ++ y)) = _
        rw [uq_o _ h1 h2]
        split at h
        · rename_i hd
          obtain ⟨p, h1, h2⟩ := Option.map_eq_some_iff.1 h
          rw [if_pos hd, uq_more y n r p.1 p.2 (by omega) h1]
          exact congrArg some h2
        · cases h
/-- it is read out of the bytes that it takes -/
theorem uq_less : ∀ (n : Nat) (r t : List UInt8) (m : Nat), r.length ≤ n → uq r = some (t, m) → uq (r.take m) = some (t, m)
  | _, [], t, m, _, h => by simp [uq] at h
  | 0, c :: r, t, m, hn, h => by simp at hn
  | n + 1, c :: r, t, m, hn, h => by
    simp only [List.length_cons] at hn
    by_cases h1 : c = 34
    · subst h1; rw [uq_34] at h; cases h; exact uq_34 _
    · by_cases h2 : c = 92
      · subst h2
        cases r with
        | nil => rw [uq_92n] at h; cases h
        | cons d r' =>
          rw [uq_92] at h
          split at h
          · rename_i hd
            obtain ⟨p, h1, h2⟩ := Option.map_eq_some_iff.1 h
            cases h2
            simp only [List.length_cons] at hn
            show uq (92 :: d :: r'.take p.2) = _
            rw [uq_92, if_pos hd, uq_less n r' p.1 p.2 (by omega) h1]
            rfl
          · cases h
      · rw [uq_o r h1 h2] at h
        split at h
        · rename_i hd
          obtain ⟨p, h3, h4⟩ := Option.map_eq_some_iff.1 h
          cases h4
          show uq (c :: r.take p.2) = _
          rw [uq_o _ h1 h2, if_pos hd, uq_less n r p.1 p.2 (by omega) h3]
          rfl
        · cases h
end Go.Proofs.YteahieldmfehlaaDoor
