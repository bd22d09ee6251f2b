/- lex, plain: what is quoted; lists. -/
import Derived.Test.YtmelgmhcamjfiaaDoorU3B
namespace Go.Proofs.YtmelgmhcamjfiaaDoor
open Go.Av
set_option linter.unusedVariables false
set_option linter.unusedSimpArgs false
theorem rk_ne {a c : UInt8} (new : List UInt8) (h : c ≠ a) : ∀ (k : Nat) (s : List UInt8), Lib.replaceK [a] new k (c :: s) = c :: Lib.replaceK [a] new k s
  | 0, s => rfl
  | k + 1, s => by
    have hp : ([a] : List UInt8).isPrefixOf (c :: s) = false := by simp [List.isPrefixOf, Ne.symm h]
    have hge := Lib.index_ge s [a]
    rw [Lib.replaceK, Lib.replaceK, Lib.index, hp]
    simp only [Bool.false_eq_true, if_false]
    by_cases hm : Lib.index s [a] = -1
    · simp [hm]
    · have h1 : ¬ (Lib.index s [a] == -1) = true := by simpa using hm
      have h2 : ¬ (Lib.index s [a] + 1 == -1) = true := by simp; omega
      rw [if_neg h1, if_neg h2, if_neg h1]
      have e : (Lib.index s [a] + 1).toNat = (Lib.index s [a]).toNat + 1 := by omega
      rw [e]
      rfl
theorem rk_eq {a : UInt8} (new : List UInt8) (k : Nat) (s : List UInt8) : Lib.replaceK [a] new (k + 1) (a :: s) = new ++ Lib.replaceK [a] new k s := by
  have hp : ([a] : List UInt8).isPrefixOf (a :: s) = true := by simp [List.isPrefixOf]
  rw [Lib.replaceK, Lib.index, hp]
  simp
def putT (a : UInt8) (new : List UInt8) (s : List UInt8) : List UInt8 := s.flatMap fun c => if c = a then new else [c]
theorem rk_put (a : UInt8) (new : List UInt8) : ∀ s : List UInt8, Lib.replaceK [a] new (s.count a) s = putT a new s
  | [] => rfl
  | c :: s => by
    unfold putT
    rw [List.flatMap_cons]
    by_cases h : c = a
    · subst h
      rw [List.count_cons_self, rk_eq, rk_put c new s, if_pos rfl]; rfl
    · rw [List.count_cons_of_ne h, rk_ne new h, rk_put a new s, if_neg h]; rfl
theorem putT_len (a : UInt8) (new : List UInt8) (hn : new.length = 2) : ∀ s : List UInt8, (putT a new s).length ≤ 2 * s.length
  | [] => Nat.le_refl _
  | c :: s => by
    have := putT_len a new hn s
    unfold putT at this ⊢
    rw [List.flatMap_cons, List.length_append, List.length_cons]
    split
    · omega
    · simp only [List.length_cons, List.length_nil]; omega
/-- within quotes -/
def escT (s : List UInt8) : List UInt8 := s.flatMap fun c => if c = 34 ∨ c = 92 then [92, c] else [c]
theorem escT_cons (c : UInt8) (s : List UInt8) : escT (c :: s) = (if c = 34 ∨ c = 92 then [92, c] else [c]) ++ escT s := by unfold escT; rw [List.flatMap_cons]
theorem escT_len : ∀ s : List UInt8, s.length ≤ (escT s).length ∧ (escT s).length ≤ 2 * s.length
  | [] => ⟨Nat.le_refl _, Nat.le_refl _⟩
  | c :: s => by
    have := escT_len s
    rw [escT_cons, List.length_append, List.length_cons]
    split <;> simp only [List.length_cons, List.length_nil] <;> omega
theorem esc_put (s : List UInt8) : putT 34 [92, 34] (putT 92 [92, 92] s) = escT s := by
  unfold putT escT
  rw [List.flatMap_assoc]
  congr 1
  funext c
  by_cases h : c = 92
  · subst h; rfl
  · by_cases h2 : c = 34
    · subst h2; rfl
    · simp [h, h2]
def quoteT (s : List UInt8) : List UInt8 := if plainT s then [34] ++ escT s ++ [34] else []
theorem quoteT_len (s : List UInt8) : (quoteT s).length ≤ 2 * s.length + 2 := by
  have := escT_len s
  unfold quoteT
  split
  · simp; omega
  · simp
theorem quo_34 : quoT 34 = true := by decide
theorem quo_92 : quoT 92 = true := by decide
theorem uq_esc (r : List UInt8) : ∀ s : List UInt8, plainT s = true → uq (escT s ++ 34 :: r) = some (s, (escT s).length + 1)
  | [], _ => by rw [show escT [] = [] from rfl, List.nil_append, uq_34]; rfl
  | c :: s, h => by
    unfold plainT at h
    rw [List.all_cons, Bool.and_eq_true] at h
    have ih := uq_esc r s h.2
    rw [escT_cons]
    by_cases h1 : c = 34 ∨ c = 92
    · have hq : quoT c = true := h.1
      rw [if_pos h1, List.append_assoc]
      show uq (92 :: c :: (escT s ++ 34 :: r)) = _
      rw [uq_92, if_pos hq, ih]
      simp only [Option.map_some, List.length_append, List.length_cons, List.length_nil]
      congr 2; omega
    · rw [if_neg h1, List.append_assoc]
      show uq (c :: (escT s ++ 34 :: r)) = _
      rw [uq_o _ (fun e => h1 (.inl e)) (fun e => h1 (.inr e)), if_pos h.1, ih]
      simp only [Option.map_some, List.length_append, List.length_cons, List.length_nil]
      congr 2; omega
theorem uq_esc_cut : ∀ s : List UInt8, uq (escT s) = none
  | [] => rfl
  | c :: s => by
    have ih := uq_esc_cut s
    rw [escT_cons]
    by_cases h1 : c = 34 ∨ c = 92
    · rw [if_pos h1]
      show uq (92 :: c :: escT s) = _
      rw [uq_92, ih]; simp
    · rw [if_neg h1]
      show uq (c :: escT s) = _
      rw [uq_o _ (fun e => h1 (.inl e)) (fun e => h1 (.inr e)), ih]; simp
/-- what is read is plain -/
theorem uq_plain : ∀ (n : Nat) (r t : List UInt8) (m : Nat), r.length ≤ n → uq r = some (t, m) → plainT t = true
  | _, [], t, m, _, h => by simp [uq] at h
  | 0, c :: r, t, m, hn, h => by simp at hn
  | n + 1, c :: r, t, m, hn, h => by
    simp only [List.length_cons] at hn
    by_cases h1 : c = 34
    · subst h1; rw [uq_34] at h; cases h; rfl
    · by_cases h2 : c = 92
      · subst h2
        cases r with
        | nil => rw [uq_92n] at h; cases h
        | cons d r' =>
          rw [uq_92] at h
          split at h
          · rename_i hd
            obtain ⟨p, h1, h2⟩ := Option.map_eq_some_iff.1 h
            cases h2
            simp only [List.length_cons] at hn
            have := uq_plain n r' p.1 p.2 (by omega) h1
            unfold plainT at this ⊢
            rw [List.all_cons, hd, this]; rfl
          · cases h
      · rw [uq_o r h1 h2] at h
        split at h
        · rename_i hd
          obtain ⟨p, h1, h2⟩ := Option.map_eq_some_iff.1 h
          cases h2
          have := uq_plain n r p.1 p.2 (by omega) h1
          unfold plainT at this ⊢
          rw [List.all_cons, hd, this]; rfl
        · cases h
/-- more behind does not matter -/
theorem uq_more (y : List UInt8) : ∀ (n : Nat) (r t : List UInt8) (m : Nat), r.length ≤ n → uq r = some (t, m) → uq (r ++ y) = some (t, m)
  | _, [], t, m, _, h => by simp [uq] at h
  | 0, c :: r, t, m, hn, h => by simp at hn
  | n + 1, c :: r, t, m, hn, h => by
    simp only [List.length_cons] at hn
    by_cases h1 : c = 34
    · subst h1; rw [uq_34] at h; cases h; exact uq_34 _
    · by_cases h2 : c = 92
      · subst h2
        cases r with
        | nil => rw [uq_92n] at h; cases h
        | cons d r' =>
          rw [uq_92] at h
          show uq (92 :: d :: (r' ++ y)) = _
          rw [uq_92]
          split at h
          · rename_i hd
            obtain ⟨p, h1, h2⟩ := Option.map_eq_some_iff.1 h
            simp only [List.length_cons] at hn
            rw [if_pos hd, uq_more y n r' p.1 p.2 (by omega) h1]
            exact congrArg some h2
          · cases h
      · rw [uq_o r h1 h2] at h
        show uq (c :: (r ++ y)) = _
        rw [uq_o _ h1 h2]
        split at h
        · rename_i hd
          obtain ⟨p, h1, h2⟩ := Option.map_eq_some_iff.1 h
          rw [if_pos hd, uq_more y n r p.1 p.2 (by omega) h1]
          exact congrArg some h2
        · cases h
/-- it is read out of the bytes that it takes -/
theorem uq_less : ∀ (n : Nat) (r t : List UInt8) (m : Nat), r.length ≤ n → uq r = some (t, m) → uq (r.take m) = some (t, m)
  | _, [], t, m, _, h => by simp [uq] at h
  | 0, c :: r, t, m, hn, h => by simp at hn
  | n + 1, c :: r, t, m, hn, h => by
    simp only [List.length_cons] at hn
    by_cases h1 : c = 34
    · subst h1; rw [uq_34] at h; cases h; exact uq_34 _
    · by_cases h2 : c = 92
      · subst h2
        cases r with
        | nil => rw [uq_92n] at h; cases h
        | cons d r' =>
          rw [uq_92] at h
          split at h
          · rename_i hd
            obtain ⟨p, h1, h2⟩ := Option.map_eq_some_iff.1 h
            cases h2
            simp only [List.length_cons] at hn
            show uq (92 :: d :: r'.take p.2) = _
            rw [uq_92, if_pos hd, uq_less n r' p.1 p.2 (by omega) h1]
            rfl
          · cases h
      · rw [uq_o r h1 h2] at h
        split at h
        · rename_i hd
          obtain ⟨p, h3, h4⟩ := Option.map_eq_some_iff.1 h
          cases h4
          show uq (c :: r.take p.2) = _
          rw [uq_o _ h1 h2, if_pos hd, uq_less n r p.1 p.2 (by omega) h3]
          rfl
        · cases h
end Go.Proofs.YtmelgmhcamjfiaaDoor
