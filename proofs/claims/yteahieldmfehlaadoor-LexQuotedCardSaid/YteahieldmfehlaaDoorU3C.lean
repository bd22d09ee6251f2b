/- lex, plain: what is quoted; lists. -/
import Derived.Test.YteahieldmfehlaaDoorU3B
namespace Go.Proofs.YteahieldmfehlaaDoor
open Go.Av
set_option linter.unusedVariables false
set_option linter.unusedSimpArgs false
theorem rk_ne {a c : UInt8} (new : List UInt8) (h : c ≠ a) : ∀ (k : Nat) (s : List UInt8), Lib.replaceK [a] new k (c :: s) = c :: Lib.replaceK [a] new k s
  | 0, s => rfl
  | k + 1, s => by
    have hp : ([a] : List UInt8).isPrefixOf (c :: s) = false := by simp [List.isPrefixOf, Ne.symm h]
    have hge := Lib.index_ge s [a]
    rw [Lib.replaceK, Lib.replaceK, Lib.index, hp]
    simp only [Bool.false_eq_true, if_false]
    by_cases hm : Lib.index s [a] = -1
    · simp [hm]
    · have h1 : ¬ (Lib.index s [a] == -1) = true := by simpa using hm
      have h2 : ¬ (Lib.index s [a] + 1 == -1) = true := by simp; omega
      rw [if_neg h1, if_neg h2, if_neg h1]
      have e : (Lib.index s [a] + 1).toNat = (Lib.index s [a]).toNat + 1 := by omega
      rw [e]
      rfl
theorem rk_eq {a : UInt8} (new : List UInt8) (k : Nat) (s : List UInt8) : Lib.replaceK [a] new (k + 1) (a :: s) = new ++ Lib.replaceK [a] new k s := by
  have hp : ([a] : List UInt8).isPrefixOf (a :: s) = true := by simp [List.isPrefixOf]
  rw [Lib.replaceK, Lib.index, hp]
  simp
def putT (a : UInt8) (new : List UInt8) (s : List UInt8) : List UInt8 := s.flatMap fun c => if c = a then new else [c]
theorem rk_put (a : UInt8) (new : List UInt8) : ∀ s : List UInt8, Lib.replaceK [a] new (s.count a) s = putT a new s
  | [] => rfl
  | c :: s => by
    unfold putT
    rw [List.flatMap_cons]
    by_cases h : c = a
    · subst h
      rw [List.count_cons_self, rk_eq, rk_put c new s, if_pos rfl]; rfl
    · rw [List.count_cons_of_ne h, rk_ne new h, rk_put a new s, if_neg h]; rfl
theorem putT_len (a : UInt8) (new : List UInt8) (hn : new.length = 2) : ∀ s : List UInt8, (putT a new s).length ≤ 2 * s.length
  | [] => Nat.le_refl _
  | c :: s => by
    have := putT_len a new hn s
    unfold putT at this ⊢
    rw [List.flatMap_cons, List.length_append, List.length_cons]
    split
    · omega
    · simp only [List.length_cons, List.length_nil]; omega
theorem repl_eq {s : List UInt8} {a : UInt8} {new : List UInt8} (hl : s.length + s.count a ≤ 281474976710656) (hn : new.length = 2) : replX s [a] new = some (putT a new s) := by
  have hc : Lib.countB ⟨s.toArray⟩ ⟨[a].toArray⟩ = s.count a := Lib.count_one a s
  unfold replX
  rw [hc, if_pos ⟨by omega, rfl, hn, by omega⟩, rk_put]
theorem putT_room : ∀ s : List UInt8, (putT 92 [92, 92] s).length + (putT 92 [92, 92] s).count 34 ≤ 2 * s.length
  | [] => by simp [putT]
  | c :: s => by
    have := putT_room s
    unfold putT at this ⊢
    rw [List.flatMap_cons, List.length_append, List.count_append, List.length_cons]
    by_cases h : c = 92
    · rw [if_pos h]
      have h0 : List.count (34 : UInt8) [92, 92] = 0 := by decide
      simp only [List.length_cons, List.length_nil, h0]
      omega
    · rw [if_neg h]
      have h0 : List.count (34 : UInt8) [c] ≤ [c].length := List.count_le_length
      simp only [List.length_cons, List.length_nil] at h0 ⊢
      omega
/-- within quotes -/
def escT (s : List UInt8) : List UInt8 := s.flatMap fun c => if c = 34 ∨ c = 92 then [92, c] else [c]
theorem escT_cons (c : UInt8) (s : List UInt8) : escT (c :: s) = (if c = 34 ∨ c = 92 then [92, c] else [c]) ++ escT s := by unfold escT; rw [List.flatMap_cons]
theorem escT_len : ∀ s : List UInt8, s.length ≤ (escT s).length ∧ (escT s).length ≤ 2 * s.length
  | [] => ⟨Nat.le_refl _, Nat.le_refl _⟩
  | c :: s => by
    have := escT_len s
    rw [escT_cons, List.length_append, List.length_cons]
    split <;> simp only [List.length_cons, List.length_nil] <;> omega
theorem esc_put (s : List UInt8) : putT 34 [92, 34] (putT 92 [92, 92] s) = escT s := by
  unfold putT escT
  rw [List.flatMap_assoc]
  congr 1
  funext c
  by_cases h : c = 92
  · subst h; rfl
  · by_cases h2 : c = 34
    · subst h2; rfl
    · simp [h, h2]
def quoteT (s : List UInt8) : List UInt8 := if plainT s then [34] ++ escT s ++ [34] else []
theorem quoteT_len (s : List UInt8) : (quoteT s).length ≤ 2 * s.length + 2 := by
  have := escT_len s
  unfold quoteT
  split
  · simp; omega
  · simp
theorem Quote_eq {s : List UInt8} (hl : s.length ≤ 140737488351232) : lex_Quote s = some (quoteT s) := by
  unfold lex_Quote quoteT
  rw [plain_eq hl]
  simp only [Option.bind_some]
  cases h : plainT s with
  | false => simp
  | true =>
    have h1 := putT_len 92 [92, 92] rfl s
    have h2 := escT_len s
    simp only [Bool.not_true, Bool.false_eq_true, if_false, if_true]
    have h3 := putT_room s
    have h4 := List.count_le_length (a := (92 : UInt8)) (l := s)
    rw [repl_eq (by omega) rfl]
    simp only [Option.bind_some]
    rw [repl_eq (by omega) rfl, esc_put]
    simp only [Option.bind_some]
    rw [szS_ok (by simp; omega), szS_ok (by simp; omega)]
    rfl
end Go.Proofs.YteahieldmfehlaaDoor
