/- lex, plain: quoted strings. -/
import Derived.Test.YteahieldmfehlaaDoorU3A
namespace Go.Proofs.YteahieldmfehlaaDoor
open Go.Av
set_option linter.unusedVariables false
set_option linter.unusedSimpArgs false
theorem hasPrefix1 (s : List UInt8) (c : UInt8) : strings_HasPrefix s [c] = some (decide (s.head? = some c)) := by
  unfold strings_HasPrefix stringslite_HasPrefix
  cases s with
  | nil => rfl
  | cons x s =>
    simp only [decide_eq_true_eq]
    rw [if_pos (by simp; omega)]
    have e : slL (x :: s) 0 (([c] : List UInt8).length : Int) = some [x] := by
      have := slL_to (xs := x :: s) (b := 1) (by simp); simpa using this
    rw [e]
    simp
def plainT (s : List UInt8) : Bool := s.all quoT
theorem plain_loop (s : List UInt8) (hl : s.length ≤ 140737488351232) : ∀ (k i : Nat), i ≤ s.length → s.length - i < k → lex_plain_L8 s k (i : Int) = some (if (s.drop i).all quoT then Sum.inr () else Sum.inl false)
  | 0, i, _, hk => by omega
  | k + 1, i, hi, hk => by
    simp only [lex_plain_L8, decide_eq_true_eq]
    by_cases hlt : i < s.length
    · rw [if_pos (by omega), ixL_in hlt]
      simp only [Option.bind_some, quotable_eq]
      rw [drop_step hlt, List.all_cons]
      cases h : quoT s[i] with
      | true =>
        simp only [Bool.not_true, Bool.false_eq_true, if_false, Bool.true_and]
        rw [iadd64 (by omega) (by omega), ← Int.natCast_add_one, plain_loop s hl k (i + 1) (by omega) (by omega)]
      | false => simp
    · rw [if_neg (by omega), List.drop_eq_nil_of_le (by omega)]; rfl
theorem plain_eq {s : List UInt8} (hl : s.length ≤ 140737488351232) : lex_plain s = some (plainT s) := by
  unfold lex_plain plainT
  have := plain_loop s hl 140737488355328 0 (by omega) (by omega)
  simp only [Int.natCast_zero, List.drop_zero] at this
  rw [this]
  cases s.all quoT <;> simp
/-! unquoting -/
/-- what stands behind the opening quote: the text that is meant, and how many bytes are read -/
def uq : List UInt8 → Option (List UInt8 × Nat)
  | [] => none
  | c :: r => if c = 34 then some ([], 1) else if c = 92 then (match r with
    | [] => none
    | d :: r' => if quoT d then (uq r').map fun p => (d :: p.1, p.2 + 2) else none) else if quoT c then (uq r).map fun p => (c :: p.1, p.2 + 1) else none
theorem uq_34 (r : List UInt8) : uq (34 :: r) = some ([], 1) := by rw [uq.eq_def]; rfl
theorem uq_92n : uq [92] = none := by rw [uq.eq_def]; rfl
theorem uq_92 (d : UInt8) (r : List UInt8) : uq (92 :: d :: r) = if quoT d then (uq r).map fun p => (d :: p.1, p.2 + 2) else none := by rw [uq.eq_def]; rfl
theorem uq_o {c : UInt8} (r : List UInt8) (h1 : c ≠ 34) (h2 : c ≠ 92) : uq (c :: r) = if quoT c then (uq r).map fun p => (c :: p.1, p.2 + 1) else none := by rw [uq.eq_def]; simp only [h1, h2, if_false]
def uqR (acc : List UInt8) (i : Nat) : Option (List UInt8 × Nat) → List UInt8 × Int × Int
  | none => ([], 0, 5)
  | some p => (acc ++ p.1, ((i + p.2 : Nat) : Int), 0)
def unqT (s : List UInt8) : List UInt8 × Int × Int := match s with
  | c :: r => if c = 34 then uqR [] 1 (uq r) else ([], 0, 5)
  | [] => ([], 0, 5)
theorem uqR_one (acc : List UInt8) (i : Nat) (c : UInt8) (o : Option (List UInt8 × Nat)) : uqR acc i (o.map fun p => (c :: p.1, p.2 + 1)) = uqR (acc ++ [c]) (i + 1) o := by
  cases o with
  | none => rfl
  | some p => simp only [Option.map_some, uqR, List.append_assoc, List.singleton_append]; rw [show i + (p.2 + 1) = i + 1 + p.2 by omega]
theorem uqR_two (acc : List UInt8) (i : Nat) (c : UInt8) (o : Option (List UInt8 × Nat)) : uqR acc i (o.map fun p => (c :: p.1, p.2 + 2)) = uqR (acc ++ [c]) (i + 2) o := by
  cases o with
  | none => rfl
  | some p => simp only [Option.map_some, uqR, List.append_assoc, List.singleton_append]; rw [show i + (p.2 + 2) = i + 2 + p.2 by omega]
theorem b34 (c : UInt8) : b2i c = b2i (bC 34) ↔ c = 34 := b2i_inj
theorem b92 (c : UInt8) : b2i c = b2i (bC 92) ↔ c = 92 := b2i_inj
def outU : Sum (List UInt8 × Int × Int) Unit → List UInt8 × Int × Int
  | .inl r => r
  | .inr _ => ([], 0, 5)
end Go.Proofs.YteahieldmfehlaaDoor
