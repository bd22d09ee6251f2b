/- head, plain: methods, targets, reasons. -/
import Derived.Test.YtfhlehkgiamejaaGreatDoorV3C
import Derived.Test.YtfhlehkgiamejaaGreatDoorU4A
import Derived.Test.YtfhlehkgiamejaaGreatDoorGC
namespace Go.Proofs.YtfhlehkgiamejaaGreatDoor
open Go.Av
set_option linter.unusedVariables false
set_option linter.unusedSimpArgs false
set_option maxRecDepth 100000
def anyG (G : Int → Bool) (s : List UInt8) : Bool := s.any fun c => G (c.toNat : Int)
theorem anyG_cons (G : Int → Bool) (c : UInt8) (s : List UInt8) : anyG G (c :: s) = (G (c.toNat : Int) || anyG G s) := rfl
theorem any_skip {G : Int → Bool} {s : List UInt8} : ∀ (w p : Nat), (∀ j, p ≤ j → j < p + w → ∃ hj : j < s.length, G ((s[j]'hj).toNat : Int) = false) → anyG G (s.drop p) = anyG G (s.drop (p + w))
  | 0, p, _ => rfl
  | w + 1, p, h => by
    obtain ⟨h1, h2⟩ := h p (Nat.le_refl _) (by omega)
    have ih := any_skip w (p + 1) (fun j j1 j2 => h j (by omega) (by omega))
    rw [show p + (w + 1) = p + 1 + w by omega, ← ih, drop_step h1, anyG_cons, h2, Bool.false_or]
/-- strings.IndexFunc's loop, at a condition that holds of all runes from 80 on, or of none -/
theorem idx_loop {s : List UInt8} {G : Int → Bool} {L : Nat → Nat → Option (Sum Int Unit)} (hG : (∀ r : Nat, 128 ≤ r → G r = true) ∨ (∀ r : Nat, 128 ≤ r → G r = false))
    (hs : ∀ k p, L (k + 1) p = if p < s.length then (if G (((decR s p).1 : Nat) : Int) = true then some (.inl ((p : Nat) : Int)) else L k (p + (decR s p).2)) else some (.inr ())) :
    ∀ (k p : Nat), s.length - p < k → ∃ o, L k p = some o ∧ (match o with | Sum.inl v => anyG G (s.drop p) = true ∧ 0 ≤ v | Sum.inr _ => anyG G (s.drop p) = false)
  | 0, p, hk => by omega
  | k + 1, p, hk => by
    rw [hs]
    by_cases hlt : p < s.length
    · rw [if_pos hlt]
      by_cases h : s[p].toNat < 128
      · rw [decR_lo hlt h, drop_step hlt, anyG_cons]
        cases hq : G (s[p].toNat : Int) with
        | true => exact ⟨_, rfl, rfl, by omega⟩
        | false =>
          obtain ⟨o, h1, h2⟩ := idx_loop hG hs k (p + 1) (by omega)
          exact ⟨o, by simpa using h1, by simpa using h2⟩
      · obtain ⟨d1, d2, d3⟩ := decR_hi hlt (by omega)
        rcases hG with hG | hG
        · rw [if_pos (hG _ d1), drop_step hlt, anyG_cons, hG _ (by omega)]
          exact ⟨_, rfl, rfl, by omega⟩
        · rw [if_neg (by rw [hG _ d1]; simp)]
          obtain ⟨o, h1, h2⟩ := idx_loop (.inr hG) hs k (p + (decR s p).2) (by omega)
          refine ⟨o, h1, ?_⟩
          have e : anyG G (s.drop p) = anyG G (s.drop (p + (decR s p).2)) := any_skip _ _ fun j j1 j2 => by
            by_cases hj : j = p
            · subst hj; exact ⟨hlt, hG _ (by omega)⟩
            · obtain ⟨q1, q2⟩ := d3 j (by omega) j2
              exact ⟨q1, hG _ q2⟩
          rw [e]; exact h2
    · rw [if_neg hlt, List.drop_eq_nil_of_le (by omega)]
      exact ⟨_, rfl, rfl⟩
/-! reasons -/
def oddG (r : Int) : Bool := decide (r < 32 ∧ ¬ r = 9 ∨ r = 127)
end Go.Proofs.YtfhlehkgiamejaaGreatDoor
