/- head, plain: methods, targets, reasons. -/
import Derived.Test.YtbcmngnmfneeaaaDoorU4C
import Derived.Test.YtbcmngnmfneeaaaDoorGC
namespace Go.Proofs.YtbcmngnmfneeaaaDoor
open Go.Av
set_option linter.unusedVariables false
set_option linter.unusedSimpArgs false
set_option maxRecDepth 100000
def anyG (G : Int → Bool) (s : List UInt8) : Bool := s.any fun c => G (c.toNat : Int)
theorem anyG_cons (G : Int → Bool) (c : UInt8) (s : List UInt8) : anyG G (c :: s) = (G (c.toNat : Int) || anyG G s) := rfl
theorem any_skip {G : Int → Bool} {s : List UInt8} : ∀ (w p : Nat), (∀ j, p ≤ j → j < p + w → ∃ hj : j < s.length, G ((s[j]'hj).toNat : Int) = false) → anyG G (s.drop p) = anyG G (s.drop (p + w))
  | 0, p, _ => rfl
  | w + 1, p, h => by
    obtain ⟨h1, h2⟩ := h p (Nat.le_refl _) (by omega)
    have ih := any_skip w (p + 1) (fun j j1 j2 => h j (by omega) (by omega))
    rw [show p + (w + 1) = p + 1 + w by omega, ← ih, drop_step h1, anyG_cons, h2, Bool.false_or]
/-- strings.IndexFunc's loop, at a condition that holds of all runes from 80 on, or of none -/
theorem idx_loop {s : List UInt8} {G : Int → Bool} {L : Nat → Nat → Option (Sum Int Unit)} (hG : (∀ r : Nat, 128 ≤ r → G r = true) ∨ (∀ r : Nat, 128 ≤ r → G r = false))
    (hs : ∀ k p, L (k + 1) p = if p < s.length then (if G (((decR s p).1 : Nat) : Int) = true then some (.inl ((p : Nat) : Int)) else L k (p + (decR s p).2)) else some (.inr ())) :
    ∀ (k p : Nat), s.length - p < k → ∃ o, L k p = some o ∧ (match o with | Sum.inl v => anyG G (s.drop p) = true ∧ 0 ≤ v | Sum.inr _ => anyG G (s.drop p) = false)
  | 0, p, hk => by omega
  | k + 1, p, hk => by
    rw [hs]
    by_cases hlt : p < s.length
    · rw [if_pos hlt]
      by_cases h : s[p].toNat < 128
      · rw [decR_lo hlt h, drop_step hlt, anyG_cons]
        cases hq : G (s[p].toNat : Int) with
        | true => exact ⟨_, rfl, rfl, by omega⟩
        | false =>
          obtain ⟨o, h1, h2⟩ := idx_loop hG hs k (p + 1) (by omega)
          exact ⟨o, by simpa using h1, by simpa using h2⟩
      · obtain ⟨d1, d2, d3⟩ := decR_hi hlt (by omega)
        rcases hG with hG | hG
        · rw [if_pos (hG _ d1), drop_step hlt, anyG_cons, hG _ (by omega)]
          exact ⟨_, rfl, rfl, by omega⟩
        · rw [if_neg (by rw [hG _ d1]; simp)]
          obtain ⟨o, h1, h2⟩ := idx_loop (.inr hG) hs k (p + (decR s p).2) (by omega)
          refine ⟨o, h1, ?_⟩
          have e : anyG G (s.drop p) = anyG G (s.drop (p + (decR s p).2)) := any_skip _ _ fun j j1 j2 => by
            by_cases hj : j = p
            · subst hj; exact ⟨hlt, hG _ (by omega)⟩
            · obtain ⟨q1, q2⟩ := d3 j (by omega) j2
              exact ⟨q1, hG _ q2⟩
          rw [e]; exact h2
    · rw [if_neg hlt, List.drop_eq_nil_of_le (by omega)]
      exact ⟨_, rfl, rfl⟩
theorem any_all {G : Int → Bool} {q : UInt8 → Bool} (h : ∀ c : UInt8, G (c.toNat : Int) = !q c) (s : List UInt8) : anyG G s = !s.all q := by
  unfold anyG
  induction s with
  | nil => rfl
  | cons c s ih => rw [List.any_cons, List.all_cons, ih, h]; cases q c <;> simp
/-! methods -/
def methT (s : List UInt8) : Bool := tokT s && (decide (s.length ≤ 16) && (!decide (s = [67, 79, 78, 78, 69, 67, 84]) && !decide (s = [84, 82, 65, 67, 69])))
theorem method_eq {s : List UInt8} (hl : s.length ≤ 16777216) : head_method s = some (methT s) := by
  unfold head_method methT
  rw [Token_eq hl]
  simp only [Option.bind_some]
  cases tokT s with
  | false => rfl
  | true =>
    by_cases h : s.length ≤ 16
    · rw [if_pos rfl, if_pos (by simp; omega)]
      by_cases h2 : s = [67, 79, 78, 78, 69, 67, 84]
      · subst h2; rfl
      · simp [h, h2]
    · rw [if_pos rfl, if_neg (by simp; omega)]; simp [h]
/-! targets -/
def tgC (c : UInt8) : Bool := !(decide (b2i c < 33) || decide (126 < b2i c) || decide (b2i c = 35))
def tgG (r : Int) : Bool := decide (r < 33) || decide (126 < r) || decide (r = 35)
def targT (s : List UInt8) : Bool := decide (s.head? = some 47) && s.all tgC
theorem target1_eq (r : Int) : head_target_1 r = some (tgG r) := by
  unfold head_target_1 tgG
  by_cases h : r < 33
  · simp [h]
  · by_cases h2 : 126 < r
    · simp [h, h2]
    · simp [h, h2]
theorem target_eq {s : List UInt8} (hl : s.length ≤ 16777216) : head_target s = some (targT s) := by
  unfold head_target targT
  rw [hasPrefix1]
  simp only [Option.bind_some]
  cases decide (s.head? = some 47) with
  | false => rfl
  | true =>
    obtain ⟨o, h1, h2⟩ := idx_loop (s := s) (G := tgG) (L := strings_indexFunc_L79 s) (.inl fun r hr => by unfold tgG; simp; omega) (fun k p => by
      simp only [strings_indexFunc_L79, target1_eq, Option.bind_some, decide_eq_true_eq, beq_iff_eq]) 1099511627776 0 (by omega)
    rw [List.drop_zero, any_all (q := tgC) (fun c => by unfold tgG tgC b2i; simp)] at h2
    simp only [if_true, Bool.true_and]
    rw [h1]
    cases o with
    | inl v => obtain ⟨h2, h3⟩ := h2; simp only [Option.bind_some, decide_eq_true h3]; simp at h2; simp [h2]
    | inr v => dsimp only at h2; simp only [Bool.not_eq_false'] at h2; rw [h2]; rfl
/-! reasons -/
end Go.Proofs.YtbcmngnmfneeaaaDoor
