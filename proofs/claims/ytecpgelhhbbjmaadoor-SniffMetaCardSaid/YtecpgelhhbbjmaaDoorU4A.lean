/- a string's runes, and its bytes below 80. -/
import Derived.Test.YtecpgelhhbbjmaaDoorPu
import Derived.Test.YtecpgelhhbbjmaaDoorFwB
namespace Go.Proofs.YtecpgelhhbbjmaaDoor
open Go.Av
set_option linter.unusedVariables false
set_option linter.unusedSimpArgs false
theorem get_at {s : List UInt8} {k : Nat} (h : k < s.length) : (ByteArray.get! ⟨s.toArray⟩ k) = s[k] := by
  show (s.toArray[k]!) = s[k]
  rw [getElem!_pos s.toArray k (by simpa using h)]
  simp
theorem decR_lo {s : List UInt8} {p : Nat} (h : p < s.length) (h1 : s[p].toNat < 128) : decR s p = (s[p].toNat, 1) := by
  unfold decR Utf8.decode
  simp only [Nat.add_zero, get_at h, h1, if_true]
theorem decR_hi {s : List UInt8} {p : Nat} (h : p < s.length) (h1 : 128 ≤ s[p].toNat) :
    128 ≤ (decR s p).1 ∧ 1 ≤ (decR s p).2 ∧ ∀ j, p < j → j < p + (decR s p).2 → ∃ hj : j < s.length, 128 ≤ (s[j]'hj).toNat := by
  have cont : ∀ k, (decide (p + k < ByteArray.size ⟨s.toArray⟩) && (ByteArray.get! ⟨s.toArray⟩ (p + k)).toNat / 64 == 2) = true → ∃ hj : p + k < s.length, 128 ≤ (s[p + k]'hj).toNat := by
    intro k hk
    simp only [Bool.and_eq_true, decide_eq_true_eq, beq_iff_eq] at hk
    have hj : p + k < s.length := by have := hk.1; simpa [ByteArray.size] using this
    refine ⟨hj, ?_⟩
    rw [get_at hj] at hk
    omega
  have e : Utf8.runeError = 65533 := rfl
  unfold decR Utf8.decode
  simp only [Nat.add_zero, get_at h]
  rw [if_neg (by omega)]
  split
  · rename_i hc
    simp only [Bool.and_eq_true] at hc
    split
    · refine ⟨by simp only; omega, by simp, fun j j1 j2 => ?_⟩
      simp only at j2
      obtain rfl : j = p + 1 := by omega
      exact cont 1 (by simpa using hc.2)
    · exact ⟨by simp only [e]; omega, by simp, fun j j1 j2 => by simp only at j2; omega⟩
  · split
    · rename_i hc
      simp only [Bool.and_eq_true] at hc
      split
      · rename_i hv
        simp only [Bool.and_eq_true, decide_eq_true_eq, ge_iff_le] at hv
        refine ⟨by simp only; omega, by simp, fun j j1 j2 => ?_⟩
        simp only at j2
        obtain rfl | rfl : j = p + 1 ∨ j = p + 2 := by omega
        · exact cont 1 (by simpa using hc.1.2)
        · exact cont 2 (by simpa using hc.2)
      · exact ⟨by simp only [e]; omega, by simp, fun j j1 j2 => by simp only at j2; omega⟩
    · split
      · rename_i hc
        simp only [Bool.and_eq_true] at hc
        split
        · rename_i hv
          simp only [Bool.and_eq_true, decide_eq_true_eq, ge_iff_le] at hv
          refine ⟨by simp only; omega, by simp, fun j j1 j2 => ?_⟩
          simp only at j2
          obtain rfl | rfl | rfl : j = p + 1 ∨ j = p + 2 ∨ j = p + 3 := by omega
          · exact cont 1 (by simpa using hc.1.1.2)
          · exact cont 2 (by simpa using hc.1.2)
          · exact cont 3 (by simpa using hc.2)
        · exact ⟨by simp only [e]; omega, by simp, fun j j1 j2 => by simp only at j2; omega⟩
      · exact ⟨by simp only [e]; omega, by simp, fun j j1 j2 => by simp only at j2; omega⟩
end Go.Proofs.YtecpgelhhbbjmaaDoor
