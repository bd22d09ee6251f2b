/- utf8, plain: a whole piece is a character. -/
import Derived.Test.YtecpgelhhbbjmaaDoorU8T
namespace Go.Proofs.YtecpgelhhbbjmaaDoor
open Go.Av
set_option linter.unusedVariables false
set_option linter.unusedSimpArgs false
theorem byte_eq {n : Nat} {c : UInt8} (h : (n : Int) = b2i c) : UInt8.ofNat n = c := by
  have := b2i_lt c
  rw [← b2i_inj]; unfold b2i; unfold b2i at h this; rw [UInt8.toNat_ofNat']; omega
theorem chB1 (c : UInt8) (h : b2i c < 128) : chB (b2i c) = [c] := by
  have c0 := b2i_nonneg c
  unfold chB; rw [if_pos (by omega), byte_eq (c := c) (by omega)]
theorem chB2 (c d : UInt8) (h : 194 ≤ b2i c) (h' : b2i c < 224) (hd : 128 ≤ b2i d) (hd' : b2i d ≤ 191) : chB ((b2i c - 192) * 64 + b2i d - 128) = [c, d] := by
  unfold chB; rw [if_neg (by omega), if_pos (by omega), byte_eq (c := c) (by omega), byte_eq (c := d) (by omega)]
theorem chB3 (c d e : UInt8) (h : 224 ≤ b2i c) (h' : b2i c < 240) (hd : 128 ≤ b2i d) (hd' : b2i d ≤ 191) (h2 : b2i c = 224 → 160 ≤ b2i d) (he : 128 ≤ b2i e) (he' : b2i e ≤ 191) : chB (((b2i c - 224) * 64 + b2i d - 128) * 64 + b2i e - 128) = [c, d, e] := by
  unfold chB; rw [if_neg (by omega), if_neg (by omega), if_pos (by omega), byte_eq (c := c) (by omega), byte_eq (c := d) (by omega), byte_eq (c := e) (by omega)]
theorem chB4 (c d e f : UInt8) (h : 240 ≤ b2i c) (h' : b2i c ≤ 244) (hd : 128 ≤ b2i d) (hd' : b2i d ≤ 191) (h2 : b2i c = 240 → 144 ≤ b2i d) (he : 128 ≤ b2i e) (he' : b2i e ≤ 191) (hf : 128 ≤ b2i f) (hf' : b2i f ≤ 191) : chB ((((b2i c - 240) * 64 + b2i d - 128) * 64 + b2i e - 128) * 64 + b2i f - 128) = [c, d, e, f] := by
  unfold chB; rw [if_neg (by omega), if_neg (by omega), if_neg (by omega), byte_eq (c := c) (by omega), byte_eq (c := d) (by omega), byte_eq (c := e) (by omega), byte_eq (c := f) (by omega)]
theorem look_whole (t : List UInt8) (h : (lookT t).2 = true) : goodC (valT (lookT t).1 t) ∧ ∃ r, t = chB (valT (lookT t).1 t) ++ r ∧ (chB (valT (lookT t).1 t)).length = (lookT t).1 := by
  rcases t with _ | ⟨c, t⟩
  · simp [lookT] at h
  · have c0 := b2i_rng c
    by_cases a1 : b2i c < 128
    · have hl : lookT (c :: t) = (1, true) := by simp [lookT, a1]
      have hv : valT 1 (c :: t) = b2i c := by simp [valT, accT, a1]
      rw [hl]; simp only [hv, chB1 c a1]
      exact ⟨by unfold goodC; omega, t, rfl, rfl⟩
    · by_cases a2 : b2i c < 194
      · have hl : lookT (c :: t) = (0, false) := by simp [lookT, a1, a2]
        rw [hl] at h; cases h
      · by_cases a3 : b2i c < 224
        · have hl : lookT (c :: t) = runT 1 128 191 t 1 := by simp [lookT, a1, a2, a3]
          rw [hl] at h ⊢
          rcases t with _ | ⟨d, t⟩
          · simp [runT] at h
          · by_cases hd : b2i d < 128 ∨ 191 < b2i d
            · simp [runT, hd] at h
            · have hr : runT 1 128 191 (d :: t) 1 = (2, true) := by simp [runT, hd]
              have hv : valT 2 (c :: d :: t) = (b2i c - 192) * 64 + b2i d - 128 := by simp [valT, accT, a1, a3]
              rw [hr]; simp only [hv, chB2 c d (by omega) a3 (by omega) (by omega)]
              exact ⟨by unfold goodC; omega, t, rfl, rfl⟩
        · by_cases a4 : b2i c < 240
          · obtain ⟨lo, hi, hl, hlo⟩ : ∃ lo hi : Int, lookT (c :: t) = runT 2 lo hi t 1 ∧ ((b2i c = 224 ∧ lo = 160 ∧ hi = 191) ∨ (b2i c = 237 ∧ lo = 128 ∧ hi = 159) ∨ (b2i c ≠ 224 ∧ b2i c ≠ 237 ∧ lo = 128 ∧ hi = 191)) := by
              by_cases a : b2i c = 224
              · exact ⟨160, 191, by simp [lookT, a], .inl ⟨a, rfl, rfl⟩⟩
              · by_cases b : b2i c = 237
                · exact ⟨128, 159, by simp [lookT, b], .inr (.inl ⟨b, rfl, rfl⟩)⟩
                · exact ⟨128, 191, by simp [lookT, a1, a2, a3, a4, a, b], .inr (.inr ⟨a, b, rfl, rfl⟩)⟩
            rw [hl] at h ⊢
            rcases t with _ | ⟨d, t⟩
            · simp [runT] at h
            · by_cases hd : b2i d < lo ∨ hi < b2i d
              · simp [runT, hd] at h
              · rcases t with _ | ⟨e, t⟩
                · simp [runT, hd] at h
                · by_cases he : b2i e < 128 ∨ 191 < b2i e
                  · simp [runT, hd, he] at h
                  · have hr : runT 2 lo hi (d :: e :: t) 1 = (3, true) := by simp [runT, hd, he]
                    have hv : valT 3 (c :: d :: e :: t) = ((b2i c - 224) * 64 + b2i d - 128) * 64 + b2i e - 128 := by simp [valT, accT, a1, a3, a4]
                    rw [hr]; simp only [hv, chB3 c d e (by omega) a4 (by omega) (by omega) (by omega) (by omega) (by omega)]
                    exact ⟨by unfold goodC; omega, t, rfl, rfl⟩
          · by_cases a5 : b2i c ≤ 244
            · obtain ⟨lo, hi, hl, hlo⟩ : ∃ lo hi : Int, lookT (c :: t) = runT 3 lo hi t 1 ∧ ((b2i c = 240 ∧ lo = 144 ∧ hi = 191) ∨ (b2i c = 244 ∧ lo = 128 ∧ hi = 143) ∨ (b2i c ≠ 240 ∧ b2i c ≠ 244 ∧ lo = 128 ∧ hi = 191)) := by
                by_cases a : b2i c = 240
                · exact ⟨144, 191, by simp [lookT, a], .inl ⟨a, rfl, rfl⟩⟩
                · by_cases b : b2i c = 244
                  · exact ⟨128, 143, by simp [lookT, b], .inr (.inl ⟨b, rfl, rfl⟩)⟩
                  · refine ⟨128, 191, ?_, .inr (.inr ⟨a, b, rfl, rfl⟩)⟩
                    simp only [lookT]
                    (repeat' split) <;> first | rfl | omega
              rw [hl] at h ⊢
              rcases t with _ | ⟨d, t⟩
              · simp [runT] at h
              · by_cases hd : b2i d < lo ∨ hi < b2i d
                · simp [runT, hd] at h
                · rcases t with _ | ⟨e, t⟩
                  · simp [runT, hd] at h
                  · by_cases he : b2i e < 128 ∨ 191 < b2i e
                    · simp [runT, hd, he] at h
                    · rcases t with _ | ⟨f, t⟩
                      · simp [runT, hd, he] at h
                      · by_cases hf : b2i f < 128 ∨ 191 < b2i f
                        · simp [runT, hd, he, hf] at h
                        · have hr : runT 3 lo hi (d :: e :: f :: t) 1 = (4, true) := by simp [runT, hd, he, hf]
                          have hv : valT 4 (c :: d :: e :: f :: t) = (((b2i c - 240) * 64 + b2i d - 128) * 64 + b2i e - 128) * 64 + b2i f - 128 := by simp [valT, accT, a1, a3, a4]
                          rw [hr]; simp only [hv, chB4 c d e f (by omega) a5 (by omega) (by omega) (by omega) (by omega) (by omega) (by omega) (by omega)]
                          exact ⟨by unfold goodC; omega, t, rfl, rfl⟩
            · have hl : lookT (c :: t) = (0, false) := by
                simp only [lookT]
                (repeat' split) <;> first | rfl | omega
              rw [hl] at h; cases h
end Go.Proofs.YtecpgelhhbbjmaaDoor
