/- utf8, plain: the two ways of finding pieces agree. -/
import Derived.Test.YtecpgelhhbbjmaaDoorU8R
namespace Go.Proofs.YtecpgelhhbbjmaaDoor
open Go.Av
set_option linter.unusedVariables false
set_option linter.unusedSimpArgs false
set_option maxHeartbeats 4000000
theorem b2i_rng (c : UInt8) : 0 ≤ b2i c ∧ b2i c < 256 := ⟨b2i_nonneg c, b2i_lt c⟩
theorem band_ok {p q r : Prop} [Decidable p] [Decidable q] [Decidable r] : (decide p && !(decide q && decide r)) = decide (p ∧ ¬ (q ∧ r)) := by
  by_cases p <;> by_cases q <;> by_cases r <;> simp_all
theorem n22 (n : Nat) : ¬ n + 1 + 1 < 2 := by omega
theorem n23 (n : Nat) : ¬ n + 1 + 1 + 1 < 2 := by omega
theorem n24 (n : Nat) : ¬ n + 1 + 1 + 1 + 1 < 2 := by omega
theorem n33 (n : Nat) : ¬ n + 1 + 1 + 1 < 3 := by omega
theorem n34 (n : Nat) : ¬ n + 1 + 1 + 1 + 1 < 3 := by omega
theorem n44 (n : Nat) : ¬ n + 1 + 1 + 1 + 1 < 4 := by omega
theorem pieceR_1 (c : UInt8) (t : List UInt8) (h : b2i c < 128) : pieceR (c :: t) 4 1 = pieceT (c :: t) := by
  have h0 := b2i_nonneg c
  have o : okT 1 (b2i c, b2i c) = true := by unfold okT leastT; rw [band_ok]; simp only [decide_eq_true_eq]; simp; omega
  simp [pieceR, pieceT, begT, lookT, valT, accT, sizeT, contT, hlT, h, o]
theorem pieceR_0 (c : UInt8) (t : List UInt8) (h : 128 ≤ b2i c) (h' : b2i c < 192 ∨ 248 ≤ b2i c) : pieceR (c :: t) 4 1 = pieceT (c :: t) := by
  have hs : sizeT (b2i c) = (0, 0) := by
    unfold sizeT
    (repeat' split) <;> first | rfl | omega
  have hl : lookT (c :: t) = (0, false) := by
    simp only [lookT]
    (repeat' split) <;> first | rfl | omega
  simp [pieceR, pieceT, begT, hs, hl]
theorem pieceR_2 (c : UInt8) (t : List UInt8) (h : 192 ≤ b2i c) (h' : b2i c < 224) : pieceR (c :: t) 4 1 = pieceT (c :: t) := by
  have hs : sizeT (b2i c) = (2, b2i c - 192) := by
    unfold sizeT
    (repeat' split) <;> first | rfl | omega
  have o1 : okT 2 ((b2i c - 192) * 64, (b2i c - 192) * 64 + 63) = decide (194 ≤ b2i c) := by
    unfold okT leastT; rw [band_ok, decide_eq_decide]; simp; omega
  by_cases h2 : b2i c < 194
  · have hl : lookT (c :: t) = (0, false) := by
      simp only [lookT]
      (repeat' split) <;> first | rfl | omega
    rcases t with _ | ⟨d, t⟩
    · simp [pieceR, pieceT, begT, contT, hlT, n22, n23, n24, n33, n34, n44, hs, hl, o1, show ¬ 194 ≤ b2i c by omega]
    · have d0 := b2i_rng d
      have o2 : b2i d ≤ 191 → okT 2 ((b2i c - 192) * 64 + b2i d - 128, (b2i c - 192) * 64 + b2i d - 128) = false := by
        intro _
        unfold okT leastT; rw [band_ok, decide_eq_false_iff_not]; simp; omega
      by_cases hd : b2i d < 128 ∨ 191 < b2i d
      · simp [pieceR, pieceT, begT, contT, hlT, n22, n23, n24, n33, n34, n44, hs, hl, o1, hd, show ¬ 194 ≤ b2i c by omega]
      · simp [pieceR, pieceT, begT, contT, hlT, n22, n23, n24, n33, n34, n44, hs, hl, o1, hd, o2 (by omega), show ¬ 194 ≤ b2i c by omega]
  · have hl : lookT (c :: t) = runT 1 128 191 t 1 := by
      simp only [lookT]
      (repeat' split) <;> first | rfl | omega
    rcases t with _ | ⟨d, t⟩
    · simp [pieceR, pieceT, begT, contT, hlT, n22, n23, n24, n33, n34, n44, hs, hl, o1, runT, show 194 ≤ b2i c by omega]
    · have d0 := b2i_rng d
      by_cases hd : b2i d < 128 ∨ 191 < b2i d
      · simp [pieceR, pieceT, begT, contT, hlT, n22, n23, n24, n33, n34, n44, hs, hl, o1, hd, runT, show 194 ≤ b2i c by omega]
      · have o2 : okT 2 ((b2i c - 192) * 64 + b2i d - 128, (b2i c - 192) * 64 + b2i d - 128) = true := by
          unfold okT leastT; rw [band_ok, decide_eq_true_iff]; simp; omega
        simp [pieceR, pieceT, begT, contT, hlT, n22, n23, n24, n33, n34, n44, hs, hl, o1, hd, o2, runT, valT, accT, h', show ¬ b2i c < 128 by omega, show 194 ≤ b2i c by omega]
theorem pieceR_3 (c : UInt8) (t : List UInt8) (h : 224 ≤ b2i c) (h' : b2i c < 240) : pieceR (c :: t) 4 1 = pieceT (c :: t) := by
  have hs : sizeT (b2i c) = (3, b2i c - 224) := by
    unfold sizeT
    (repeat' split) <;> first | rfl | omega
  have o1 : okT 3 ((b2i c - 224) * 64 * 64, ((b2i c - 224) * 64 + 63) * 64 + 63) = true := by
    unfold okT leastT; rw [band_ok, decide_eq_true_iff]; simp; omega
  obtain ⟨lo, hi, hl, hlo⟩ : ∃ lo hi : Int, lookT (c :: t) = runT 2 lo hi t 1 ∧ ((b2i c = 224 ∧ lo = 160 ∧ hi = 191) ∨ (b2i c = 237 ∧ lo = 128 ∧ hi = 159) ∨ (b2i c ≠ 224 ∧ b2i c ≠ 237 ∧ lo = 128 ∧ hi = 191)) := by
    by_cases a : b2i c = 224
    · exact ⟨160, 191, by simp [lookT, a], .inl ⟨a, rfl, rfl⟩⟩
    · by_cases b : b2i c = 237
      · exact ⟨128, 159, by simp [lookT, b], .inr (.inl ⟨b, rfl, rfl⟩)⟩
      · refine ⟨128, 191, ?_, .inr (.inr ⟨a, b, rfl, rfl⟩)⟩
        simp only [lookT]
        (repeat' split) <;> first | rfl | omega
  rcases t with _ | ⟨d, t⟩
  · simp [pieceR, pieceT, begT, contT, hlT, n22, n23, n24, n33, n34, n44, hs, hl, o1, runT]
  · have d0 := b2i_rng d
    by_cases hd : b2i d < lo ∨ hi < b2i d
    · by_cases hd' : b2i d < 128 ∨ 191 < b2i d
      · rcases t with _ | ⟨e, t⟩ <;> simp [pieceR, pieceT, begT, contT, hlT, n22, n23, n24, n33, n34, n44, hs, hl, o1, hd, hd', runT]
      · have o2 : okT 3 (((b2i c - 224) * 64 + b2i d - 128) * 64, ((b2i c - 224) * 64 + b2i d - 128) * 64 + 63) = false := by
          unfold okT leastT; rw [band_ok, decide_eq_false_iff_not]; simp; omega
        rcases t with _ | ⟨e, t⟩
        · simp [pieceR, pieceT, begT, contT, hlT, n22, n23, n24, n33, n34, n44, hs, hl, o1, o2, hd, hd', runT]
        · have e0 := b2i_rng e
          by_cases he : b2i e < 128 ∨ 191 < b2i e
          · simp [pieceR, pieceT, begT, contT, hlT, n22, n23, n24, n33, n34, n44, hs, hl, o1, o2, hd, hd', he, runT]
          · have o3 : okT 3 (((b2i c - 224) * 64 + b2i d - 128) * 64 + b2i e - 128, ((b2i c - 224) * 64 + b2i d - 128) * 64 + b2i e - 128) = false := by
              unfold okT leastT; rw [band_ok, decide_eq_false_iff_not]; simp; omega
            simp [pieceR, pieceT, begT, contT, hlT, n22, n23, n24, n33, n34, n44, hs, hl, o1, o2, o3, hd, hd', he, runT]
    · have hd' : ¬ (b2i d < 128 ∨ 191 < b2i d) := by omega
      have o2 : okT 3 (((b2i c - 224) * 64 + b2i d - 128) * 64, ((b2i c - 224) * 64 + b2i d - 128) * 64 + 63) = true := by
        unfold okT leastT; rw [band_ok, decide_eq_true_iff]; simp; omega
      rcases t with _ | ⟨e, t⟩
      · simp [pieceR, pieceT, begT, contT, hlT, n22, n23, n24, n33, n34, n44, hs, hl, o1, o2, hd, hd', runT]
      · have e0 := b2i_rng e
        by_cases he : b2i e < 128 ∨ 191 < b2i e
        · simp [pieceR, pieceT, begT, contT, hlT, n22, n23, n24, n33, n34, n44, hs, hl, o1, o2, hd, hd', he, runT]
        · have o3 : okT 3 (((b2i c - 224) * 64 + b2i d - 128) * 64 + b2i e - 128, ((b2i c - 224) * 64 + b2i d - 128) * 64 + b2i e - 128) = true := by
            unfold okT leastT; rw [band_ok, decide_eq_true_iff]; simp; omega
          simp [pieceR, pieceT, begT, contT, hlT, n22, n23, n24, n33, n34, n44, hs, hl, o1, o2, o3, hd, hd', he, runT, valT, accT, h', show ¬ b2i c < 128 by omega, show ¬ b2i c < 224 by omega]
end Go.Proofs.YtecpgelhhbbjmaaDoor
