/- utf8, plain: pieces of four bytes; characters' bytes. -/
import Derived.Test.YtecpgelhhbbjmaaDoorU8S
namespace Go.Proofs.YtecpgelhhbbjmaaDoor
open Go.Av
set_option linter.unusedVariables false
set_option linter.unusedSimpArgs false
set_option maxHeartbeats 4000000
theorem pieceR_4 (c : UInt8) (t : List UInt8) (h : 240 ≤ b2i c) (h' : b2i c < 248) : pieceR (c :: t) 4 1 = pieceT (c :: t) := by
  have hs : sizeT (b2i c) = (4, b2i c - 240) := by
    unfold sizeT
    (repeat' split) <;> first | rfl | omega
  have o1 : okT 4 ((b2i c - 240) * 64 * 64 * 64, (((b2i c - 240) * 64 + 63) * 64 + 63) * 64 + 63) = decide (b2i c ≤ 244) := by
    unfold okT leastT; rw [band_ok, decide_eq_decide]; simp; omega
  by_cases hc : b2i c ≤ 244
  · obtain ⟨lo, hi, hl, hlo⟩ : ∃ lo hi : Int, lookT (c :: t) = runT 3 lo hi t 1 ∧ ((b2i c = 240 ∧ lo = 144 ∧ hi = 191) ∨ (b2i c = 244 ∧ lo = 128 ∧ hi = 143) ∨ (b2i c ≠ 240 ∧ b2i c ≠ 244 ∧ lo = 128 ∧ hi = 191)) := by
      by_cases a : b2i c = 240
      · exact ⟨144, 191, by simp [lookT, a], .inl ⟨a, rfl, rfl⟩⟩
      · by_cases b : b2i c = 244
        · exact ⟨128, 143, by simp [lookT, b], .inr (.inl ⟨b, rfl, rfl⟩)⟩
        · refine ⟨128, 191, ?_, .inr (.inr ⟨a, b, rfl, rfl⟩)⟩
          simp only [lookT]
          (repeat' split) <;> first | rfl | omega
    rcases t with _ | ⟨d, t⟩
    · simp [pieceR, pieceT, begT, contT, hlT, n22, n23, n24, n33, n34, n44, hs, hl, o1, hc, runT]
    · have d0 := b2i_rng d
      by_cases hd : b2i d < lo ∨ hi < b2i d
      · by_cases hd' : b2i d < 128 ∨ 191 < b2i d
        · rcases t with _ | ⟨e, _ | ⟨f, t⟩⟩ <;> simp [pieceR, pieceT, begT, contT, hlT, n22, n23, n24, n33, n34, n44, hs, hl, o1, hc, hd, hd', runT]
        · have o2 : okT 4 (((b2i c - 240) * 64 + b2i d - 128) * 64 * 64, ((((b2i c - 240) * 64 + b2i d - 128) * 64 + 63) * 64 + 63)) = false := by
            unfold okT leastT; rw [band_ok, decide_eq_false_iff_not]; simp; omega
          rcases t with _ | ⟨e, t⟩
          · simp [pieceR, pieceT, begT, contT, hlT, n22, n23, n24, n33, n34, n44, hs, hl, o1, o2, hc, hd, hd', runT]
          · have e0 := b2i_rng e
            by_cases he : b2i e < 128 ∨ 191 < b2i e
            · rcases t with _ | ⟨f, t⟩ <;> simp [pieceR, pieceT, begT, contT, hlT, n22, n23, n24, n33, n34, n44, hs, hl, o1, o2, hc, hd, hd', he, runT]
            · have o3 : okT 4 ((((b2i c - 240) * 64 + b2i d - 128) * 64 + b2i e - 128) * 64, (((b2i c - 240) * 64 + b2i d - 128) * 64 + b2i e - 128) * 64 + 63) = false := by
                unfold okT leastT; rw [band_ok, decide_eq_false_iff_not]; simp; omega
              rcases t with _ | ⟨f, t⟩
              · simp [pieceR, pieceT, begT, contT, hlT, n22, n23, n24, n33, n34, n44, hs, hl, o1, o2, o3, hc, hd, hd', he, runT]
              · have f0 := b2i_rng f
                by_cases hf : b2i f < 128 ∨ 191 < b2i f
                · simp [pieceR, pieceT, begT, contT, hlT, n22, n23, n24, n33, n34, n44, hs, hl, o1, o2, o3, hc, hd, hd', he, hf, runT]
                · have o4 : okT 4 ((((b2i c - 240) * 64 + b2i d - 128) * 64 + b2i e - 128) * 64 + b2i f - 128, (((b2i c - 240) * 64 + b2i d - 128) * 64 + b2i e - 128) * 64 + b2i f - 128) = false := by
                    unfold okT leastT; rw [band_ok, decide_eq_false_iff_not]; simp; omega
                  simp [pieceR, pieceT, begT, contT, hlT, n22, n23, n24, n33, n34, n44, hs, hl, o1, o2, o3, o4, hc, hd, hd', he, hf, runT]
      · have hd' : ¬ (b2i d < 128 ∨ 191 < b2i d) := by omega
        have o2 : okT 4 (((b2i c - 240) * 64 + b2i d - 128) * 64 * 64, ((((b2i c - 240) * 64 + b2i d - 128) * 64 + 63) * 64 + 63)) = true := by
          unfold okT leastT; rw [band_ok, decide_eq_true_iff]; simp; omega
        rcases t with _ | ⟨e, t⟩
        · simp [pieceR, pieceT, begT, contT, hlT, n22, n23, n24, n33, n34, n44, hs, hl, o1, o2, hc, hd, hd', runT]
        · have e0 := b2i_rng e
          by_cases he : b2i e < 128 ∨ 191 < b2i e
          · rcases t with _ | ⟨f, t⟩ <;> simp [pieceR, pieceT, begT, contT, hlT, n22, n23, n24, n33, n34, n44, hs, hl, o1, o2, hc, hd, hd', he, runT]
          · have o3 : okT 4 ((((b2i c - 240) * 64 + b2i d - 128) * 64 + b2i e - 128) * 64, (((b2i c - 240) * 64 + b2i d - 128) * 64 + b2i e - 128) * 64 + 63) = true := by
              unfold okT leastT; rw [band_ok, decide_eq_true_iff]; simp; omega
            rcases t with _ | ⟨f, t⟩
            · simp [pieceR, pieceT, begT, contT, hlT, n22, n23, n24, n33, n34, n44, hs, hl, o1, o2, o3, hc, hd, hd', he, runT]
            · have f0 := b2i_rng f
              by_cases hf : b2i f < 128 ∨ 191 < b2i f
              · simp [pieceR, pieceT, begT, contT, hlT, n22, n23, n24, n33, n34, n44, hs, hl, o1, o2, o3, hc, hd, hd', he, hf, runT]
              · have o4 : okT 4 ((((b2i c - 240) * 64 + b2i d - 128) * 64 + b2i e - 128) * 64 + b2i f - 128, (((b2i c - 240) * 64 + b2i d - 128) * 64 + b2i e - 128) * 64 + b2i f - 128) = true := by
                  unfold okT leastT; rw [band_ok, decide_eq_true_iff]; simp; omega
                simp [pieceR, pieceT, begT, contT, hlT, n22, n23, n24, n33, n34, n44, hs, hl, o1, o2, o3, o4, hc, hd, hd', he, hf, runT, valT, accT, show ¬ b2i c < 128 by omega, show ¬ b2i c < 224 by omega, show ¬ b2i c < 240 by omega]
  · have hl : lookT (c :: t) = (0, false) := by
      simp only [lookT]
      (repeat' split) <;> first | rfl | omega
    have k2 : ∀ d : UInt8, ¬ (b2i d < 128 ∨ 191 < b2i d) → okT 4 (((b2i c - 240) * 64 + b2i d - 128) * 64 * 64, ((((b2i c - 240) * 64 + b2i d - 128) * 64 + 63) * 64 + 63)) = false := by
      intro d hd
      unfold okT leastT; rw [band_ok, decide_eq_false_iff_not]; simp; omega
    have k3 : ∀ d e : UInt8, ¬ (b2i d < 128 ∨ 191 < b2i d) → ¬ (b2i e < 128 ∨ 191 < b2i e) → okT 4 ((((b2i c - 240) * 64 + b2i d - 128) * 64 + b2i e - 128) * 64, (((b2i c - 240) * 64 + b2i d - 128) * 64 + b2i e - 128) * 64 + 63) = false := by
      intro d e hd he
      unfold okT leastT; rw [band_ok, decide_eq_false_iff_not]; simp; omega
    have k4 : ∀ d e f : UInt8, ¬ (b2i d < 128 ∨ 191 < b2i d) → ¬ (b2i e < 128 ∨ 191 < b2i e) → ¬ (b2i f < 128 ∨ 191 < b2i f) → okT 4 ((((b2i c - 240) * 64 + b2i d - 128) * 64 + b2i e - 128) * 64 + b2i f - 128, (((b2i c - 240) * 64 + b2i d - 128) * 64 + b2i e - 128) * 64 + b2i f - 128) = false := by
      intro d e f hd he hf
      unfold okT leastT; rw [band_ok, decide_eq_false_iff_not]; simp; omega
    rcases t with _ | ⟨d, t⟩
    · simp [pieceR, pieceT, begT, contT, hlT, n22, n23, n24, n33, n34, n44, hs, hl, o1, hc]
    · by_cases hd : b2i d < 128 ∨ 191 < b2i d
      · rcases t with _ | ⟨e, _ | ⟨f, t⟩⟩ <;> simp [pieceR, pieceT, begT, contT, hlT, n22, n23, n24, n33, n34, n44, hs, hl, o1, hc, hd]
      · rcases t with _ | ⟨e, t⟩
        · simp [pieceR, pieceT, begT, contT, hlT, n22, n23, n24, n33, n34, n44, hs, hl, o1, hc, hd, k2 d hd]
        · by_cases he : b2i e < 128 ∨ 191 < b2i e
          · rcases t with _ | ⟨f, t⟩ <;> simp [pieceR, pieceT, begT, contT, hlT, n22, n23, n24, n33, n34, n44, hs, hl, o1, hc, hd, k2 d hd, he]
          · rcases t with _ | ⟨f, t⟩
            · simp [pieceR, pieceT, begT, contT, hlT, n22, n23, n24, n33, n34, n44, hs, hl, o1, hc, hd, k2 d hd, he, k3 d e hd he]
            · by_cases hf : b2i f < 128 ∨ 191 < b2i f
              · simp [pieceR, pieceT, begT, contT, hlT, n22, n23, n24, n33, n34, n44, hs, hl, o1, hc, hd, k2 d hd, he, k3 d e hd he, hf]
              · simp [pieceR, pieceT, begT, contT, hlT, n22, n23, n24, n33, n34, n44, hs, hl, o1, hc, hd, k2 d hd, he, k3 d e hd he, hf, k4 d e f hd he hf]
theorem pieceR_eq (t : List UInt8) (h : t ≠ []) : pieceR t 4 1 = pieceT t := by
  rcases t with _ | ⟨c, t⟩
  · exact absurd rfl h
  · have c0 := b2i_rng c
    by_cases a : b2i c < 128
    · exact pieceR_1 c t a
    · by_cases b : b2i c < 192 ∨ 248 ≤ b2i c
      · exact pieceR_0 c t (by omega) b
      · by_cases d : b2i c < 224
        · exact pieceR_2 c t (by omega) d
        · by_cases e : b2i c < 240
          · exact pieceR_3 c t (by omega) e
          · exact pieceR_4 c t (by omega) (by omega)
end Go.Proofs.YtecpgelhhbbjmaaDoor
