/- utf8, plain: characters joined. -/
import Derived.Test.YtecpgelhhbbjmaaDoorU8X
namespace Go.Proofs.YtecpgelhhbbjmaaDoor
open Go.Av
set_option linter.unusedVariables false
set_option linter.unusedSimpArgs false
theorem b2i_ofNat {m : Nat} (h : m < 256) : b2i (UInt8.ofNat m) = (m : Int) := by unfold b2i; rw [UInt8.toNat_ofNat']; omega
theorem look_chB {c : Int} (hc : goodC c) (r : List UInt8) : lookT (chB c ++ r) = ((chB c).length, true) ∧ valT (chB c).length (chB c ++ r) = c := by
  unfold goodC at hc
  obtain ⟨n, rfl⟩ := Int.eq_ofNat_of_zero_le hc.1
  unfold chB
  simp only [Int.toNat_natCast]
  by_cases a1 : (n : Int) < 128
  · have h0 := b2i_ofNat (m := n) (by omega)
    generalize UInt8.ofNat n = c0 at *
    rw [if_pos a1]
    simp only [List.cons_append, List.nil_append, List.length_cons, List.length_nil, lookT, valT]
    rw [if_pos (by omega), if_pos (by omega)]
    exact ⟨rfl, by show b2i c0 - 0 = _; omega⟩
  · by_cases a2 : (n : Int) < 2048
    · have h0 := b2i_ofNat (m := 192 + n / 64) (by omega)
      have h1 := b2i_ofNat (m := 128 + n % 64) (by omega)
      generalize UInt8.ofNat (192 + n / 64) = c0 at *
      generalize UInt8.ofNat (128 + n % 64) = c1 at *
      rw [if_neg a1, if_pos a2]
      simp only [List.cons_append, List.nil_append, List.length_cons, List.length_nil, lookT, valT]
      rw [if_neg (by omega), if_neg (by omega), if_pos (by omega), if_neg (by omega), if_pos (by omega)]
      simp only [runT]
      rw [if_neg (by omega)]
      exact ⟨rfl, by show (b2i c0 - 192) * 64 + b2i c1 - 128 = _; omega⟩
    · by_cases a3 : (n : Int) < 65536
      · have h0 := b2i_ofNat (m := 224 + n / 4096) (by omega)
        have h1 := b2i_ofNat (m := 128 + n / 64 % 64) (by omega)
        have h2 := b2i_ofNat (m := 128 + n % 64) (by omega)
        generalize UInt8.ofNat (224 + n / 4096) = c0 at *
        generalize UInt8.ofNat (128 + n / 64 % 64) = c1 at *
        generalize UInt8.ofNat (128 + n % 64) = c2 at *
        rw [if_neg a1, if_neg a2, if_pos a3]
        simp only [List.cons_append, List.nil_append, List.length_cons, List.length_nil]
        refine ⟨?_, ?_⟩
        · simp only [lookT, runT]
          rw [if_neg (by omega), if_neg (by omega), if_neg (by omega)]
          by_cases b1 : b2i c0 = 224
          · rw [if_pos b1, if_neg (by omega), if_neg (by omega)]
          · rw [if_neg b1]
            by_cases b2 : b2i c0 = 237
            · rw [if_pos b2, if_neg (by omega), if_neg (by omega)]
            · rw [if_neg b2, if_pos (by omega), if_neg (by omega), if_neg (by omega)]
        · simp only [valT]
          rw [if_neg (by omega), if_neg (by omega), if_pos (by omega)]
          show ((b2i c0 - 224) * 64 + b2i c1 - 128) * 64 + b2i c2 - 128 = _
          omega
      · have h0 := b2i_ofNat (m := 240 + n / 262144) (by omega)
        have h1 := b2i_ofNat (m := 128 + n / 4096 % 64) (by omega)
        have h2 := b2i_ofNat (m := 128 + n / 64 % 64) (by omega)
        have h3 := b2i_ofNat (m := 128 + n % 64) (by omega)
        generalize UInt8.ofNat (240 + n / 262144) = c0 at *
        generalize UInt8.ofNat (128 + n / 4096 % 64) = c1 at *
        generalize UInt8.ofNat (128 + n / 64 % 64) = c2 at *
        generalize UInt8.ofNat (128 + n % 64) = c3 at *
        rw [if_neg a1, if_neg a2, if_neg a3]
        simp only [List.cons_append, List.nil_append, List.length_cons, List.length_nil]
        refine ⟨?_, ?_⟩
        · simp only [lookT, runT]
          rw [if_neg (by omega), if_neg (by omega), if_neg (by omega), if_neg (by omega), if_neg (by omega), if_neg (by omega)]
          by_cases b1 : b2i c0 = 240
          · rw [if_pos b1, if_neg (by omega), if_neg (by omega), if_neg (by omega)]
          · rw [if_neg b1]
            by_cases b2 : b2i c0 < 244
            · rw [if_pos b2, if_neg (by omega), if_neg (by omega), if_neg (by omega)]
            · rw [if_neg b2, if_pos (by omega), if_neg (by omega), if_neg (by omega), if_neg (by omega)]
        · simp only [valT]
          rw [if_neg (by omega), if_neg (by omega), if_neg (by omega)]
          show (((b2i c0 - 240) * 64 + b2i c1 - 128) * 64 + b2i c2 - 128) * 64 + b2i c3 - 128 = _
          omega
theorem piece_chB {c : Int} (hc : goodC c) (r : List UInt8) : pieceT (chB c ++ r) = ((chB c).length, c, true) := by
  obtain ⟨h1, h2⟩ := look_chB hc r
  unfold pieceT
  rw [h1]
  simp only [if_true, h2]
theorem chB_ne (c : Int) (r : List UInt8) : chB c ++ r ≠ [] := by
  have := (chB_len c).1
  intro h; have := congrArg List.length h; rw [List.length_append, List.length_nil] at this; omega
theorem faultT_encL : ∀ (L : List Int) (r : List UInt8) (i : Nat), (∀ x ∈ L, goodC x) → faultT (encL L ++ r) i = faultT r (i + (encL L).length)
  | [], r, i, _ => rfl
  | c :: L, r, i, h => by
    have hc := h c List.mem_cons_self
    rw [encL_cons, fixR_id hc, List.append_assoc, faultT_cons (chB_ne c _), piece_chB hc, (look_chB hc _).1, if_pos rfl, List.drop_left, faultT_encL L r _ (fun x hx => h x (List.mem_cons_of_mem _ hx)), List.length_append, Nat.add_assoc]
end Go.Proofs.YtecpgelhhbbjmaaDoor
