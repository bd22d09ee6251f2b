/- utf8, plain: characters joined. -/
import Derived.Test.YtcmfgjiemjlogaaDoorU8X
namespace Go.Proofs.YtcmfgjiemjlogaaDoor
open Go.Av
set_option linter.unusedVariables false
set_option linter.unusedSimpArgs false
theorem b2i_ofNat {m : Nat} (h : m < 256) : b2i (UInt8.ofNat m) = (m : Int) := by unfold b2i; rw [UInt8.toNat_ofNat']; omega
theorem look_chB {c : Int} (hc : goodC c) (r : List UInt8) : lookT (chB c ++ r) = ((chB c).length, true) ∧ valT (chB c).length (chB c ++ r) = c := by
  unfold goodC at hc
  obtain ⟨n, rfl⟩ := Int.eq_ofNat_of_zero_le hc.1
  unfold chB
  simp only [Int.toNat_natCast]
  by_cases a1 : (n : Int) < 128
  · have h0 := b2i_ofNat (m := n) (by omega)
    generalize UInt8.ofNat n = c0 at *
    rw [if_pos a1]
    simp only [List.cons_append, List.nil_append, List.length_cons, List.length_nil, lookT, valT]
    rw [if_pos (by omega), if_pos (by omega)]
    exact ⟨rfl, by show b2i c0 - 0 = _; omega⟩
  · by_cases a2 : (n : Int) < 2048
    · have h0 := b2i_ofNat (m := 192 + n / 64) (by omega)
      have h1 := b2i_ofNat (m := 128 + n % 64) (by omega)
      generalize UInt8.ofNat (192 + n / 64) = c0 at *
      generalize UInt8.ofNat (128 + n % 64) = c1 at *
      rw [if_neg a1, if_pos a2]
      simp only [List.cons_append, List.nil_append, List.length_cons, List.length_nil, lookT, valT]
      rw [if_neg (by omega), if_neg (by omega), if_pos (by omega), if_neg (by omega), if_pos (by omega)]
      simp only [runT]
      rw [if_neg (by omega)]
      exact ⟨rfl, by show (b2i c0 - 192) * 64 + b2i c1 - 128 = _; omega⟩
    · by_cases a3 : (n : Int) < 65536
      · have h0 := b2i_ofNat (m := 224 + n / 4096) (by omega)
        have h1 := b2i_ofNat (m := 128 + n / 64 % 64) (by omega)
        have h2 := b2i_ofNat (m := 128 + n % 64) (by omega)
        generalize UInt8.ofNat (224 + n / 4096) = c0 at *
        generalize UInt8.ofNat (128 + n / 64 % 64) = c1 at *
        generalize UInt8.ofNat (128 + n % 64) = c2 at *
        rw [if_neg a1, if_neg a2, if_pos a3]
        simp only [List.cons_append, List.nil_append, List.length_cons, List.length_nil]
        refine ⟨?_, ?_⟩
        · simp only [lookT, runT]
          rw [if_neg (by omega), if_neg (by omega), if_neg (by omega)]
          by_cases b1 : b2i c0 = 224
          · rw [if_pos b1, if_neg (by omega), if_neg (by omega)]
          · rw [if_neg b1]
            by_cases b2 : b2i c0 = 237
            · rw [if_pos b2, if_neg (by omega), if_neg (by omega)]
            · rw [if_neg b2, if_pos (by omega), if_neg (by omega), if_neg (by omega)]
        · simp only [valT]
          rw [if_neg (by omega), if_neg (by omega), if_pos (by omega)]
          show ((b2i c0 - 224) * 64 + b2i c1 - 128) * 64 + b2i c2 - 128 = _
          omega
      · have h0 := b2i_ofNat (m := 240 + n / 262144) (by omega)
        have h1 := b2i_ofNat (m := 128 + n / 4096 % 64) (by omega)
        have h2 := b2i_ofNat (m := 128 + n / 64 % 64) (by omega)
        have h3 := b2i_ofNat (m := 128 + n % 64) (by omega)
        generalize UInt8.ofNat (240 + n / 262144) = c0 at *
        generalize UInt8.ofNat (128 + n / 4096 % 64) = c1 at *
        generalize UInt8.ofNat (128 + n / 64 % 64) = c2 at *
        generalize UInt8.ofNat (128 + n % 64) = c3 at *
        rw [if_neg a1, if_neg a2, if_neg a3]
        simp only [List.cons_append, List.nil_append, List.length_cons, List.length_nil]
        refine ⟨?_, ?_⟩
        · simp only [lookT, runT]
          rw [if_neg (by omega), if_neg (by omega), if_neg (by omega), if_neg (by omega), if_neg (by omega), if_neg (by omega)]
          by_cases b1 : b2i c0 = 240
          · rw [if_pos b1, if_neg (by omega), if_neg (by omega), if_neg (by omega)]
          · rw [if_neg b1]
            by_cases b2 : b2i c0 < 244
            · rw [if_pos b2, if_neg (by omega), if_neg (by omega), if_neg (by omega)]
            · rw [if_neg b2, if_pos (by omega), if_neg (by omega), if_neg (by omega), if_neg (by omega)]
        · simp only [valT]
          rw [if_neg (by omega), if_neg (by omega), if_neg (by omega)]
          show (((b2i c0 - 240) * 64 + b2i c1 - 128) * 64 + b2i c2 - 128) * 64 + b2i c3 - 128 = _
          omega
theorem piece_chB {c : Int} (hc : goodC c) (r : List UInt8) : pieceT (chB c ++ r) = ((chB c).length, c, true) := by
  obtain ⟨h1, h2⟩ := look_chB hc r
  unfold pieceT
  rw [h1]
  simp only [if_true, h2]
theorem chB_ne (c : Int) (r : List UInt8) : chB c ++ r ≠ [] := by
  have := (chB_len c).1
  intro h; have := congrArg List.length h; rw [List.length_append, List.length_nil] at this; omega
theorem runesT_encL : ∀ (L : List Int) (r : List UInt8), (∀ x ∈ L, goodC x) → runesT (encL L ++ r) = L ++ runesT r
  | [], r, _ => rfl
  | c :: L, r, h => by
    have hc := h c List.mem_cons_self
    rw [encL_cons, fixR_id hc, List.append_assoc, runesT_cons (chB_ne c _), piece_chB hc, List.drop_left, runesT_encL L r (fun x hx => h x (List.mem_cons_of_mem _ hx))]
    rfl
theorem faultT_encL : ∀ (L : List Int) (r : List UInt8) (i : Nat), (∀ x ∈ L, goodC x) → faultT (encL L ++ r) i = faultT r (i + (encL L).length)
  | [], r, i, _ => rfl
  | c :: L, r, i, h => by
    have hc := h c List.mem_cons_self
    rw [encL_cons, fixR_id hc, List.append_assoc, faultT_cons (chB_ne c _), piece_chB hc, (look_chB hc _).1, if_pos rfl, List.drop_left, faultT_encL L r _ (fun x hx => h x (List.mem_cons_of_mem _ hx)), List.length_append, Nat.add_assoc]
/-- bytes that do not begin within a character -/
def freshT (b : List UInt8) : Prop := ∀ x r, b = x :: r → b2i x < 128 ∨ 191 < b2i x
theorem runT_join (b : List UInt8) (hb : freshT b) : ∀ (need : Nat) (lo hi : Int) (t : List UInt8) (n : Nat), 128 ≤ lo → hi ≤ 191 → runT need lo hi (t ++ b) n = runT need lo hi t n
  | 0, _, _, t, n, _, _ => by simp [runT]
  | need + 1, lo, hi, [], n, h1, h2 => by
    cases b with
    | nil => rfl
    | cons x r =>
      have := hb x r rfl
      simp only [List.nil_append, runT]
      rw [if_pos (by omega)]
  | need + 1, lo, hi, c :: t, n, h1, h2 => by
    simp only [List.cons_append, runT]
    rw [runT_join b hb need 128 191 t (n + 1) (by omega) (by omega)]
theorem accT_app (b : List UInt8) : ∀ (n : Nat) (v : Int) (t : List UInt8), n ≤ t.length → accT n v (t ++ b) = accT n v t
  | 0, v, t, _ => by cases t <;> cases b <;> rfl
  | n + 1, v, [], h => by simp at h
  | n + 1, v, c :: t, h => by
    simp only [List.cons_append, accT]
    exact accT_app b n _ t (by simpa using h)
theorem valT_app (n : Nat) {t : List UInt8} (b : List UInt8) (ht : t ≠ []) (h : n ≤ t.length) : valT n (t ++ b) = valT n t := by
  cases t with
  | nil => exact absurd rfl ht
  | cons c t =>
    simp only [List.cons_append, valT]
    rw [accT_app b _ _ t (by simp only [List.length_cons] at h; omega)]
theorem piece_of_look {t b : List UInt8} (ht : t ≠ []) (h : lookT (t ++ b) = lookT t) : pieceT (t ++ b) = pieceT t := by
  unfold pieceT
  rw [h, valT_app _ b ht (look_len t).1]
theorem look_join {t b : List UInt8} (ht : t ≠ []) (hb : freshT b) : lookT (t ++ b) = lookT t := by
  cases t with
  | nil => exact absurd rfl ht
  | cons c t =>
    simp only [List.cons_append, lookT]
    rw [runT_join b hb 1 128 191 t 1 (by omega) (by omega), runT_join b hb 2 160 191 t 1 (by omega) (by omega), runT_join b hb 2 128 159 t 1 (by omega) (by omega), runT_join b hb 2 128 191 t 1 (by omega) (by omega), runT_join b hb 3 144 191 t 1 (by omega) (by omega), runT_join b hb 3 128 191 t 1 (by omega) (by omega), runT_join b hb 3 128 143 t 1 (by omega) (by omega)]
theorem app_ne {α : Type} {t b : List α} (h : t ≠ []) : t ++ b ≠ [] := fun h' => h (List.append_eq_nil_iff.1 h').1
/-- where no piece reaches over the seam -/
theorem runesT_seam (b : List UInt8) : ∀ (n : Nat) (t : List UInt8), t.length ≤ n → (∀ i, i < t.length → lookT (t.drop i ++ b) = lookT (t.drop i)) → runesT (t ++ b) = runesT t ++ runesT b
  | 0, t, h, _ => by
    have : t = [] := List.length_eq_zero_iff.1 (by omega)
    subst this; rw [runesT_nil]; rfl
  | n + 1, t, h, hs => by
    by_cases ht : t = []
    · subst ht; rw [runesT_nil]; rfl
    · have hp := piece_len ht
      have h0 := hs 0 (by omega)
      rw [List.drop_zero] at h0
      rw [runesT_cons ht, runesT_cons (app_ne ht), piece_of_look ht h0, List.drop_append_of_le_length hp.2.1, runesT_seam b n (t.drop (pieceT t).1) (by rw [List.length_drop]; omega) (fun i hi => by rw [List.drop_drop]; exact hs _ (by rw [List.length_drop] at hi; omega))]
      rfl
theorem runesT_join {b : List UInt8} (hb : freshT b) (t : List UInt8) : runesT (t ++ b) = runesT t ++ runesT b :=
  runesT_seam b _ t (Nat.le_refl _) (fun i hi => look_join (drop_ne hi) hb)
end Go.Proofs.YtcmfgjiemjlogaaDoor
