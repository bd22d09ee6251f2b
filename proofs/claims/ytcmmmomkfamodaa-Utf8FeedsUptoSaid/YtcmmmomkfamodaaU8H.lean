/- utf8, plain: what is held back. -/
import Derived.Test.YtcmmmomkfamodaaU8J
namespace Go.Proofs.Ytcmmmomkfamodaa
open Go.Av
set_option linter.unusedVariables false
set_option linter.unusedSimpArgs false
def heldF (b : List UInt8) : Nat → Nat → Nat
  | 0, _ => 0
  | f + 1, n => if n ≤ b.length ∧ lookT (b.drop (b.length - n)) = (n, false) then n else heldF b f (n + 1)
theorem heldF_over (b : List UInt8) : ∀ (f n : Nat), b.length < n → heldF b f n = 0
  | 0, n, _ => rfl
  | f + 1, n, h => by
    simp only [heldF]
    rw [if_neg (by omega)]
    exact heldF_over b f (n + 1) (by omega)
theorem held_loop (b : List UInt8) (hl : b.length ≤ 4194304) : ∀ (f n k : Nat), f + n = 4 → 1 ≤ n → f < k →
    ((utf8_held_L14 b k (n : Int)).bind fun o20 => match o20 with
  | Sum.inl r => some r
  | Sum.inr j21 =>
    some 0) = some (heldF b f n : Int)
  | f, n, 0, _, _, h => by omega
  | 0, n, k + 1, hf, h1, hk => by
    simp only [utf8_held_L14, decide_eq_true_eq, heldF]
    rw [if_neg (by omega)]; rfl
  | f + 1, n, k + 1, hf, h1, hk => by
    simp only [utf8_held_L14, decide_eq_true_eq]
    rw [if_pos (by omega)]
    by_cases hn : n ≤ b.length
    · have e : isub .i64 (b.length : Int) (n : Int) = ((b.length - n : Nat) : Int) := by rw [isub64 (by omega) (by omega)]; omega
      simp only [Option.bind_some, e]
      rw [if_pos (by simp; omega), look_eq b _ hl (by omega), iadd64 (by omega) (by omega), ← Int.natCast_add_one]
      have ih := held_loop b hl f (n + 1) k (by omega) (by omega) (by omega)
      simp only [Option.bind_some, heldF]
      generalize lookT (b.drop (b.length - n)) = r
      obtain ⟨m, w⟩ := r
      by_cases hm : m = n
      · subst hm
        cases w with
        | false => simp [hn]
        | true => simpa using ih
      · have hm' : ¬ (m : Int) = (n : Int) := by omega
        simpa [hm, hm'] using ih
    · simp only [Option.bind_some]
      rw [if_neg (by simp; omega), heldF_over b _ n (by omega)]
      rfl
def heldT (b : List UInt8) : Nat := heldF b 3 1
theorem held_eq {b : List UInt8} (hl : b.length ≤ 4194304) : utf8_held b = some (heldT b : Int) := held_loop b hl 3 1 1099511627776 (by omega) (by omega) (by omega)
theorem heldF_ok (b : List UInt8) : ∀ (f n : Nat), f + n = 4 → 1 ≤ n →
    (heldF b f n = 0 ∧ ∀ m, n ≤ m → m ≤ 3 → m ≤ b.length → lookT (b.drop (b.length - m)) ≠ (m, false)) ∨ (1 ≤ heldF b f n ∧ heldF b f n ≤ 3 ∧ heldF b f n ≤ b.length ∧ lookT (b.drop (b.length - heldF b f n)) = (heldF b f n, false))
  | 0, n, h, _ => .inl ⟨rfl, fun m h1 h2 _ => by omega⟩
  | f + 1, n, h, h1 => by
    simp only [heldF]
    by_cases hc : n ≤ b.length ∧ lookT (b.drop (b.length - n)) = (n, false)
    · rw [if_pos hc]; exact .inr ⟨h1, by omega, hc.1, hc.2⟩
    · rw [if_neg hc]
      rcases heldF_ok b f (n + 1) (by omega) (by omega) with ⟨e, q⟩ | q
      · refine .inl ⟨e, fun m a1 a2 a3 => ?_⟩
        by_cases hm : m = n
        · subst hm; exact fun h' => hc ⟨a3, h'⟩
        · exact q m (by omega) a2 a3
      · exact .inr q
theorem held_ok (b : List UInt8) :
    (heldT b = 0 ∧ ∀ m, 1 ≤ m → m ≤ 3 → m ≤ b.length → lookT (b.drop (b.length - m)) ≠ (m, false)) ∨ (1 ≤ heldT b ∧ heldT b ≤ 3 ∧ heldT b ≤ b.length ∧ lookT (b.drop (b.length - heldT b)) = (heldT b, false)) := heldF_ok b 3 1 rfl (by omega)
theorem runT_seam (z : List UInt8) : ∀ (need : Nat) (lo hi : Int) (t : List UInt8) (n : Nat), runT need lo hi t n ≠ (n + t.length, false) → runT need lo hi (t ++ z) n = runT need lo hi t n
  | 0, _, _, t, n, _ => by simp [runT]
  | need + 1, _, _, [], n, h => absurd rfl h
  | need + 1, lo, hi, c :: t, n, h => by
    simp only [List.cons_append, runT] at h ⊢
    by_cases hc : b2i c < lo ∨ hi < b2i c
    · rw [if_pos hc, if_pos hc]
    · rw [if_neg hc] at h
      rw [if_neg hc, if_neg hc]
      exact runT_seam z need 128 191 t (n + 1) (by rw [show n + 1 + t.length = n + (c :: t).length by simp only [List.length_cons]; omega]; exact h)
theorem look_seam {t : List UInt8} (z : List UInt8) (ht : t ≠ []) (h : lookT t ≠ (t.length, false)) : lookT (t ++ z) = lookT t := by
  cases t with
  | nil => exact absurd rfl ht
  | cons c t =>
    rw [show (c :: t).length = 1 + t.length by simp only [List.length_cons]; omega] at h
    simp only [List.cons_append, lookT] at h ⊢
    (repeat' split) <;> (try rfl) <;> simp only [*, if_true, if_false] at h <;> exact runT_seam z _ _ _ t 1 h
theorem fresh_held {t : List UInt8} {n : Nat} (hn : 1 ≤ n) (h : lookT t = (n, false)) (z : List UInt8) : freshT (t ++ z) := by
  intro x r hx
  cases t with
  | nil => simp only [lookT, Prod.mk.injEq] at h; omega
  | cons c t =>
    simp only [List.cons_append, List.cons.injEq] at hx
    obtain ⟨rfl, _⟩ := hx
    by_cases a : b2i c < 128
    · exact .inl a
    · by_cases b : b2i c < 194
      · simp only [lookT] at h
        rw [if_neg a, if_pos b] at h
        simp only [Prod.mk.injEq] at h; omega
      · right; omega
/-- what is held back belongs to what follows -/
theorem held_seam (y z : List UInt8) : runesT (y ++ z) = runesT (y.take (y.length - heldT y)) ++ runesT (y.drop (y.length - heldT y) ++ z) := by
  rcases held_ok y with ⟨e, q⟩ | ⟨h1, h3, hl, hk⟩
  · rw [e, Nat.sub_zero, List.take_length, List.drop_length, List.nil_append]
    refine runesT_seam z _ y (Nat.le_refl _) (fun i hi => look_seam z (drop_ne hi) fun h => ?_)
    have hll := (look_len (y.drop i)).2.2.2 (by rw [h])
    rw [h, List.length_drop] at hll
    simp only at hll
    have := q (y.length - i) (by omega) hll (by omega)
    rw [show y.length - (y.length - i) = i by omega] at this
    rw [List.length_drop] at h
    exact this h
  · have hf := fresh_held h1 hk z
    have := runesT_join hf (y.take (y.length - heldT y))
    rw [← List.append_assoc, List.take_append_drop] at this
    exact this
theorem held_le (y : List UInt8) : heldT y ≤ 3 ∧ heldT y ≤ y.length := by
  rcases held_ok y with ⟨e, q⟩ | ⟨h1, h3, hl, hk⟩ <;> omega
end Go.Proofs.Ytcmmmomkfamodaa
