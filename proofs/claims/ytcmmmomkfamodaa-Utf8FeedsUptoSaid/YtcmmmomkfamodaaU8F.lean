/- utf8, plain: what is held back, by the reference: the last piece, if it begins a character's. -/
import Derived.Test.YtcmmmomkfamodaaU8H
namespace Go.Proofs.Ytcmmmomkfamodaa
open Go.Av
set_option linter.unusedVariables false
set_option linter.unusedSimpArgs false
set_option maxRecDepth 100000
/-- all of t begins a character's, and is not whole -/
def opT (t : List UInt8) : Prop := lookT t = (t.length, false)
instance (t : List UInt8) : Decidable (opT t) := inferInstanceAs (Decidable (_ = _))
theorem run_cont : ∀ (need : Nat) (lo hi : Int) (t : List UInt8) (n i : Nat), 128 ≤ lo → hi ≤ 191 → n + i < (runT need lo hi t n).1 → ∃ h : i < t.length, 128 ≤ b2i t[i] ∧ b2i t[i] ≤ 191
  | 0, lo, hi, t, n, i, _, _, h => by simp only [runT] at h; omega
  | need + 1, lo, hi, [], n, i, _, _, h => by simp only [runT] at h; omega
  | need + 1, lo, hi, c :: t, n, i, h1, h2, h => by
    simp only [runT] at h
    split at h
    · simp only at h; omega
    · rename_i hc
      cases i with
      | zero => exact ⟨by simp, by simp only [List.getElem_cons_zero]; omega⟩
      | succ i =>
        obtain ⟨a, b⟩ := run_cont need 128 191 t (n + 1) i (by omega) (by omega) (by omega)
        exact ⟨by simp only [List.length_cons]; omega, by simpa only [List.getElem_cons_succ] using b⟩
theorem look_cont {t : List UInt8} {i : Nat} (h0 : 1 ≤ i) (h : i < (lookT t).1) : ∃ h : i < t.length, 128 ≤ b2i t[i] ∧ b2i t[i] ≤ 191 := by
  cases t with
  | nil => simp [lookT] at h
  | cons c t =>
    have q : ∀ need lo hi, 128 ≤ lo → hi ≤ 191 → i < (runT need lo hi t 1).1 → ∃ h : i < (c :: t).length, 128 ≤ b2i (c :: t)[i] ∧ b2i (c :: t)[i] ≤ 191 := fun need lo hi a b d => by
      obtain ⟨j, rfl⟩ : ∃ j, i = j + 1 := ⟨i - 1, by omega⟩
      obtain ⟨a, b⟩ := run_cont need lo hi t 1 j a b (by omega)
      exact ⟨by simp only [List.length_cons]; omega, by simpa only [List.getElem_cons_succ] using b⟩
    simp only [lookT] at h
    (repeat' split at h) <;> first | (exact q _ _ _ (by decide) (by decide) h) | (simp only at h; omega)
/-- what begins with a byte below 194 is not open -/
theorem op_first {c : UInt8} {t : List UInt8} (h : opT (c :: t)) : 194 ≤ b2i c := by
  by_cases a : b2i c < 128
  · simp [opT, lookT, a] at h
  · by_cases b : b2i c < 194
    · simp [opT, lookT, a, b] at h
    · omega
theorem op_ne {t : List UInt8} (h : opT t) (hn : t ≠ []) : ∃ c r, t = c :: r ∧ 194 ≤ b2i c := by
  cases t with
  | nil => exact absurd rfl hn
  | cons c r => exact ⟨c, r, rfl, op_first h⟩
theorem op_len {t : List UInt8} (h : opT t) : t.length ≤ 3 := by
  have := (look_len t).2.2.2 (by rw [h]); rw [h] at this; exact this
/-- the rest of what is open is not -/
theorem op_drop {t : List UInt8} {i : Nat} (h1 : 1 ≤ i) (hi : i < (lookT t).1) : ¬ opT (t.drop i) := fun h => by
  obtain ⟨hl, _, hc⟩ := look_cont h1 hi
  rw [drop_step hl] at h
  have := op_first h
  omega
theorem run_pre (z : List UInt8) : ∀ (need : Nat) (lo hi : Int) (t : List UInt8) (n : Nat), runT need lo hi (t ++ z) n = (n + (t ++ z).length, false) → runT need lo hi t n = (n + t.length, false)
  | 0, lo, hi, t, n, h => by simp [runT] at h
  | need + 1, lo, hi, [], n, h => rfl
  | need + 1, lo, hi, c :: t, n, h => by
    simp only [List.cons_append, runT] at h ⊢
    by_cases hc : b2i c < lo ∨ hi < b2i c
    · rw [if_pos hc] at h; simp only [Prod.mk.injEq, List.length_cons] at h; omega
    · rw [if_neg hc] at h
      rw [if_neg hc, run_pre z need 128 191 t (n + 1) (by rw [h, Prod.mk.injEq]; exact ⟨by simp only [List.length_cons]; omega, rfl⟩), Prod.mk.injEq]
      exact ⟨by simp only [List.length_cons]; omega, rfl⟩
/-- what comes ahead in what is open is open -/
theorem op_pre {t z : List UInt8} (h : opT (t ++ z)) (ht : t ≠ []) : opT t := by
  cases t with
  | nil => exact absurd rfl ht
  | cons c t =>
    have e : (c :: t).length = 1 + t.length := by simp only [List.length_cons]; omega
    have e' : (c :: (t ++ z)).length = 1 + (t ++ z).length := by simp only [List.length_cons]; omega
    unfold opT at h ⊢
    rw [List.cons_append, e'] at h
    rw [e]
    simp only [lookT] at h ⊢
    (repeat' split) <;> simp only [*, if_true, if_false] at h <;> first | exact run_pre z _ _ _ t 1 h | (simp only [Prod.mk.injEq] at h; omega) | (simp at h; done)
/-- at most one end is open -/
theorem op_one {t : List UInt8} {m n : Nat} (hm : 1 ≤ m) (hm' : m ≤ t.length) (hn : 1 ≤ n) (hn' : n ≤ t.length) (h : opT (t.drop (t.length - m))) (h' : opT (t.drop (t.length - n))) : m ≤ n := by
  refine Nat.le_of_not_lt fun hlt => ?_
  have e : t.drop (t.length - n) = (t.drop (t.length - m)).drop (m - n) := by rw [List.drop_drop]; congr 1; omega
  rw [e] at h'
  refine op_drop (by omega) ?_ h'
  rw [h, List.length_drop]; omega
/-- the end that is held back -/
theorem held_of {t : List UInt8} {m : Nat} (h1 : 1 ≤ m) (hl : m ≤ t.length) (h : opT (t.drop (t.length - m))) : heldT t = m := by
  have hd : (t.drop (t.length - m)).length = m := by rw [List.length_drop]; omega
  have h3 := op_len h
  rw [hd] at h3
  rcases held_ok t with ⟨e, q⟩ | ⟨a1, a3, al, ak⟩
  · exact absurd (show lookT (t.drop (t.length - m)) = (m, false) by have := h; unfold opT at this; rw [hd] at this; exact this) (q m h1 h3 hl)
  · have hk : opT (t.drop (t.length - heldT t)) := by unfold opT; rw [ak, List.length_drop, show t.length - (t.length - heldT t) = heldT t by omega]
    exact Nat.le_antisymm (op_one a1 al h1 hl hk h) (op_one h1 hl a1 al h hk)
theorem held_none {t : List UInt8} (h : ∀ m, 1 ≤ m → m ≤ t.length → ¬ opT (t.drop (t.length - m))) : heldT t = 0 := by
  rcases held_ok t with ⟨e, q⟩ | ⟨a1, a3, al, ak⟩
  · exact e
  · exact absurd (by unfold opT; rw [ak, List.length_drop, show t.length - (t.length - heldT t) = heldT t by omega]) (h _ a1 al)
theorem held_op {t : List UInt8} (h : 1 ≤ heldT t) : opT (t.drop (t.length - heldT t)) := by
  rcases held_ok t with ⟨e, q⟩ | ⟨a1, a3, al, ak⟩
  · omega
  · unfold opT; rw [ak, List.length_drop, show t.length - (t.length - heldT t) = heldT t by omega]
theorem drop_both (p c x : List UInt8) (m : Nat) (h : m ≤ (c ++ x).length) : (p ++ c ++ x).drop ((p ++ c ++ x).length - m) = (c ++ x).drop ((c ++ x).length - m) := by
  have e1 : (p ++ c ++ x).length - m = p.length + ((c ++ x).length - m) := by simp only [List.length_append] at h ⊢; omega
  rw [e1, List.append_assoc, ← List.drop_drop, List.drop_left]
/-- what is held of a whole is held of what was held of its beginning, and what came since -/
theorem held_more (a x : List UInt8) : heldT (a ++ x) = heldT (a.drop (a.length - heldT a) ++ x) := by
  have hle := held_le a
  generalize hp : a.take (a.length - heldT a) = p
  generalize hc : a.drop (a.length - heldT a) = c
  have hcl : c.length = heldT a := by rw [← hc, List.length_drop]; omega
  have ha : a = p ++ c := by rw [← hp, ← hc, List.take_append_drop]
  by_cases hz : 1 ≤ heldT (a ++ x)
  · have ho := held_op hz
    have hl := held_le (a ++ x)
    by_cases hs : heldT (a ++ x) ≤ (c ++ x).length
    · refine (held_of hz hs ?_).symm
      have := drop_both p c x _ hs
      rw [← ha] at this
      rwa [this] at ho
    · exfalso
      have hal : a.length = p.length + c.length := by rw [ha, List.length_append]
      simp only [List.length_append] at hs hl ho
      have hi : a.length + x.length - heldT (a ++ x) < p.length := by omega
      have hd : (a ++ x).drop (a.length + x.length - heldT (a ++ x)) = a.drop (a.length + x.length - heldT (a ++ x)) ++ x := List.drop_append_of_le_length (by omega)
      rw [hd] at ho
      have ho' := op_pre ho (drop_ne (by omega))
      have := held_of (t := a) (m := a.length - (a.length + x.length - heldT (a ++ x))) (by omega) (by omega) (by rwa [show a.length - (a.length - (a.length + x.length - heldT (a ++ x))) = a.length + x.length - heldT (a ++ x) by omega])
      omega
  · refine (Nat.eq_zero_of_not_pos hz).trans (held_none fun m h1 hm ho => hz ?_).symm
    have hal : a.length = p.length + c.length := by rw [ha, List.length_append]
    rw [held_of (t := a ++ x) (m := m) h1 (by simp only [List.length_append] at hm ⊢; omega) ?_]
    · exact h1
    · have := drop_both p c x _ hm
      rw [← ha] at this
      rwa [this]
end Go.Proofs.Ytcmmmomkfamodaa
