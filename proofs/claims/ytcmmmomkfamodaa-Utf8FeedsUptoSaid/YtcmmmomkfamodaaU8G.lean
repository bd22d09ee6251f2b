/- utf8, plain: the reference's held. -/
import Derived.Test.YtcmmmomkfamodaaU8F
namespace Go.Proofs.Ytcmmmomkfamodaa
open Go.Av
set_option linter.unusedVariables false
set_option linter.unusedSimpArgs false
set_option maxRecDepth 100000
theorem all256h {p : UInt8 → Bool} (h : (List.range 256).all (fun n => p (UInt8.ofNat n)) = true) (c : UInt8) : p c = true := by
  have := List.all_eq_true.1 h c.toNat (List.mem_range.2 c.toNat_lt)
  rwa [UInt8.ofNat_toNat] at this
theorem beg1 (c : UInt8) : (lookT [c] = (0, false) → ¬ ((begT [c] 1).1 = true ∧ 1 < (begT [c] 1).2.1)) ∧ (lookT [c] = (1, false) → ((begT [c] 1).1 = true ∧ 1 < (begT [c] 1).2.1)) := of_decide_eq_true (all256h (p := fun c => decide ((lookT [c] = (0, false) → ¬ ((begT [c] 1).1 = true ∧ 1 < (begT [c] 1).2.1)) ∧ (lookT [c] = (1, false) → ((begT [c] 1).1 = true ∧ 1 < (begT [c] 1).2.1)))) (by kernel_rfl) c)
theorem okT_of {s : Nat} {l h m : Int} (hm : leastT s = m) (a : max l m ≤ min h 1114111) (b : ¬ (55296 ≤ max l m ∧ min h 1114111 ≤ 57343)) : okT s (l, h) = true := by
  simp only [okT, band_ok, hm, decide_eq_true_eq]; exact ⟨a, b⟩
theorem begT_at {c : UInt8} {t : List UInt8} {k s : Nat} {v w : Int} (hs : sizeT (b2i c) = (s, v)) (h0 : s ≠ 0) (hk : k ≤ s) (hl : k ≤ t.length + 1) (hc : contT (k - 1) v t = some w) : begT (c :: t) k = (okT s (hlT (s - k) w w), s, w) := by
  simp only [begT, hs]
  rw [if_neg (by omega), hc]
theorem size3 {x : Int} (h : 224 ≤ x) (h' : x < 240) : sizeT x = (3, x - 224) := by
  unfold sizeT; rw [if_neg (by omega), if_neg (by omega), if_neg (by omega), if_pos h']
theorem size4 {x : Int} (h : 240 ≤ x) (h' : x < 248) : sizeT x = (4, x - 240) := by
  unfold sizeT; rw [if_neg (by omega), if_neg (by omega), if_neg (by omega), if_neg (by omega), if_pos h']
theorem cont1 {v : Int} {d : UInt8} (h : 128 ≤ b2i d) (h' : b2i d ≤ 191) : contT 1 v [d] = some (v * 64 + b2i d - 128) := by
  simp only [contT]; rw [if_neg (by omega)]
theorem cont2 {v : Int} {d e : UInt8} (h : 128 ≤ b2i d) (h' : b2i d ≤ 191) (g : 128 ≤ b2i e) (g' : b2i e ≤ 191) : contT 2 v [d, e] = some ((v * 64 + b2i d - 128) * 64 + b2i e - 128) := by
  simp only [contT]; rw [if_neg (by omega), if_neg (by omega)]
/-- what two open bytes are -/
theorem look2 {c d : UInt8} (h : lookT [c, d] = (2, false)) : 128 ≤ b2i d ∧ b2i d ≤ 191 ∧ 224 ≤ b2i c ∧ b2i c ≤ 244 ∧ (b2i c = 224 → 160 ≤ b2i d) ∧ (b2i c = 237 → b2i d ≤ 159) ∧ (b2i c = 240 → 144 ≤ b2i d) ∧ (b2i c = 244 → b2i d ≤ 143) := by
  simp only [lookT, runT] at h
  (repeat' split at h) <;> first | (simp only [Prod.mk.injEq, reduceCtorEq, and_false, false_and] at h; done) | omega | (simp at h; done)
theorem look3 {c d e : UInt8} (h : lookT [c, d, e] = (3, false)) : 128 ≤ b2i d ∧ b2i d ≤ 191 ∧ 128 ≤ b2i e ∧ b2i e ≤ 191 ∧ 240 ≤ b2i c ∧ b2i c ≤ 244 ∧ (b2i c = 240 → 144 ≤ b2i d) ∧ (b2i c = 244 → b2i d ≤ 143) := by
  simp only [lookT] at h
  (repeat' split at h) <;> (try simp only [runT] at h) <;> (repeat' split at h) <;> first | (simp only [Prod.mk.injEq, reduceCtorEq, and_false, false_and] at h; done) | omega | (simp at h; done)
theorem beg2 {c d : UInt8} (h : lookT [c, d] = (2, false)) : (begT [c, d] 2).1 = true ∧ 2 < (begT [c, d] 2).2.1 := by
  obtain ⟨h1, h2, h3, h4, h5, h6, h7, h8⟩ := look2 h
  by_cases a : b2i c < 240
  · rw [begT_at (size3 h3 a) (by decide) (by decide) (by simp) (cont1 h1 h2)]
    refine ⟨?_, by simp⟩
    show okT 3 (_ * 64, _ * 64 + 63) = true
    exact okT_of (m := 2048) rfl (by omega) (by omega)
  · rw [begT_at (size4 (by omega) (by omega)) (by decide) (by decide) (by simp) (cont1 h1 h2)]
    refine ⟨?_, by simp⟩
    show okT 4 (_ * 64 * 64, (_ * 64 + 63) * 64 + 63) = true
    exact okT_of (m := 65536) rfl (by omega) (by omega)
theorem beg3 {c d e : UInt8} (h : lookT [c, d, e] = (3, false)) : (begT [c, d, e] 3).1 = true ∧ 3 < (begT [c, d, e] 3).2.1 := by
  obtain ⟨h1, h2, g1, g2, h3, h4, h5, h6⟩ := look3 h
  rw [begT_at (size4 h3 (by omega)) (by decide) (by decide) (by simp) (cont2 h1 h2 g1 g2)]
  refine ⟨?_, by simp⟩
  show okT 4 (_ * 64, _ * 64 + 63) = true
  exact okT_of (m := 65536) rfl (by omega) (by omega)
theorem beg_op {t : List UInt8} (h : opT t) (hn : t ≠ []) : (begT t t.length).1 = true ∧ t.length < (begT t t.length).2.1 := by
  have hl := op_len h
  match t, hn, hl, h with
  | [c], _, _, h => exact (beg1 c).2 h
  | [c, d], _, _, h => exact beg2 h
  | [c, d, e], _, _, h => exact beg3 h
  | _ :: _ :: _ :: _ :: _, _, hl, _ => simp only [List.length_cons] at hl; omega
/-- the reference's held -/
def rheldT (t : List UInt8) : Nat :=
  if h : t = [] then 0 else if opT t then t.length else rheldT (t.drop (pieceT t).1)
termination_by t.length
decreasing_by have := piece_len h; rw [List.length_drop]; omega
theorem rheldT_nil : rheldT [] = 0 := by rw [rheldT]; simp
theorem rheldT_cons {t : List UInt8} (h : t ≠ []) : rheldT t = if opT t then t.length else rheldT (t.drop (pieceT t).1) := by rw [rheldT]; simp [h]
theorem rheld_eq : ∀ (n : Nat) (t : List UInt8), t.length ≤ n → rheldT t = heldT t
  | 0, t, h => by
    have : t = [] := List.eq_nil_of_length_eq_zero (by omega)
    subst this; rw [rheldT_nil]; exact (held_none fun m h1 h2 => by simp at h2; omega).symm
  | n + 1, t, h => by
    by_cases hn : t = []
    · subst hn; rw [rheldT_nil]; exact (held_none fun m h1 h2 => by simp at h2; omega).symm
    · have hp := piece_len hn
      rw [rheldT_cons hn]
      by_cases ho : opT t
      · rw [if_pos ho]
        exact (held_of (by omega) (Nat.le_refl _) (by rwa [Nat.sub_self, List.drop_zero])).symm
      · rw [if_neg ho, rheld_eq n _ (by rw [List.length_drop]; omega)]
        have hd : ∀ m, m ≤ t.length - (pieceT t).1 → (t.drop (pieceT t).1).drop ((t.drop (pieceT t).1).length - m) = t.drop (t.length - m) := fun m hm => by
          rw [List.drop_drop, List.length_drop]; congr 1; omega
        by_cases hz : 1 ≤ heldT (t.drop (pieceT t).1)
        · have hl := (held_le (t.drop (pieceT t).1)).2
          have hq := held_op hz
          rw [List.length_drop] at hl
          rw [hd _ hl] at hq
          exact (held_of hz (by omega) hq).symm
        · refine (Nat.eq_zero_of_not_pos hz).trans (held_none fun m h1 hm hq => ?_).symm
          by_cases hs : m ≤ t.length - (pieceT t).1
          · refine hz ?_
            rw [held_of h1 (by rw [List.length_drop]; exact hs) (by rw [hd _ hs]; exact hq)]
            exact h1
          · by_cases hm' : m = t.length
            · rw [hm', Nat.sub_self, List.drop_zero] at hq; exact ho hq
            · refine op_drop (i := t.length - m) (by omega) ?_ hq
              have : (pieceT t).1 = (lookT t).1 ∨ (pieceT t).1 = 1 := by
                unfold pieceT; split
                · exact .inl rfl
                · simp only; omega
              omega
theorem Held_loop (b : List UInt8) (hl : b.length ≤ 4194304) : ∀ (k i : Nat), i ≤ b.length → b.length - i < k →
    ((ref08_Held_L16 b k (i : Int)).bind fun o23 => match o23 with
  | Sum.inl r => some r
  | Sum.inr j24 => some 0) = some (rheldT (b.drop i) : Int)
  | 0, i, _, h => by omega
  | k + 1, i, hi, hk => by
    simp only [ref08_Held_L16, decide_eq_true_eq]
    by_cases hlt : i < b.length
    · have hne := drop_ne hlt
      have hn := piece_len hne
      have hlook := look_len (b.drop i)
      have hbeg := beg_op (t := b.drop i)
      have hb0 : ∀ c, b.drop i = [c] → lookT [c] = (0, false) → ¬ ((begT [c] 1).1 = true ∧ 1 < (begT [c] 1).2.1) := fun c _ => (beg1 c).1
      rw [if_pos (by omega), ref_piece_eq b i hl hlt, pieceR_eq _ hne, rheldT_cons hne]
      have ih := Held_loop b hl k (i + (pieceT (b.drop i)).1)
      rw [← List.drop_drop] at ih
      have hdl : (b.drop i).length = b.length - i := List.length_drop
      have e : iadd .i64 (i : Int) ((pieceT (b.drop i)).1 : Int) = ((i + (pieceT (b.drop i)).1 : Nat) : Int) := by rw [iadd64 (by omega) (by omega)]; omega
      simp only [Option.bind_some, e]
      have ih' := ih (by omega) (by omega)
      by_cases ho : opT (b.drop i)
      · have hf : (pieceT (b.drop i)).2.2 = false ∧ (pieceT (b.drop i)).1 = b.length - i := by
          unfold opT at ho; unfold pieceT; rw [ho]; simp only [Bool.false_eq_true, if_false, hdl]; exact ⟨trivial, by omega⟩
        rw [hf.1, if_pos ho]
        simp only [Bool.not_false, if_true, Option.bind_some]
        rw [if_pos (by simp only [decide_eq_true_eq]; omega), begins_eq b i _ hl hlt (by omega) (by omega)]
        obtain ⟨q1, q2⟩ := hbeg ho hne
        rw [hdl] at q1 q2
        simp only [Option.bind_some, hf.2, q1, if_true]
        rw [if_pos (by simp only [decide_eq_true_eq]; omega)]
        simp only [Option.bind_some, hdl]
      · rw [if_neg ho]
        cases hw : (pieceT (b.drop i)).2.2 with
        | true =>
          simp only [Bool.not_true, Bool.false_eq_true, if_false, Option.bind_some]
          exact ih'
        | false =>
          simp only [Bool.not_false, if_true, Option.bind_some]
          by_cases he : ((i + (pieceT (b.drop i)).1 : Nat) : Int) = (b.length : Int)
          · rw [if_pos (by simpa using he), begins_eq b i _ hl hlt (by omega) (by omega)]
            have hz : (lookT (b.drop i)) = (0, false) ∧ (b.drop i).length = 1 := by
              unfold opT at ho
              revert hw he ho
              unfold pieceT
              split
              · intro _ hw; simp at hw
              · rename_i hf
                intro ho _ he
                have hf : (lookT (b.drop i)).2 = false := by simpa using hf
                have : (lookT (b.drop i)).1 ≠ (b.drop i).length := fun h => ho (Prod.ext h hf)
                simp only at he
                exact ⟨Prod.ext (by simp only; omega) hf, by omega⟩
            obtain ⟨c, hc⟩ : ∃ c, b.drop i = [c] := List.length_eq_one_iff.mp hz.2
            have hp1 : (pieceT (b.drop i)).1 = 1 := by omega
            have := hb0 c hc (by rw [← hc]; exact hz.1)
            rw [hp1] at ih' ⊢
            simp only [Option.bind_some, hc] at ih' ⊢
            cases hq : (begT [c] 1).1 with
            | false =>
              simp only [Bool.false_eq_true, if_false, Option.bind_some]
              exact ih'
            | true =>
              simp only [if_true, Option.bind_some]
              rw [if_neg (by simp only [decide_eq_true_eq]; intro h; exact this ⟨hq, by omega⟩)]
              exact ih'
          · rw [if_neg (by simpa using he)]
            exact ih'
    · rw [if_neg (by omega), List.drop_eq_nil_of_le (by omega), rheldT_nil]
      rfl
theorem ref_Held_eq {b : List UInt8} (hl : b.length ≤ 4194304) : ref08_Held b = some (heldT b : Int) := by
  have := Held_loop b hl 1099511627776 0 (by omega) (by omega)
  simp only [Int.natCast_zero, List.drop_zero] at this
  unfold ref08_Held
  rw [rheld_eq _ b (Nat.le_refl _)] at this
  exact this
end Go.Proofs.Ytcmmmomkfamodaa
