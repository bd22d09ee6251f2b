/- utf8, plain: characters, faults. -/
import Derived.Test.YtcmmmomkfamodaaU8W
namespace Go.Proofs.Ytcmmmomkfamodaa
open Go.Av
set_option linter.unusedVariables false
set_option linter.unusedSimpArgs false
theorem runesT_good : ∀ (n : Nat) (t : List UInt8), t.length ≤ n → ∀ x ∈ runesT t, goodC x
  | 0, t, h, x, hx => by
    have : t = [] := List.length_eq_zero_iff.1 (by omega)
    subst this; rw [runesT_nil] at hx; cases hx
  | n + 1, t, h, x, hx => by
    by_cases ht : t = []
    · subst ht; rw [runesT_nil] at hx; cases hx
    · have hp := piece_len ht
      rw [runesT_cons ht] at hx
      rcases List.mem_cons.1 hx with rfl | hx
      · exact piece_good t
      · exact runesT_good n _ (by rw [List.length_drop]; omega) x hx
theorem Runes_loop (r : List UInt8) (hr : r.length ≤ 140737488355000) : ∀ (k p : Nat) (L acc : List Int), (∀ x ∈ L, goodC x) → r.drop p = encL L → r.length - p < k → 4 * (acc.length + L.length) ≤ 140737488355328 → utf8_Runes_L10 r k acc p = some (acc ++ L)
  | 0, p, L, acc, _, _, h, _ => by omega
  | k + 1, p, L, acc, hg, hd, hk, ha => by
    simp only [utf8_Runes_L10, decide_eq_true_eq]
    have hdl := congrArg List.length hd
    rw [List.length_drop] at hdl
    cases L with
    | nil =>
      simp only [encL, List.flatMap_nil, List.length_nil] at hdl
      rw [if_neg (by omega), List.append_nil]
    | cons c L =>
      have hc := hg c List.mem_cons_self
      rw [encL_cons, fixR_id hc] at hd
      rw [encL_cons, fixR_id hc, List.length_append] at hdl
      have hn := chB_len c
      have hz : (((c.toNat : Nat)) : Int) = c := Int.toNat_of_nonneg hc.1
      rw [if_pos (by omega), decR_chB hd hc, hz, szC_ok (by rw [List.length_append]; simp only [List.length_cons, List.length_nil] at ha ⊢; omega)]
      simp only [Option.bind_some]
      rw [Runes_loop r hr k (p + (chB c).length) L (acc ++ [c]) (fun x hx => hg x (List.mem_cons_of_mem _ hx)) (by rw [← List.drop_drop, hd, List.drop_left]) (by omega) (by rw [List.length_append]; simp only [List.length_cons, List.length_nil] at ha ⊢; omega)]
      simp
theorem Runes_eq {b : List UInt8} (hl : b.length ≤ 140737488355000) (he : (encL (runesT b)).length ≤ 140737488355000) (hr : 4 * (runesT b).length ≤ 140737488355328) : utf8_Runes b = some (runesT b) := by
  unfold utf8_Runes
  rw [Decode_eq hl he]
  simp only [Option.bind_some]
  rw [Runes_loop (encL (runesT b)) he 140737488355328 0 (runesT b) [] (runesT_good _ b (Nat.le_refl _)) rfl (by omega) (by rw [List.length_nil, Nat.zero_add]; exact hr)]
  simp
/-- where bytes first fail -/
def faultT (t : List UInt8) (i : Nat) : Nat :=
  if h : t = [] then i else if (lookT t).2 then faultT (t.drop (pieceT t).1) (i + (pieceT t).1) else i
termination_by t.length
decreasing_by have := piece_len h; rw [List.length_drop]; omega
theorem faultT_nil (i : Nat) : faultT [] i = i := by rw [faultT]; simp
theorem faultT_cons {t : List UInt8} (h : t ≠ []) (i : Nat) : faultT t i = if (lookT t).2 then faultT (t.drop (pieceT t).1) (i + (pieceT t).1) else i := by rw [faultT]; simp [h]
theorem Fault_loop (b : List UInt8) (hl : b.length ≤ 140737488355000) : ∀ (k i : Nat), i ≤ b.length → b.length - i < k →
    ((utf8_Fault_L6 b k (i : Int)).bind fun o8 => match o8 with
  | Sum.inl r => some r
  | Sum.inr j9 =>
    some (List.length b : Int)) = some (faultT (b.drop i) i : Int)
  | 0, i, _, h => by omega
  | k + 1, i, hi, hk => by
    simp only [utf8_Fault_L6, decide_eq_true_eq]
    by_cases hlt : i < b.length
    · have hne := drop_ne hlt
      have hn := piece_len hne
      rw [List.length_drop] at hn
      rw [if_pos (by omega), look_eq b i hl hlt, faultT_cons hne, List.drop_drop]
      simp only [Option.bind_some]
      cases hw : (lookT (b.drop i)).2 with
      | true =>
        have hp : (pieceT (b.drop i)).1 = (lookT (b.drop i)).1 := by unfold pieceT; rw [if_pos hw]
        rw [if_neg (by decide), if_pos rfl, ← hp, iadd64 (by omega) (by omega), ← Int.natCast_add]
        exact Fault_loop b hl k _ (by omega) (by omega)
      | false => simp
    · rw [if_neg (by omega), List.drop_eq_nil_of_le (by omega), faultT_nil]
      simp only [Option.bind_some]
      congr 1; omega
theorem Fault_eq {b : List UInt8} (hl : b.length ≤ 140737488355000) : utf8_Fault b = some (faultT b 0 : Int) := Fault_loop b hl 140737488355328 0 (by omega) (by omega)
end Go.Proofs.Ytcmmmomkfamodaa
