/- lex, plain: bytes, words, blanks. -/
import Derived.Test.YtmelgmhcamjfiaaDoorPu
import Derived.Test.YtmelgmhcamjfiaaDoorGB
import Derived.Test.YtmelgmhcamjfiaaDoorGD
import Derived.Test.YtmelgmhcamjfiaaDoorLibL
namespace Go.Proofs.YtmelgmhcamjfiaaDoor
open Go.Av
set_option linter.unusedVariables false
set_option linter.unusedSimpArgs false
set_option maxRecDepth 100000
/-- what holds of all 256 bytes, told one by one -/
theorem all256 {p : UInt8 → Bool} (h : (List.range 256).all (fun n => p (UInt8.ofNat n)) = true) (c : UInt8) : p c = true := by
  have := List.all_eq_true.1 h c.toNat (List.mem_range.2 c.toNat_lt)
  rwa [UInt8.ofNat_toNat] at this
theorem drop_step {α : Type} {l : List α} {i : Nat} (h : i < l.length) : l.drop i = l[i] :: l.drop (i + 1) := by
  rw [List.drop_eq_getElem_cons h]
def loT (c : UInt8) : UInt8 := if 65 ≤ b2i c ∧ b2i c ≤ 90 then c + bC 32 else c
/-! small letters -/
def lowT (s : List UInt8) : List UInt8 := s.map loT
theorem Lower_loop (s : List UInt8) (hl : s.length ≤ 140737488351232) : ∀ (k i : Nat) (l : List UInt8), i ≤ s.length → s.length - i < k → l = (s.take i).map loT ++ s.drop i → lex_Lower_L20 s k (i : Int) l = some (s.map loT)
  | 0, i, l, _, hk, _ => by omega
  | k + 1, i, l, hi, hk, ht => by
    simp only [lex_Lower_L20, decide_eq_true_eq]
    have hlen : ((s.take i).map loT).length = i := by simp; omega
    by_cases hlt : i < s.length
    · have hx : l[i]? = some s[i] := by
        rw [ht, List.getElem?_append_right (by omega), hlen, Nat.sub_self, drop_step hlt]; rfl
      have hnx : (s.take (i + 1)).map loT ++ s.drop (i + 1) = l.set i (loT s[i]) := by
        rw [ht, List.set_append_right _ _ (by omega), hlen, Nat.sub_self, drop_step hlt, List.set_cons_zero, List.take_add_one, List.getElem?_eq_getElem hlt, List.map_append]
        simp
      have hsame : loT s[i] = s[i] → l.set i (loT s[i]) = l := fun e => by
        rw [e]; exact (List.getElem?_eq_some_iff.1 hx).2 ▸ List.set_getElem_self _
      have ih := fun (l' : List UInt8) (e : l' = l.set i (loT s[i])) => Lower_loop s hl k (i + 1) l' (by omega) (by omega) (by rw [e, hnx])
      rw [if_pos (by omega), ixL_nat, hx]
      simp only [Option.bind_some, Int.toNat_natCast]
      have e1 : b2i (bC 65) = 65 := rfl
      have e2 : b2i (bC 90) = 90 := rfl
      rw [e1, e2, iadd64 (by omega) (by omega), ← Int.natCast_add_one]
      by_cases h : 65 ≤ b2i s[i] ∧ b2i s[i] ≤ 90
      · have hs : loT s[i] = s[i] + bC 32 := by unfold loT; rw [if_pos h]
        rw [if_pos h.1, decide_eq_true h.2]
        simp only [Option.bind_some, if_true]
        exact ih _ (by rw [hs])
      · have hs : loT s[i] = s[i] := by unfold loT; rw [if_neg h]
        by_cases h1 : 65 ≤ b2i s[i]
        · rw [if_pos h1, decide_eq_false (fun h2 => h ⟨h1, h2⟩)]
          simp only [Option.bind_some, Bool.false_eq_true, if_false]
          exact ih _ (hsame hs).symm
        · rw [if_neg h1]
          simp only [Option.bind_some, Bool.false_eq_true, if_false]
          exact ih _ (hsame hs).symm
    · rw [if_neg (by omega)]
      rw [ht, List.take_of_length_le (by omega), List.drop_eq_nil_of_le (by omega), List.append_nil]
theorem Lower_eq {s : List UInt8} (hl : s.length ≤ 140737488351232) : lex_Lower s = some (lowT s) := by
  unfold lex_Lower lowT
  rw [szC_ok (by omega)]
  have := Lower_loop s hl 140737488355328 0 s (by omega) (by omega) (by simp)
  simp only [Int.natCast_zero] at this
  simp only [Option.bind_some, this]
theorem low_alt (c : UInt8) (h : 65 ≤ b2i c ∧ b2i c ≤ 90) : (c - bC 65) + bC 97 = loT c := of_decide_eq_true (all256 (p := fun c => decide ((65 ≤ b2i c ∧ b2i c ≤ 90) → (c - bC 65) + bC 97 = loT c)) (by kernel_rfl) c) h
theorem ref_Lower_loop (s : List UInt8) (hl : s.length ≤ 140737488351232) : ∀ (k i : Nat) (l : List UInt8), i ≤ s.length → s.length - i < k → l = (s.take i).map loT ++ s.drop i → ref03_Lower_L32 k (i : Int) l = some (s.map loT)
  | 0, i, l, _, hk, _ => by omega
  | k + 1, i, l, hi, hk, ht => by
    simp only [ref03_Lower_L32, decide_eq_true_eq]
    have hlen : ((s.take i).map loT).length = i := by simp; omega
    have hll : l.length = s.length := by rw [ht, List.length_append, hlen, List.length_drop]; omega
    by_cases hlt : i < s.length
    · have hx : l[i]? = some s[i] := by
        rw [ht, List.getElem?_append_right (by omega), hlen, Nat.sub_self, drop_step hlt]; rfl
      have hnx : (s.take (i + 1)).map loT ++ s.drop (i + 1) = l.set i (loT s[i]) := by
        rw [ht, List.set_append_right _ _ (by omega), hlen, Nat.sub_self, drop_step hlt, List.set_cons_zero, List.take_add_one, List.getElem?_eq_getElem hlt, List.map_append]
        simp
      have hsame : loT s[i] = s[i] → l.set i (loT s[i]) = l := fun e => by
        rw [e]; exact (List.getElem?_eq_some_iff.1 hx).2 ▸ List.set_getElem_self _
      have ih := fun (l' : List UInt8) (e : l' = l.set i (loT s[i])) => ref_Lower_loop s hl k (i + 1) l' (by omega) (by omega) (by rw [e, hnx])
      rw [if_pos (by omega), ixL_nat, hx]
      simp only [Option.bind_some, Int.toNat_natCast]
      have e1 : b2i (bC 65) = 65 := rfl
      have e2 : b2i (bC 90) = 90 := rfl
      rw [e1, e2, iadd64 (by omega) (by omega), ← Int.natCast_add_one]
      by_cases h : 65 ≤ b2i s[i] ∧ b2i s[i] ≤ 90
      · rw [if_pos h.1, decide_eq_true h.2]
        simp only [Option.bind_some, if_true]
        exact ih _ (by rw [low_alt _ h])
      · have hs : loT s[i] = s[i] := by unfold loT; rw [if_neg h]
        by_cases h1 : 65 ≤ b2i s[i]
        · rw [if_pos h1, decide_eq_false (fun h2 => h ⟨h1, h2⟩)]
          simp only [Option.bind_some, Bool.false_eq_true, if_false]
          exact ih _ (hsame hs).symm
        · rw [if_neg h1]
          simp only [Option.bind_some, Bool.false_eq_true, if_false]
          exact ih _ (hsame hs).symm
    · rw [if_neg (by omega)]
      rw [ht, List.take_of_length_le (by omega), List.drop_eq_nil_of_le (by omega), List.append_nil]
theorem ref_Lower_eq {s : List UInt8} (hl : s.length ≤ 140737488351232) : ref03_Lower s = some (lowT s) := by
  unfold ref03_Lower lowT
  rw [szC_ok (by omega)]
  have := ref_Lower_loop s hl 140737488355328 0 s (by omega) (by omega) (by simp)
  simp only [Int.natCast_zero] at this
  simp only [Option.bind_some, this]
def sameT (a b : List UInt8) : Bool := decide (lowT a = lowT b)
theorem Same_eq {a b : List UInt8} (ha : a.length ≤ 140737488351232) (hb : b.length ≤ 140737488351232) : lex_Same a b = some (sameT a b) := by
  unfold lex_Same
  rw [Lower_eq ha, Lower_eq hb]; rfl
theorem ref_Same_eq {a b : List UInt8} (ha : a.length ≤ 140737488351232) (hb : b.length ≤ 140737488351232) : ref03_Same a b = some (sameT a b) := by
  unfold ref03_Same
  rw [ref_Lower_eq ha, ref_Lower_eq hb]; rfl
/-! blanks -/
end Go.Proofs.YtmelgmhcamjfiaaDoor
