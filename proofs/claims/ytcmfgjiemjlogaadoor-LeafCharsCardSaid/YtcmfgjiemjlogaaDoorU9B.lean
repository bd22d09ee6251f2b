/- leaf, plain: bytes read and written. -/
import Derived.Test.YtcmfgjiemjlogaaDoorU9A
namespace Go.Proofs.YtcmfgjiemjlogaaDoor
open Go.Av
set_option linter.unusedVariables false
theorem dec_loop (b : List UInt8) (hl : b.length ≤ 4194304) : ∀ (k i : Nat) (l : List Int), i ≤ b.length → b.length - i < k → l.length = b.length → l.take i = (b.take i).map chT → leaf_Decode_L17 b k (i : Int) l = some (b.map chT)
  | 0, i, l, _, hk, _, _ => by omega
  | k + 1, i, l, hi, hk, hll, ht => by
    simp only [leaf_Decode_L17, decide_eq_true_eq]
    by_cases hlt : i < b.length
    · rw [if_pos (by omega), ixL_in hlt]
      simp only [Option.bind_some, Char_eq]
      rw [ixL_in (by omega)]
      simp only [Option.bind_some, Int.toNat_natCast]
      rw [iadd64 (by omega) (by omega), ← Int.natCast_add_one]
      refine dec_loop b hl k (i + 1) _ (by omega) (by omega) (by simp [hll]) ?_
      rw [List.take_add_one, List.take_add_one, List.map_append, ← ht]
      congr 1
      · exact List.take_set_of_le (Nat.le_refl _)
      · rw [List.getElem?_set_self (by omega), List.getElem?_eq_getElem hlt]; rfl
    · rw [if_neg (by omega)]
      rw [List.take_of_length_le (by omega), List.take_of_length_le (by omega)] at ht
      rw [ht]
theorem map_good (b : List UInt8) : ∀ x ∈ b.map chT, goodC x := fun x hx => by
  obtain ⟨c, _, rfl⟩ := List.mem_map.1 hx
  exact chT_good c
theorem Decode9_eq {b : List UInt8} (hl : b.length ≤ 4194304) : leaf_Decode b = some (encL (b.map chT)) := by
  unfold leaf_Decode
  have := dec_loop b hl 1099511627776 0 (List.replicate (Int.toNat (b.length : Int)) 0) (by omega) (by omega) (by simp) (by simp)
  simp only [Int.natCast_zero] at this
  rw [mkC_ok (by omega) (by omega)]
  simp only [Option.bind_some, this]
  rw [Encode_eq (by simpa using hl)]
  rfl
theorem encL_map (b : List UInt8) : encL (b.map chT) = b.flatMap fun c => chB (chT c) := by
  unfold encL
  rw [List.flatMap_map]
  congr 1
  funext c
  rw [fixR_id (chT_good c)]
theorem chB3l (c : UInt8) : (chB (chT c)).length ≤ 3 ∧ (b2i c < 128 → chB (chT c) = [c]) ∧ (128 ≤ b2i c → 2 ≤ (chB (chT c)).length) := of_decide_eq_true (all256 (p := fun c => decide ((chB (chT c)).length ≤ 3 ∧ (b2i c < 128 → chB (chT c) = [c]) ∧ (128 ≤ b2i c → 2 ≤ (chB (chT c)).length))) (by kernel_rfl) c)
theorem enc3_len : ∀ b : List UInt8, (encL (b.map chT)).length ≤ 3 * b.length ∧ b.length ≤ (encL (b.map chT)).length
  | [] => by simp [encL]
  | c :: b => by
    have h := enc3_len b
    have h3 := (chB3l c).1
    have h1 := (chB_len (chT c)).1
    rw [List.map_cons, encL_cons, fixR_id (chT_good c), List.length_append, List.length_cons]
    omega
theorem ref_dec_loop (b : List UInt8) (hl : b.length ≤ 4194304) : ∀ (k i : Nat) (acc : List UInt8), i ≤ b.length → b.length - i < k → acc.length ≤ 3 * i → ref09_Decode_L19 b k (i : Int) acc = some (acc ++ encL ((b.drop i).map chT))
  | 0, i, _, _, hk, _ => by omega
  | k + 1, i, acc, hi, hk, ha => by
    simp only [ref09_Decode_L19, decide_eq_true_eq]
    by_cases hlt : i < b.length
    · have hg := chT_good b[i]
      have h3 := (chB3l b[i]).1
      rw [if_pos (by omega), ixL_in hlt]
      simp only [Option.bind_some, ref_Char9_eq]
      rw [ref_Bytes_eq hg.1 hg.2.1]
      simp only [Option.bind_some]
      rw [szC_ok (by rw [List.length_append]; omega)]
      simp only [Option.bind_some]
      rw [iadd64 (by omega) (by omega), ← Int.natCast_add_one, ref_dec_loop b hl k (i + 1) _ (by omega) (by omega) (by rw [List.length_append]; omega), drop_step hlt, List.map_cons, encL_cons, fixR_id hg, List.append_assoc]
    · rw [if_neg (by omega), List.drop_eq_nil_of_le (by omega)]
      simp [encL]
theorem ref_Decode9_eq {b : List UInt8} (hl : b.length ≤ 4194304) : ref09_Decode b = some (encL (b.map chT)) := by
  unfold ref09_Decode
  have := ref_dec_loop b hl 1099511627776 0 [] (by omega) (by omega) (by simp)
  simp only [Int.natCast_zero, List.drop_zero, List.nil_append] at this
  rw [this]; rfl
/-- characters as bytes, if all of them have one -/
def bytesT : List Int → Option (List UInt8)
  | [] => some []
  | r :: l => match byT r with
    | none => none
    | some c => (bytesT l).map (c :: ·)
def endT (acc : List UInt8) : Option (List UInt8) → Sum (List UInt8 × Bool) (List UInt8)
  | none => Sum.inl ([], false)
  | some l => Sum.inr (acc ++ l)
theorem enc_loop (r : List Int) (hl : r.length ≤ 4194304) : ∀ (k i : Nat) (acc : List UInt8), i ≤ r.length → r.length - i < k → acc.length ≤ i → leaf_Encode_L18 r k (i : Int) acc = some (endT acc (bytesT (r.drop i)))
  | 0, i, _, _, hk, _ => by omega
  | k + 1, i, acc, hi, hk, ha => by
    simp only [leaf_Encode_L18, decide_eq_true_eq]
    by_cases hlt : i < r.length
    · rw [if_pos (by omega), ixL_in hlt]
      simp only [Option.bind_some, Byte_eq]
      rw [drop_step hlt, bytesT]
      rcases hb : byT r[i] with _ | c
      · simp [endT]
      · simp only [Bool.not_true, Bool.false_eq_true, if_false]
        rw [szC_ok (by rw [List.length_append]; simp; omega)]
        simp only [Option.bind_some]
        rw [iadd64 (by omega) (by omega), ← Int.natCast_add_one, enc_loop r hl k (i + 1) _ (by omega) (by omega) (by rw [List.length_append]; simp; omega)]
        cases bytesT (r.drop (i + 1)) <;> simp [endT]
    · rw [if_neg (by omega), List.drop_eq_nil_of_le (by omega)]
      simp [endT, bytesT]
def encT (l : List Int) : List UInt8 × Bool := match bytesT l with
  | none => ([], false)
  | some l => (l, true)
theorem Encode9_eq {s : List UInt8} (hl : s.length ≤ 4194304) : leaf_Encode s = some (encT (runesT s)) := by
  have h1 := runesT_len _ s (Nat.le_refl _)
  unfold leaf_Encode
  rw [szC_ok (by omega), Runes_eq hl]
  simp only [Option.bind_some]
  have := enc_loop (runesT s) (by omega) 1099511627776 0 [] (by omega) (by omega) (by simp)
  simp only [Int.natCast_zero, List.drop_zero] at this
  rw [this]
  unfold encT
  cases bytesT (runesT s) <;> rfl
theorem ref_enc_loop (r : List Int) (hl : r.length ≤ 4194304) (hg : ∀ x ∈ r, goodC x) : ∀ (k i : Nat) (acc : List UInt8), i ≤ r.length → r.length - i < k → acc.length ≤ i → ref09_Encode_L18 r k (i : Int) acc = some (endT acc (bytesT (r.drop i)))
  | 0, i, _, _, hk, _ => by omega
  | k + 1, i, acc, hi, hk, ha => by
    simp only [ref09_Encode_L18, decide_eq_true_eq]
    by_cases hlt : i < r.length
    · have h := hg r[i] (List.getElem_mem _)
      have e : icv .i32 .i64 r[i] = r[i] := icv_id (by unfold goodC at h; simp only [inR]; omega)
      rw [if_pos (by omega), ixL_in hlt]
      simp only [Option.bind_some, e, ref_Byte_eq]
      rw [drop_step hlt, bytesT]
      rcases hb : byT r[i] with _ | c
      · simp [endT]
      · have := b2i_nonneg c
        simp only [toB_b2i]
        rw [if_neg (by omega), szC_ok (by rw [List.length_append]; simp; omega)]
        simp only [Option.bind_some]
        rw [iadd64 (by omega) (by omega), ← Int.natCast_add_one, ref_enc_loop r hl hg k (i + 1) _ (by omega) (by omega) (by rw [List.length_append]; simp; omega)]
        cases bytesT (r.drop (i + 1)) <;> simp [endT]
    · rw [if_neg (by omega), List.drop_eq_nil_of_le (by omega)]
      simp [endT, bytesT]
theorem ref_Encode9_eq {s : List UInt8} (hl : s.length ≤ 4194304) : ref09_Encode s = some (encT (runesT s)) := by
  have h1 := runesT_len _ s (Nat.le_refl _)
  have h2 := runesT_good _ s (Nat.le_refl _)
  unfold ref09_Encode
  rw [szC_ok (by omega), ref_Runes_eq hl]
  simp only [Option.bind_some]
  have := ref_enc_loop (runesT s) (by omega) h2 1099511627776 0 [] (by omega) (by omega) (by simp)
  simp only [Int.natCast_zero, List.drop_zero] at this
  rw [this]
  unfold encT
  cases bytesT (runesT s) <;> rfl
theorem bytesT_map : ∀ b : List UInt8, bytesT (b.map chT) = some b
  | [] => rfl
  | c :: b => by rw [List.map_cons, bytesT, byT_chT, bytesT_map b]; rfl
theorem bytesT_app : ∀ a b : List Int, bytesT (a ++ b) = (bytesT a).bind fun x => (bytesT b).map (x ++ ·)
  | [], b => by simp [bytesT]
  | r :: a, b => by
    rw [List.cons_append, bytesT, bytesT, bytesT_app a b]
    rcases byT r with _ | c
    · rfl
    · dsimp only
      cases bytesT a <;> cases bytesT b <;> rfl
theorem runes_dec (b : List UInt8) : runesT (encL (b.map chT)) = b.map chT := by
  have := runesT_encL (b.map chT) [] (map_good b)
  rwa [List.append_nil, runesT_nil, List.append_nil] at this
end Go.Proofs.YtcmfgjiemjlogaaDoor
