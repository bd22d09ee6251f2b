/- Utf8Pieces, plain. -/
import Derived.Test.YtcmmmomkfamodaaU8H
import Derived.Test.YtcmmmomkfamodaaLPieces
namespace Go.Proofs.Ytcmmmomkfamodaa
open Go.Av
set_option linter.unusedVariables false
set_option linter.unusedSimpArgs false
theorem iand7 (x : Int) : 0 ≤ iand .i64 x 7 ∧ iand .i64 x 7 ≤ 7 := by
  have h : (BitVec.ofInt 64 x &&& BitVec.ofInt 64 7).toNat ≤ 7 := by
    rw [BitVec.toNat_and]; exact Nat.le_trans Nat.and_le_right (by decide)
  have e : iand .i64 x 7 = IntKind.i64.wrap ((BitVec.ofInt 64 x &&& BitVec.ofInt 64 7).toNat : Int) := rfl
  rw [e, wrap64 (by omega) (by omega)]
  omega
/-- one piece, as the law tells it -/
theorem chunk_eq (y : List UInt8) (hy : y.length ≤ 4194304) :
    ((utf8_held y).bind fun r111 =>
          (slL y (isub .i64 ((List.length y : Nat) : Int) r111) ((List.length y : Nat) : Int)).bind fun s112 =>
          (szC (List.length (s112 : List (UInt8)))).bind fun _ =>
          (slL y 0 (isub .i64 ((List.length y : Nat) : Int) r111)).bind fun s114 =>
          (utf8_Decode s114).bind fun r115 =>
          some (r115, s112)) = some (encL (runesT (y.take (y.length - heldT y))), y.drop (y.length - heldT y)) := by
  have hh := held_le y
  have e : isub .i64 (y.length : Int) (heldT y : Int) = ((y.length - heldT y : Nat) : Int) := by rw [isub64 (by omega) (by omega)]; omega
  rw [held_eq hy]
  simp only [Option.bind_some, e]
  rw [slL_from (by omega), slL_to (by omega)]
  simp only [Option.bind_some]
  rw [szC_ok (by rw [List.length_drop]; omega), Decode_eq (by rw [List.length_take]; omega)]
  rfl
theorem pieces_loop (cuts : List Int) (hc : cuts.length ≤ 4194304) (E : List UInt8) (hE : E.length ≤ 4194304) : ∀ (k i : Nat) (s rest l : List UInt8), i ≤ cuts.length → cuts.length - i < k → l.length ≤ 3 → rest.length ≤ 1048576 →
    s ++ encL (runesT (l ++ rest)) = E →
    (law08_Utf8Pieces_L97 cuts k s rest (i : Int) l = some (Sum.inl true)) ∨ (∃ s' rest' l', law08_Utf8Pieces_L97 cuts k s rest (i : Int) l = some (Sum.inr (s', rest', l')) ∧ l'.length ≤ 3 ∧ rest'.length ≤ 1048576 ∧ s' ++ encL (runesT (l' ++ rest')) = E)
  | 0, i, s, rest, l, _, h, _, _, _ => by omega
  | k + 1, i, s, rest, l, hi, hk, hl, hr, hE' => by
    by_cases hlt : i < cuts.length ∧ 0 < rest.length
    · obtain ⟨c, hcx⟩ : ∃ c : Nat, (c : Int) = min (iand .i64 cuts[i] 7) (rest.length : Int) ∧ c ≤ rest.length := by
        have := iand7 cuts[i]
        exact ⟨(min (iand .i64 cuts[i] 7) (rest.length : Int)).toNat, by omega, by omega⟩
      obtain ⟨hcx, hcr⟩ := hcx
      have hy : (l ++ rest.take c).length ≤ 4194304 := by rw [List.length_append, List.length_take]; omega
      have hch := chunk_eq _ hy
      have hh := held_le (l ++ rest.take c)
      have hsm := held_seam (l ++ rest.take c) (rest.drop c)
      rw [List.append_assoc, List.take_append_drop] at hsm
      rw [hsm, encL_app, ← List.append_assoc] at hE'
      have hls := congrArg List.length hE'
      rw [List.length_append] at hls
      have hd := List.length_drop (i := (l ++ rest.take c).length - heldT (l ++ rest.take c)) (l := l ++ rest.take c)
      have z1 := szC_ok (n := l.length) (by omega)
      have z2 := szC_ok (n := (l ++ rest.take c).length) (by omega)
      simp only [law08_Utf8Pieces_L97, decide_eq_true_eq]
      rw [if_pos (show (i : Int) < (cuts.length : Int) by omega)]
      simp only [Option.bind_some]
      rw [if_pos (by simp; omega), ixL_in hlt.1]
      simp only [Option.bind_some]
      rw [← hcx, slL_to hcr]
      simp only [Option.bind_some, z1, z2]
      rw [hch]
      generalize (l ++ rest.take c).drop ((l ++ rest.take c).length - heldT (l ++ rest.take c)) = l2 at *
      generalize encL (runesT ((l ++ rest.take c).take ((l ++ rest.take c).length - heldT (l ++ rest.take c)))) = o at *
      simp only [Option.bind_some]
      rw [szC_ok (by omega), slL_from hcr, iadd64 (by omega) (by omega), ← Int.natCast_add_one]
      simp only [Option.bind_some]
      rw [if_neg (show ¬ ((l2.length : Nat) : Int) < 0 by omega), if_neg (show ¬ (3 : Int) < ((l2.length : Nat) : Int) by omega)]
      simp only [Option.bind_some]
      by_cases hbig : (100000 : Int) < ((s ++ o).length : Int)
      · left
        rw [if_pos (by simpa using hbig), if_pos hbig, if_pos (by omega)]
        have : ((l2.length : Nat) : Int) ≤ 3 := by omega
        simp [this]
      · rw [if_neg (by simpa using hbig)]
        exact pieces_loop cuts hc E hE k (i + 1) _ _ _ (by omega) (by omega) (by omega) (by rw [List.length_drop]; omega) hE'
    · right
      refine ⟨s, rest, l, ?_, hl, hr, hE'⟩
      simp only [law08_Utf8Pieces_L97, decide_eq_true_eq]
      by_cases h1 : (i : Int) < (cuts.length : Int)
      · rw [if_pos h1]
        simp only [Option.bind_some]
        rw [if_neg (show ¬ decide ((0 : Int) < (rest.length : Int)) = true by rw [decide_eq_true_eq]; omega)]
      · rw [if_neg h1]
        simp only [Option.bind_some]
        rw [if_neg (by decide)]
theorem law_Utf8Pieces (b : List UInt8) (cuts : List Int) (_hv : ∀ x ∈ b, True) (_hc : ∀ x ∈ cuts, inR .i64 x) (hb : sumM (fun _ => 1) b + 1 + (sumM (fun _ => 1) cuts + 1) ≤ 1048576) : law08_Utf8Pieces b cuts = some true := by
  rw [sum_one, sum_one] at hb
  have h2 := encL_run _ b (Nat.le_refl _)
  have hL := pieces_loop cuts (by omega) (encL (runesT b)) (by omega) 1099511627776 0 [] b [] (by omega) (by omega) (by simp) (by omega) (by simp)
  simp only [Int.natCast_zero] at hL
  unfold law08_Utf8Pieces
  rw [shown_true]
  simp only [Option.bind_some, Bool.not_true, Bool.false_eq_true, if_false]
  rcases hL with h | ⟨s, rest, l, h, hl, hr, hE⟩
  · rw [h]; rfl
  · rw [h]
    have hy : (l ++ rest).length ≤ 4194304 := by rw [List.length_append]; omega
    have hch := chunk_eq _ hy
    have hh := held_le (l ++ rest)
    have hsm := held_seam (l ++ rest) []
    rw [List.append_nil, List.append_nil] at hsm
    rw [hsm, encL_app, ← List.append_assoc] at hE
    have hls := congrArg List.length hE
    rw [List.length_append] at hls
    have hd := List.length_drop (i := (l ++ rest).length - heldT (l ++ rest)) (l := l ++ rest)
    have z1 := szC_ok (n := l.length) (by omega)
    have z2 := szC_ok (n := (l ++ rest).length) (by omega)
    simp only [Option.bind_some, z1, z2]
    rw [hch]
    generalize (l ++ rest).drop ((l ++ rest).length - heldT (l ++ rest)) = l2 at *
    generalize encL (runesT ((l ++ rest).take ((l ++ rest).length - heldT (l ++ rest)))) = o at *
    simp only [Option.bind_some]
    rw [szC_ok (by omega), Decode_eq (by omega)]
    simp only [Option.bind_some]
    rw [szC_ok (by rw [List.length_append]; omega), Decode_eq (by omega)]
    simp only [Option.bind_some]
    rw [hE]
    simp
end Go.Proofs.Ytcmmmomkfamodaa
