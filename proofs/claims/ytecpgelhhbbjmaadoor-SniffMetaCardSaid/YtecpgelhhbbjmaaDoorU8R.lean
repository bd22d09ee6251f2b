/- utf8, plain: the reference's pieces. -/
import Derived.Test.YtecpgelhhbbjmaaDoorU8Q
namespace Go.Proofs.YtecpgelhhbbjmaaDoor
open Go.Av
set_option linter.unusedVariables false
def leastT (s : Nat) : Int := if s = 2 then 128 else if s = 3 then 2048 else if s = 4 then 65536 else 0
def okT (s : Nat) (lh : Int × Int) : Bool :=
  decide (max lh.1 (leastT s) ≤ min lh.2 1114111) && !(decide (55296 ≤ max lh.1 (leastT s)) && decide (min lh.2 1114111 ≤ 57343))
def begT (t : List UInt8) (k : Nat) : Bool × Nat × Int :=
  match t with
  | [] => (false, 0, 0)
  | c :: t =>
    let s := sizeT (b2i c)
    if s.1 = 0 ∨ s.1 < k ∨ t.length + 1 < k then (false, 0, 0)
    else match contT (k - 1) s.2 t with
    | none => (false, 0, 0)
    | some v => (okT s.1 (hlT (s.1 - k) v v), s.1, v)
theorem sizeT_le (c : UInt8) : (sizeT (b2i c)).1 ≤ 4 ∧ 0 ≤ (sizeT (b2i c)).2 ∧ (sizeT (b2i c)).2 ≤ 127 := by
  have h0 := b2i_nonneg c
  have h1 := b2i_lt c
  unfold sizeT
  (repeat' split) <;> simp only <;> omega
theorem least_eq (s : Nat) : ref08_least (s : Int) = some (leastT s) := by
  unfold ref08_least leastT
  simp only [decide_eq_true_eq]
  (repeat' split) <;> first | rfl | omega
theorem bnd_step (n : Nat) : bnd (n + 1) = bnd n / 64 - 1 := rfl
theorem contT_le (B : Int) (n : Nat) : ∀ (d : Nat) (v w : Int) (t : List UInt8), bnd d = B → 0 ≤ v → v ≤ bnd (n + d) → contT n v t = some w → 0 ≤ w ∧ w ≤ B := by
  induction n with
  | zero =>
    intro d v w t hd h0 h1 h
    rw [Nat.zero_add, hd] at h1
    simp only [contT, Option.some.injEq] at h; subst h; exact ⟨h0, h1⟩
  | succ n ih =>
    intro d v w t hd h0 h1 h
    cases t with
    | nil => simp [contT] at h
    | cons c t =>
      have c0 := b2i_nonneg c
      simp only [contT] at h
      split at h
      · cases h
      · rename_i hc
        rw [show n + 1 + d = (n + d) + 1 by omega, bnd_step] at h1
        exact ih d _ w t hd (by omega) (by omega) h
theorem begins_eq (b : List UInt8) (i k : Nat) (hl : b.length ≤ 4194304) (hi : i < b.length) (h1 : 1 ≤ k) (h4 : k ≤ 4) :
    ref08_begins b i k = some ((begT (b.drop i) k).1, ((begT (b.drop i) k).2.1 : Int), (begT (b.drop i) k).2.2) := by
  have hs := sizeT_le b[i]
  have hd : (b.drop (i + 1)).length = b.length - (i + 1) := List.length_drop
  unfold ref08_begins
  rw [ixL_in hi, drop_step hi]
  simp only [Option.bind_some, size_eq, begT, decide_eq_true_eq, hd]
  generalize hz : sizeT (b2i b[i]) = z at hs
  obtain ⟨s, v0⟩ := z
  simp only at hs ⊢
  rw [iadd64 (by omega) (by omega)]
  by_cases a1 : s = 0
  · simp [a1]
  · by_cases a2 : s < k
    · simp [a1, a2]
    · by_cases a3 : b.length - (i + 1) + 1 < k
      · have : (b.length : Int) < (i : Int) + k := by omega
        simp [a1, a2, a3, this]
      · have n3 : ¬ (b.length : Int) < (i : Int) + k := by omega
        rw [if_neg (by omega), if_neg (by omega), if_neg (by omega)]
        have hb : (127 : Int) ≤ bnd 6 := by decide
        have b3 : ∀ n, n ≤ 3 → bnd 6 ≤ bnd (n + 3) := by decide
        have b30 : ∀ n, n ≤ 3 → bnd 6 ≤ bnd n := by decide
        have b33 : ∀ n, n ≤ 3 → bnd 3 ≤ bnd n := by decide
        have e := begins_loop b i k hl (by omega) (k - 1) 1 140737488355328 v0 (by omega) (by omega) hs.2.1 (by have := b30 (k - 1) (by omega); omega)
        simp only [Int.natCast_one] at e
        simp only [n3, decide_false, Option.bind_some, Bool.false_eq_true, if_false]
        rw [e]
        simp only [Option.bind_some]
        cases hc : contT (k - 1) v0 (b.drop (i + 1)) with
        | none => simp [a1, a2, a3]
        | some v =>
          have hv := contT_le (bnd 3) (k - 1) 3 v0 v _ rfl hs.2.1 (by have := b3 (k - 1) (by omega); omega) hc
          have e2 := hl_loop v0 s hs.1 (s - k) k 140737488355328 v v (by omega) (by omega) hv.1 (Int.le_refl _) (by have := b33 (s - k) (by omega); omega)
          simp only [e2, least_eq, Option.bind_some]
          unfold okT
          generalize hlT (s - k) v v = lh
          by_cases g1 : max lh.1 (leastT s) ≤ min lh.2 1114111 <;> by_cases g2 : 55296 ≤ max lh.1 (leastT s) <;> by_cases g3 : min lh.2 1114111 ≤ 57343 <;> simp only [g1, g2, g3, if_true, if_false, decide_true, decide_false, Bool.and_true, Bool.and_false, Bool.true_and, Bool.false_and, Bool.not_true, Bool.not_false]
/-- the reference's piece: the longest beginning of a character, or a whole one -/
def pieceR (t : List UInt8) : Nat → Nat → Nat × Int × Bool
  | 0, m => (m, 65533, false)
  | f + 1, m =>
    let r := begT t (4 - f)
    if r.1 = true ∧ r.2.1 = 4 - f then (4 - f, r.2.2, true) else pieceR t f (if r.1 then 4 - f else m)
theorem piece_loop (b : List UInt8) (i : Nat) (hl : b.length ≤ 4194304) (hi : i < b.length) : ∀ (f k : Nat) (m : Nat), f ≤ 4 → f < k →
    (ref08_Piece_L13 b i k (m : Int) (((5 - f : Nat) : Int))).bind (fun o17 => match o17 with
  | Sum.inl r => some r
  | Sum.inr j18 =>
    some (j18, 65533, false)) = some (((pieceR (b.drop i) f m).1 : Int), (pieceR (b.drop i) f m).2.1, (pieceR (b.drop i) f m).2.2)
  | f, 0, m, _, h => by omega
  | 0, k + 1, m, hf, hk => by
    simp only [ref08_Piece_L13, decide_eq_true_eq, pieceR]
    rw [if_neg (by omega)]; rfl
  | f + 1, k + 1, m, hf, hk => by
    simp only [ref08_Piece_L13, decide_eq_true_eq, pieceR]
    rw [if_pos (by omega), begins_eq b i _ hl hi (by omega) (by omega), iadd64 (by omega) (by omega)]
    rw [show 5 - (f + 1) = 4 - f by omega]
    generalize hr : begT (b.drop i) (4 - f) = r
    obtain ⟨x, s, v⟩ := r
    have e : (((4 - f : Nat) : Int) + 1) = ((5 - f : Nat) : Int) := by omega
    simp only [Option.bind_some, e]
    cases x
    · simpa using piece_loop b i hl hi f k m (by omega) (by omega)
    · by_cases hs : s = 4 - f
      · subst hs; simp
      · have := piece_loop b i hl hi f k (4 - f) (by omega) (by omega)
        have ns : ¬ (s : Int) = ((4 - f : Nat) : Int) := by omega
        simpa [hs, ns] using this
theorem ref_piece_eq (b : List UInt8) (i : Nat) (hl : b.length ≤ 4194304) (hi : i < b.length) : ref08_Piece b i = some (((pieceR (b.drop i) 4 1).1 : Int), (pieceR (b.drop i) 4 1).2.1, (pieceR (b.drop i) 4 1).2.2) :=
  piece_loop b i hl hi 4 140737488355328 1 (by omega) (by omega)
end Go.Proofs.YtecpgelhhbbjmaaDoor
