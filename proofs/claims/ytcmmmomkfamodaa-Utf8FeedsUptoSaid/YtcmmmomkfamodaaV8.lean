/- utf8, plain: the pieces that bytes fall into. -/
import Derived.Test.YtcmmmomkfamodaaU8P
import Derived.Lib.TrimUEq
namespace Go.Proofs.Ytcmmmomkfamodaa
open Go.Av
set_option linter.unusedVariables false
/-- need more bytes, the first of them in lo..hi -/
def runT : Nat → Int → Int → List UInt8 → Nat → Nat × Bool
  | 0, _, _, _, n => (n, true)
  | _ + 1, _, _, [], n => (n, false)
  | need + 1, lo, hi, c :: t, n => if b2i c < lo ∨ hi < b2i c then (n, false) else runT need 128 191 t (n + 1)
/-- how many of the bytes belong together, and whether they are whole -/
def lookT : List UInt8 → Nat × Bool
  | [] => (0, false)
  | c :: t =>
    if b2i c < 128 then (1, true) else if b2i c < 194 then (0, false) else if b2i c < 224 then runT 1 128 191 t 1
    else if b2i c = 224 then runT 2 160 191 t 1 else if b2i c = 237 then runT 2 128 159 t 1
    else if b2i c < 240 then runT 2 128 191 t 1 else if b2i c = 240 then runT 3 144 191 t 1
    else if b2i c < 244 then runT 3 128 191 t 1 else if b2i c = 244 then runT 3 128 143 t 1 else (0, false)
theorem look_loop (b : List UInt8) (i m : Nat) (l h : UInt8) (hl : b.length ≤ 4194304) : ∀ (need n k : Nat) (lo hi : UInt8), n + need = m + 1 → need < k → i + n ≤ b.length →
    utf8_look_L24 ((m : Int), l, h) i b k lo hi n = some (let r := runT need (b2i lo) (b2i hi) (b.drop (i + n)) n; if r.2 then Sum.inr (r.1 : Int) else Sum.inl ((r.1 : Int), false))
  | need, n, 0, lo, hi, _, h, _ => by omega
  | 0, n, k + 1, lo, hi, hn, _, hi' => by
    simp only [utf8_look_L24, decide_eq_true_eq, runT]
    rw [if_neg (by omega)]; rfl
  | need + 1, n, k + 1, lo, hi, hn, hk, hi' => by
    simp only [utf8_look_L24, decide_eq_true_eq]
    rw [if_pos (by omega), iadd64 (by omega) (by omega), iadd64 (by omega) (by omega)]
    by_cases he : i + n = b.length
    · rw [if_pos (by omega), List.drop_eq_nil_of_le (by omega)]
      simp [runT]
    · have hlt : i + n < b.length := by omega
      rw [if_neg (by omega), ← Int.natCast_add, ixL_in hlt, drop_step hlt, ← Int.natCast_add_one, look_loop b i m l h hl need (n + 1) k _ _ (by omega) (by omega) (by omega)]
      simp only [Option.bind_some, runT, ← Nat.add_assoc]
      have e1 : b2i (bC 128) = 128 := rfl
      have e2 : b2i (bC 191) = 191 := rfl
      rw [e1, e2]
      by_cases h1 : b2i b[i + n] < b2i lo
      · simp [h1]
      · by_cases h2 : b2i hi < b2i b[i + n]
        · simp [h1, h2]
        · simp [h1, h2]
theorem look_eq (b : List UInt8) (i : Nat) (hl : b.length ≤ 4194304) (hi : i < b.length) : utf8_look b i = some (((lookT (b.drop i)).1 : Int), (lookT (b.drop i)).2) := by
  have e : ∀ n : Nat, n < 256 → b2i (bC n) = (n : Int) := fun n h => by rw [b2i_bC]; omega
  unfold utf8_look
  rw [ixL_in hi, drop_step hi]
  have L : ∀ (m : Nat) (l h : UInt8), m < 4 → utf8_look_L24 ((m : Int), l, h) i b 1099511627776 l h 1 = _ := fun m l h hm => look_loop b i m l h hl m 1 1099511627776 l h (by omega) (by omega) (by omega)
  have q : ∀ (m : Nat) (l h : UInt8), m < 4 → ((utf8_look_L24 ((m : Int), l, h) i b 1099511627776 l h 1).bind fun o31 => match o31 with
    | Sum.inl r => some r
    | Sum.inr j32 =>
      some (j32, true)) = some (((runT m (b2i l) (b2i h) (b.drop (i + 1)) 1).1 : Int), (runT m (b2i l) (b2i h) (b.drop (i + 1)) 1).2) := fun m l h hm => by
    rw [L m l h hm]
    generalize runT m (b2i l) (b2i h) (b.drop (i + 1)) 1 = r
    obtain ⟨a, c⟩ := r
    cases c <;> rfl
  have q1 := fun l h => q 1 l h (by decide)
  have q2 := fun l h => q 2 l h (by decide)
  have q3 := fun l h => q 3 l h (by decide)
  simp only [Int.natCast_one, show ((2 : Nat) : Int) = 2 from rfl, show ((3 : Nat) : Int) = 3 from rfl] at q1 q2 q3
  simp only [Option.bind_some, lookT, e 128 (by decide), e 194 (by decide), e 224 (by decide), e 237 (by decide), e 240 (by decide), e 244 (by decide), decide_eq_true_eq]
  generalize hc : b2i b[i] = x
  have e1 : ∀ (n : Nat), ((n : Nat) : Int) = n := fun _ => rfl
  simp only [show ((128 : Nat) : Int) = 128 from rfl, show ((194 : Nat) : Int) = 194 from rfl, show ((224 : Nat) : Int) = 224 from rfl, show ((237 : Nat) : Int) = 237 from rfl, show ((240 : Nat) : Int) = 240 from rfl, show ((244 : Nat) : Int) = 244 from rfl]
  (repeat' split) <;> simp only [Option.bind_some] <;> first | rfl | exact q1 _ _ | exact q2 _ _ | exact q3 _ _
/-- the value of n more bytes behind v -/
def accT : Nat → Int → List UInt8 → Int
  | 0, v, _ => v
  | _ + 1, v, [] => v
  | n + 1, v, c :: t => accT n (v * 64 + b2i c - 128) t
def valT (n : Nat) : List UInt8 → Int
  | [] => 0
  | c :: t => accT (n - 1) (b2i c - if b2i c < 128 then 0 else if b2i c < 224 then 192 else if b2i c < 240 then 224 else 240) t
/-- a piece: its length, its character, whether it is whole -/
def pieceT (t : List UInt8) : Nat × Int × Bool := if (lookT t).2 then ((lookT t).1, valT (lookT t).1 t, true) else (max (lookT t).1 1, 65533, false)
def sizeT (x : Int) : Nat × Int := if x < 128 then (1, x) else if x < 192 then (0, 0) else if x < 224 then (2, x - 192) else if x < 240 then (3, x - 224) else if x < 248 then (4, x - 240) else (0, 0)
theorem size_eq (c : UInt8) : ref08_size c = some (((sizeT (b2i c)).1 : Int), (sizeT (b2i c)).2) := by
  have e : ∀ n : Nat, n < 256 → b2i (bC n) = (n : Int) := fun n h => by rw [b2i_bC]; omega
  have h0 := b2i_nonneg c
  have h1 := b2i_lt c
  unfold ref08_size sizeT
  simp only [e 128 (by decide), e 192 (by decide), e 224 (by decide), e 240 (by decide), e 248 (by decide), decide_eq_true_eq]
  generalize b2i c = x at h0 h1
  rw [isub64 (by omega) (by omega), isub64 (by omega) (by omega), isub64 (by omega) (by omega)]
  by_cases a1 : x < 128
  · simp [a1]
  · by_cases a2 : x < 192
    · simp [a1, a2, show ¬ 192 ≤ x by omega, show ¬ 224 ≤ x by omega, show ¬ 240 ≤ x by omega]
    · by_cases a3 : x < 224
      · simp [a1, a2, a3, show 192 ≤ x by omega]
      · by_cases a4 : x < 240
        · simp [a1, a2, a3, a4, show 192 ≤ x by omega, show 224 ≤ x by omega]
        · by_cases a5 : x < 248
          · simp [a1, a2, a3, a4, a5, show 192 ≤ x by omega, show 224 ≤ x by omega, show 240 ≤ x by omega]
          · simp [a1, a2, a3, a4, a5, show 192 ≤ x by omega, show 224 ≤ x by omega, show 240 ≤ x by omega]
def contT : Nat → Int → List UInt8 → Option Int
  | 0, v, _ => some v
  | _ + 1, _, [] => none
  | n + 1, v, c :: t => if b2i c < 128 ∨ 191 < b2i c then none else contT n (v * 64 + b2i c - 128) t
def bnd : Nat → Int
  | 0 => 1125899906842624
  | n + 1 => bnd n / 64 - 1
theorem bnd_le : ∀ n, bnd n ≤ 1125899906842624
  | 0 => by simp [bnd]
  | n + 1 => by have := bnd_le n; simp only [bnd]; omega
theorem begins_loop (b : List UInt8) (i kk : Nat) (hl : b.length ≤ 4194304) (hk : i + kk ≤ b.length) : ∀ (n j k : Nat) (v : Int), j + n = kk → n < k → 0 ≤ v → v ≤ bnd n →
    ref08_begins_L26 (kk : Int) b (i : Int) k v (j : Int) = some (match contT n v (b.drop (i + j)) with | none => Sum.inl (false, 0, 0) | some v => Sum.inr v)
  | n, j, 0, v, _, h, _, _ => by omega
  | 0, j, k + 1, v, hj, _, _, _ => by
    simp only [ref08_begins_L26, decide_eq_true_eq, contT]
    rw [if_neg (by omega)]
  | n + 1, j, k + 1, v, hj, hk', h0, hv => by
    have hb := bnd_le n
    simp only [bnd] at hv
    have hlt : i + j < b.length := by omega
    have c0 := b2i_nonneg b[i + j]
    have c1 := b2i_lt b[i + j]
    have e1 : b2i (bC 128) = 128 := rfl
    have e2 : b2i (bC 191) = 191 := rfl
    simp only [ref08_begins_L26, decide_eq_true_eq]
    rw [if_pos (by omega), iadd64 (by omega) (by omega), iadd64 (by omega) (by omega), ← Int.natCast_add, ixL_in hlt, drop_step hlt, imul64 (by omega) (by omega)]
    simp only [Option.bind_some, contT, e1, e2]
    rw [iadd64 (by omega) (by omega), isub64 (by omega) (by omega), ← Int.natCast_add_one]
    by_cases g1 : b2i b[i + j] < 128
    · simp [g1]
    · by_cases g2 : 191 < b2i b[i + j]
      · simp [g1, g2]
      · rw [begins_loop b i kk hl hk n (j + 1) k _ (by omega) (by omega) (by omega) (by omega)]
        simp [g1, g2, Nat.add_assoc]
def hlT : Nat → Int → Int → Int × Int
  | 0, l, h => (l, h)
  | d + 1, l, h => hlT d (l * 64) (h * 64 + 63)
theorem hl_loop (v0 : Int) (s : Nat) (hs : s ≤ 4) : ∀ (d j k : Nat) (l h : Int), j + d = s → d < k → 0 ≤ l → l ≤ h → h ≤ bnd d → ref08_begins_L42 ((s : Int), v0) k l h (j : Int) = some (hlT d l h)
  | d, j, 0, l, h, _, h1, _, _, _ => by omega
  | 0, j, k + 1, l, h, hj, _, _, _, _ => by
    simp only [ref08_begins_L42, decide_eq_true_eq, hlT]
    rw [if_neg (by omega)]
  | d + 1, j, k + 1, l, h, hj, hk, h0, h1, h2 => by
    have hb := bnd_le d
    simp only [bnd] at h2
    simp only [ref08_begins_L42, decide_eq_true_eq, hlT]
    rw [if_pos (by omega), imul64 (by omega) (by omega), imul64 (by omega) (by omega), iadd64 (by omega) (by omega), iadd64 (by omega) (by omega), ← Int.natCast_add_one, hl_loop v0 s hs d (j + 1) k _ _ (by omega) (by omega) (by omega) (by omega) (by omega)]
end Go.Proofs.Ytcmmmomkfamodaa
namespace Go.Proofs.Ytcmmmomkfamodaa
open Go.Av
set_option linter.unusedVariables false
def leastT (s : Nat) : Int := if s = 2 then 128 else if s = 3 then 2048 else if s = 4 then 65536 else 0
def okT (s : Nat) (lh : Int × Int) : Bool :=
  decide (max lh.1 (leastT s) ≤ min lh.2 1114111) && !(decide (55296 ≤ max lh.1 (leastT s)) && decide (min lh.2 1114111 ≤ 57343))
def begT (t : List UInt8) (k : Nat) : Bool × Nat × Int :=
  match t with
  | [] => (false, 0, 0)
  | c :: t =>
    let s := sizeT (b2i c)
    if s.1 = 0 ∨ s.1 < k ∨ t.length + 1 < k then (false, 0, 0)
    else match contT (k - 1) s.2 t with
    | none => (false, 0, 0)
    | some v => (okT s.1 (hlT (s.1 - k) v v), s.1, v)
theorem sizeT_le (c : UInt8) : (sizeT (b2i c)).1 ≤ 4 ∧ 0 ≤ (sizeT (b2i c)).2 ∧ (sizeT (b2i c)).2 ≤ 127 := by
  have h0 := b2i_nonneg c
  have h1 := b2i_lt c
  unfold sizeT
  (repeat' split) <;> simp only <;> omega
theorem least_eq (s : Nat) : ref08_least (s : Int) = some (leastT s) := by
  unfold ref08_least leastT
  simp only [decide_eq_true_eq]
  (repeat' split) <;> first | rfl | omega
theorem bnd_step (n : Nat) : bnd (n + 1) = bnd n / 64 - 1 := rfl
theorem contT_le (B : Int) (n : Nat) : ∀ (d : Nat) (v w : Int) (t : List UInt8), bnd d = B → 0 ≤ v → v ≤ bnd (n + d) → contT n v t = some w → 0 ≤ w ∧ w ≤ B := by
  induction n with
  | zero =>
    intro d v w t hd h0 h1 h
    rw [Nat.zero_add, hd] at h1
    simp only [contT, Option.some.injEq] at h; subst h; exact ⟨h0, h1⟩
  | succ n ih =>
    intro d v w t hd h0 h1 h
    cases t with
    | nil => simp [contT] at h
    | cons c t =>
      have c0 := b2i_nonneg c
      simp only [contT] at h
      split at h
      · cases h
      · rename_i hc
        rw [show n + 1 + d = (n + d) + 1 by omega, bnd_step] at h1
        exact ih d _ w t hd (by omega) (by omega) h
theorem begins_eq (b : List UInt8) (i k : Nat) (hl : b.length ≤ 4194304) (hi : i < b.length) (h1 : 1 ≤ k) (h4 : k ≤ 4) :
    ref08_begins b i k = some ((begT (b.drop i) k).1, ((begT (b.drop i) k).2.1 : Int), (begT (b.drop i) k).2.2) := by
  have hs := sizeT_le b[i]
  have hd : (b.drop (i + 1)).length = b.length - (i + 1) := List.length_drop
  unfold ref08_begins
  rw [ixL_in hi, drop_step hi]
  simp only [Option.bind_some, size_eq, begT, decide_eq_true_eq, hd]
  generalize hz : sizeT (b2i b[i]) = z at hs
  obtain ⟨s, v0⟩ := z
  simp only at hs ⊢
  rw [iadd64 (by omega) (by omega)]
  by_cases a1 : s = 0
  · simp [a1]
  · by_cases a2 : s < k
    · simp [a1, a2]
    · by_cases a3 : b.length - (i + 1) + 1 < k
      · have : (b.length : Int) < (i : Int) + k := by omega
        simp [a1, a2, a3, this]
      · have n3 : ¬ (b.length : Int) < (i : Int) + k := by omega
        rw [if_neg (by omega), if_neg (by omega), if_neg (by omega)]
        have hb : (127 : Int) ≤ bnd 6 := by decide
        have b3 : ∀ n, n ≤ 3 → bnd 6 ≤ bnd (n + 3) := by decide
        have b30 : ∀ n, n ≤ 3 → bnd 6 ≤ bnd n := by decide
        have b33 : ∀ n, n ≤ 3 → bnd 3 ≤ bnd n := by decide
        have e := begins_loop b i k hl (by omega) (k - 1) 1 1099511627776 v0 (by omega) (by omega) hs.2.1 (by have := b30 (k - 1) (by omega); omega)
        simp only [Int.natCast_one] at e
        simp only [n3, decide_false, Option.bind_some, Bool.false_eq_true, if_false]
        rw [e]
        simp only [Option.bind_some]
        cases hc : contT (k - 1) v0 (b.drop (i + 1)) with
        | none => simp [a1, a2, a3]
        | some v =>
          have hv := contT_le (bnd 3) (k - 1) 3 v0 v _ rfl hs.2.1 (by have := b3 (k - 1) (by omega); omega) hc
          have e2 := hl_loop v0 s hs.1 (s - k) k 1099511627776 v v (by omega) (by omega) hv.1 (Int.le_refl _) (by have := b33 (s - k) (by omega); omega)
          simp only [e2, least_eq, Option.bind_some]
          unfold okT
          generalize hlT (s - k) v v = lh
          by_cases g1 : max lh.1 (leastT s) ≤ min lh.2 1114111 <;> by_cases g2 : 55296 ≤ max lh.1 (leastT s) <;> by_cases g3 : min lh.2 1114111 ≤ 57343 <;> simp only [g1, g2, g3, if_true, if_false, decide_true, decide_false, Bool.and_true, Bool.and_false, Bool.true_and, Bool.false_and, Bool.not_true, Bool.not_false]
/-- the reference's piece: the longest beginning of a character, or a whole one -/
def pieceR (t : List UInt8) : Nat → Nat → Nat × Int × Bool
  | 0, m => (m, 65533, false)
  | f + 1, m =>
    let r := begT t (4 - f)
    if r.1 = true ∧ r.2.1 = 4 - f then (4 - f, r.2.2, true) else pieceR t f (if r.1 then 4 - f else m)
theorem piece_loop (b : List UInt8) (i : Nat) (hl : b.length ≤ 4194304) (hi : i < b.length) : ∀ (f k : Nat) (m : Nat), f ≤ 4 → f < k →
    (ref08_Piece_L13 b i k (m : Int) (((5 - f : Nat) : Int))).bind (fun o17 => match o17 with
  | Sum.inl r => some r
  | Sum.inr j18 =>
    some (j18, 65533, false)) = some (((pieceR (b.drop i) f m).1 : Int), (pieceR (b.drop i) f m).2.1, (pieceR (b.drop i) f m).2.2)
  | f, 0, m, _, h => by omega
  | 0, k + 1, m, hf, hk => by
    simp only [ref08_Piece_L13, decide_eq_true_eq, pieceR]
    rw [if_neg (by omega)]; rfl
  | f + 1, k + 1, m, hf, hk => by
    simp only [ref08_Piece_L13, decide_eq_true_eq, pieceR]
    rw [if_pos (by omega), begins_eq b i _ hl hi (by omega) (by omega), iadd64 (by omega) (by omega)]
    rw [show 5 - (f + 1) = 4 - f by omega]
    generalize hr : begT (b.drop i) (4 - f) = r
    obtain ⟨x, s, v⟩ := r
    have e : (((4 - f : Nat) : Int) + 1) = ((5 - f : Nat) : Int) := by omega
    simp only [Option.bind_some, e]
    cases x
    · simpa using piece_loop b i hl hi f k m (by omega) (by omega)
    · by_cases hs : s = 4 - f
      · subst hs; simp
      · have := piece_loop b i hl hi f k (4 - f) (by omega) (by omega)
        have ns : ¬ (s : Int) = ((4 - f : Nat) : Int) := by omega
        simpa [hs, ns] using this
theorem ref_piece_eq (b : List UInt8) (i : Nat) (hl : b.length ≤ 4194304) (hi : i < b.length) : ref08_Piece b i = some (((pieceR (b.drop i) 4 1).1 : Int), (pieceR (b.drop i) 4 1).2.1, (pieceR (b.drop i) 4 1).2.2) :=
  piece_loop b i hl hi 4 1099511627776 1 (by omega) (by omega)
end Go.Proofs.Ytcmmmomkfamodaa
namespace Go.Proofs.Ytcmmmomkfamodaa
open Go.Av
set_option linter.unusedVariables false
set_option linter.unusedSimpArgs false
set_option maxHeartbeats 4000000
theorem b2i_rng (c : UInt8) : 0 ≤ b2i c ∧ b2i c < 256 := ⟨b2i_nonneg c, b2i_lt c⟩
theorem band_ok {p q r : Prop} [Decidable p] [Decidable q] [Decidable r] : (decide p && !(decide q && decide r)) = decide (p ∧ ¬ (q ∧ r)) := by
  by_cases p <;> by_cases q <;> by_cases r <;> simp_all
theorem n22 (n : Nat) : ¬ n + 1 + 1 < 2 := by omega
theorem n23 (n : Nat) : ¬ n + 1 + 1 + 1 < 2 := by omega
theorem n24 (n : Nat) : ¬ n + 1 + 1 + 1 + 1 < 2 := by omega
theorem n33 (n : Nat) : ¬ n + 1 + 1 + 1 < 3 := by omega
theorem n34 (n : Nat) : ¬ n + 1 + 1 + 1 + 1 < 3 := by omega
theorem n44 (n : Nat) : ¬ n + 1 + 1 + 1 + 1 < 4 := by omega
theorem pieceR_1 (c : UInt8) (t : List UInt8) (h : b2i c < 128) : pieceR (c :: t) 4 1 = pieceT (c :: t) := by
  have h0 := b2i_nonneg c
  have o : okT 1 (b2i c, b2i c) = true := by unfold okT leastT; rw [band_ok]; simp only [decide_eq_true_eq]; simp; omega
  simp [pieceR, pieceT, begT, lookT, valT, accT, sizeT, contT, hlT, h, o]
theorem pieceR_0 (c : UInt8) (t : List UInt8) (h : 128 ≤ b2i c) (h' : b2i c < 192 ∨ 248 ≤ b2i c) : pieceR (c :: t) 4 1 = pieceT (c :: t) := by
  have hs : sizeT (b2i c) = (0, 0) := by
    unfold sizeT
    (repeat' split) <;> first | rfl | omega
  have hl : lookT (c :: t) = (0, false) := by
    simp only [lookT]
    (repeat' split) <;> first | rfl | omega
  simp [pieceR, pieceT, begT, hs, hl]
theorem pieceR_2 (c : UInt8) (t : List UInt8) (h : 192 ≤ b2i c) (h' : b2i c < 224) : pieceR (c :: t) 4 1 = pieceT (c :: t) := by
  have hs : sizeT (b2i c) = (2, b2i c - 192) := by
    unfold sizeT
    (repeat' split) <;> first | rfl | omega
  have o1 : okT 2 ((b2i c - 192) * 64, (b2i c - 192) * 64 + 63) = decide (194 ≤ b2i c) := by
    unfold okT leastT; rw [band_ok, decide_eq_decide]; simp; omega
  by_cases h2 : b2i c < 194
  · have hl : lookT (c :: t) = (0, false) := by
      simp only [lookT]
      (repeat' split) <;> first | rfl | omega
    rcases t with _ | ⟨d, t⟩
    · simp [pieceR, pieceT, begT, contT, hlT, n22, n23, n24, n33, n34, n44, hs, hl, o1, show ¬ 194 ≤ b2i c by omega]
    · have d0 := b2i_rng d
      have o2 : b2i d ≤ 191 → okT 2 ((b2i c - 192) * 64 + b2i d - 128, (b2i c - 192) * 64 + b2i d - 128) = false := by
        intro _
        unfold okT leastT; rw [band_ok, decide_eq_false_iff_not]; simp; omega
      by_cases hd : b2i d < 128 ∨ 191 < b2i d
      · simp [pieceR, pieceT, begT, contT, hlT, n22, n23, n24, n33, n34, n44, hs, hl, o1, hd, show ¬ 194 ≤ b2i c by omega]
      · simp [pieceR, pieceT, begT, contT, hlT, n22, n23, n24, n33, n34, n44, hs, hl, o1, hd, o2 (by omega), show ¬ 194 ≤ b2i c by omega]
  · have hl : lookT (c :: t) = runT 1 128 191 t 1 := by
      simp only [lookT]
      (repeat' split) <;> first | rfl | omega
    rcases t with _ | ⟨d, t⟩
    · simp [pieceR, pieceT, begT, contT, hlT, n22, n23, n24, n33, n34, n44, hs, hl, o1, runT, show 194 ≤ b2i c by omega]
    · have d0 := b2i_rng d
      by_cases hd : b2i d < 128 ∨ 191 < b2i d
      · simp [pieceR, pieceT, begT, contT, hlT, n22, n23, n24, n33, n34, n44, hs, hl, o1, hd, runT, show 194 ≤ b2i c by omega]
      · have o2 : okT 2 ((b2i c - 192) * 64 + b2i d - 128, (b2i c - 192) * 64 + b2i d - 128) = true := by
          unfold okT leastT; rw [band_ok, decide_eq_true_iff]; simp; omega
        simp [pieceR, pieceT, begT, contT, hlT, n22, n23, n24, n33, n34, n44, hs, hl, o1, hd, o2, runT, valT, accT, h', show ¬ b2i c < 128 by omega, show 194 ≤ b2i c by omega]
theorem pieceR_3 (c : UInt8) (t : List UInt8) (h : 224 ≤ b2i c) (h' : b2i c < 240) : pieceR (c :: t) 4 1 = pieceT (c :: t) := by
  have hs : sizeT (b2i c) = (3, b2i c - 224) := by
    unfold sizeT
    (repeat' split) <;> first | rfl | omega
  have o1 : okT 3 ((b2i c - 224) * 64 * 64, ((b2i c - 224) * 64 + 63) * 64 + 63) = true := by
    unfold okT leastT; rw [band_ok, decide_eq_true_iff]; simp; omega
  obtain ⟨lo, hi, hl, hlo⟩ : ∃ lo hi : Int, lookT (c :: t) = runT 2 lo hi t 1 ∧ ((b2i c = 224 ∧ lo = 160 ∧ hi = 191) ∨ (b2i c = 237 ∧ lo = 128 ∧ hi = 159) ∨ (b2i c ≠ 224 ∧ b2i c ≠ 237 ∧ lo = 128 ∧ hi = 191)) := by
    by_cases a : b2i c = 224
    · exact ⟨160, 191, by simp [lookT, a], .inl ⟨a, rfl, rfl⟩⟩
    · by_cases b : b2i c = 237
      · exact ⟨128, 159, by simp [lookT, b], .inr (.inl ⟨b, rfl, rfl⟩)⟩
      · refine ⟨128, 191, ?_, .inr (.inr ⟨a, b, rfl, rfl⟩)⟩
        simp only [lookT]
        (repeat' split) <;> first | rfl | omega
  rcases t with _ | ⟨d, t⟩
  · simp [pieceR, pieceT, begT, contT, hlT, n22, n23, n24, n33, n34, n44, hs, hl, o1, runT]
  · have d0 := b2i_rng d
    by_cases hd : b2i d < lo ∨ hi < b2i d
    · by_cases hd' : b2i d < 128 ∨ 191 < b2i d
      · rcases t with _ | ⟨e, t⟩ <;> simp [pieceR, pieceT, begT, contT, hlT, n22, n23, n24, n33, n34, n44, hs, hl, o1, hd, hd', runT]
      · have o2 : okT 3 (((b2i c - 224) * 64 + b2i d - 128) * 64, ((b2i c - 224) * 64 + b2i d - 128) * 64 + 63) = false := by
          unfold okT leastT; rw [band_ok, decide_eq_false_iff_not]; simp; omega
        rcases t with _ | ⟨e, t⟩
        · simp [pieceR, pieceT, begT, contT, hlT, n22, n23, n24, n33, n34, n44, hs, hl, o1, o2, hd, hd', runT]
        · have e0 := b2i_rng e
          by_cases he : b2i e < 128 ∨ 191 < b2i e
          · simp [pieceR, pieceT, begT, contT, hlT, n22, n23, n24, n33, n34, n44, hs, hl, o1, o2, hd, hd', he, runT]
          · have o3 : okT 3 (((b2i c - 224) * 64 + b2i d - 128) * 64 + b2i e - 128, ((b2i c - 224) * 64 + b2i d - 128) * 64 + b2i e - 128) = false := by
              unfold okT leastT; rw [band_ok, decide_eq_false_iff_not]; simp; omega
            simp [pieceR, pieceT, begT, contT, hlT, n22, n23, n24, n33, n34, n44, hs, hl, o1, o2, o3, hd, hd', he, runT]
    · have hd' : ¬ (b2i d < 128 ∨ 191 < b2i d) := by omega
      have o2 : okT 3 (((b2i c - 224) * 64 + b2i d - 128) * 64, ((b2i c - 224) * 64 + b2i d - 128) * 64 + 63) = true := by
        unfold okT leastT; rw [band_ok, decide_eq_true_iff]; simp; omega
      rcases t with _ | ⟨e, t⟩
      · simp [pieceR, pieceT, begT, contT, hlT, n22, n23, n24, n33, n34, n44, hs, hl, o1, o2, hd, hd', runT]
      · have e0 := b2i_rng e
        by_cases he : b2i e < 128 ∨ 191 < b2i e
        · simp [pieceR, pieceT, begT, contT, hlT, n22, n23, n24, n33, n34, n44, hs, hl, o1, o2, hd, hd', he, runT]
        · have o3 : okT 3 (((b2i c - 224) * 64 + b2i d - 128) * 64 + b2i e - 128, ((b2i c - 224) * 64 + b2i d - 128) * 64 + b2i e - 128) = true := by
            unfold okT leastT; rw [band_ok, decide_eq_true_iff]; simp; omega
          simp [pieceR, pieceT, begT, contT, hlT, n22, n23, n24, n33, n34, n44, hs, hl, o1, o2, o3, hd, hd', he, runT, valT, accT, h', show ¬ b2i c < 128 by omega, show ¬ b2i c < 224 by omega]
end Go.Proofs.Ytcmmmomkfamodaa
namespace Go.Proofs.Ytcmmmomkfamodaa
open Go.Av
set_option linter.unusedVariables false
set_option linter.unusedSimpArgs false
set_option maxHeartbeats 4000000
theorem pieceR_4 (c : UInt8) (t : List UInt8) (h : 240 ≤ b2i c) (h' : b2i c < 248) : pieceR (c :: t) 4 1 = pieceT (c :: t) := by
  have hs : sizeT (b2i c) = (4, b2i c - 240) := by
    unfold sizeT
    (repeat' split) <;> first | rfl | omega
  have o1 : okT 4 ((b2i c - 240) * 64 * 64 * 64, (((b2i c - 240) * 64 + 63) * 64 + 63) * 64 + 63) = decide (b2i c ≤ 244) := by
    unfold okT leastT; rw [band_ok, decide_eq_decide]; simp; omega
  by_cases hc : b2i c ≤ 244
  · obtain ⟨lo, hi, hl, hlo⟩ : ∃ lo hi : Int, lookT (c :: t) = runT 3 lo hi t 1 ∧ ((b2i c = 240 ∧ lo = 144 ∧ hi = 191) ∨ (b2i c = 244 ∧ lo = 128 ∧ hi = 143) ∨ (b2i c ≠ 240 ∧ b2i c ≠ 244 ∧ lo = 128 ∧ hi = 191)) := by
      by_cases a : b2i c = 240
      · exact ⟨144, 191, by simp [lookT, a], .inl ⟨a, rfl, rfl⟩⟩
      · by_cases b : b2i c = 244
        · exact ⟨128, 143, by simp [lookT, b], .inr (.inl ⟨b, rfl, rfl⟩)⟩
        · refine ⟨128, 191, ?_, .inr (.inr ⟨a, b, rfl, rfl⟩)⟩
          simp only [lookT]
          (repeat' split) <;> first | rfl | omega
    rcases t with _ | ⟨d, t⟩
    · simp [pieceR, pieceT, begT, contT, hlT, n22, n23, n24, n33, n34, n44, hs, hl, o1, hc, runT]
    · have d0 := b2i_rng d
      by_cases hd : b2i d < lo ∨ hi < b2i d
      · by_cases hd' : b2i d < 128 ∨ 191 < b2i d
        · rcases t with _ | ⟨e, _ | ⟨f, t⟩⟩ <;> simp [pieceR, pieceT, begT, contT, hlT, n22, n23, n24, n33, n34, n44, hs, hl, o1, hc, hd, hd', runT]
        · have o2 : okT 4 (((b2i c - 240) * 64 + b2i d - 128) * 64 * 64, ((((b2i c - 240) * 64 + b2i d - 128) * 64 + 63) * 64 + 63)) = false := by
            unfold okT leastT; rw [band_ok, decide_eq_false_iff_not]; simp; omega
          rcases t with _ | ⟨e, t⟩
          · simp [pieceR, pieceT, begT, contT, hlT, n22, n23, n24, n33, n34, n44, hs, hl, o1, o2, hc, hd, hd', runT]
          · have e0 := b2i_rng e
            by_cases he : b2i e < 128 ∨ 191 < b2i e
            · rcases t with _ | ⟨f, t⟩ <;> simp [pieceR, pieceT, begT, contT, hlT, n22, n23, n24, n33, n34, n44, hs, hl, o1, o2, hc, hd, hd', he, runT]
            · have o3 : okT 4 ((((b2i c - 240) * 64 + b2i d - 128) * 64 + b2i e - 128) * 64, (((b2i c - 240) * 64 + b2i d - 128) * 64 + b2i e - 128) * 64 + 63) = false := by
                unfold okT leastT; rw [band_ok, decide_eq_false_iff_not]; simp; omega
              rcases t with _ | ⟨f, t⟩
              · simp [pieceR, pieceT, begT, contT, hlT, n22, n23, n24, n33, n34, n44, hs, hl, o1, o2, o3, hc, hd, hd', he, runT]
              · have f0 := b2i_rng f
                by_cases hf : b2i f < 128 ∨ 191 < b2i f
                · simp [pieceR, pieceT, begT, contT, hlT, n22, n23, n24, n33, n34, n44, hs, hl, o1, o2, o3, hc, hd, hd', he, hf, runT]
                · have o4 : okT 4 ((((b2i c - 240) * 64 + b2i d - 128) * 64 + b2i e - 128) * 64 + b2i f - 128, (((b2i c - 240) * 64 + b2i d - 128) * 64 + b2i e - 128) * 64 + b2i f - 128) = false := by
                    unfold okT leastT; rw [band_ok, decide_eq_false_iff_not]; simp; omega
                  simp [pieceR, pieceT, begT, contT, hlT, n22, n23, n24, n33, n34, n44, hs, hl, o1, o2, o3, o4, hc, hd, hd', he, hf, runT]
      · have hd' : ¬ (b2i d < 128 ∨ 191 < b2i d) := by omega
        have o2 : okT 4 (((b2i c - 240) * 64 + b2i d - 128) * 64 * 64, ((((b2i c - 240) * 64 + b2i d - 128) * 64 + 63) * 64 + 63)) = true := by
          unfold okT leastT; rw [band_ok, decide_eq_true_iff]; simp; omega
        rcases t with _ | ⟨e, t⟩
        · simp [pieceR, pieceT, begT, contT, hlT, n22, n23, n24, n33, n34, n44, hs, hl, o1, o2, hc, hd, hd', runT]
        · have e0 := b2i_rng e
          by_cases he : b2i e < 128 ∨ 191 < b2i e
          · rcases t with _ | ⟨f, t⟩ <;> simp [pieceR, pieceT, begT, contT, hlT, n22, n23, n24, n33, n34, n44, hs, hl, o1, o2, hc, hd, hd', he, runT]
          · have o3 : okT 4 ((((b2i c - 240) * 64 + b2i d - 128) * 64 + b2i e - 128) * 64, (((b2i c - 240) * 64 + b2i d - 128) * 64 + b2i e - 128) * 64 + 63) = true := by
              unfold okT leastT; rw [band_ok, decide_eq_true_iff]; simp; omega
            rcases t with _ | ⟨f, t⟩
            · simp [pieceR, pieceT, begT, contT, hlT, n22, n23, n24, n33, n34, n44, hs, hl, o1, o2, o3, hc, hd, hd', he, runT]
            · have f0 := b2i_rng f
              by_cases hf : b2i f < 128 ∨ 191 < b2i f
              · simp [pieceR, pieceT, begT, contT, hlT, n22, n23, n24, n33, n34, n44, hs, hl, o1, o2, o3, hc, hd, hd', he, hf, runT]
              · have o4 : okT 4 ((((b2i c - 240) * 64 + b2i d - 128) * 64 + b2i e - 128) * 64 + b2i f - 128, (((b2i c - 240) * 64 + b2i d - 128) * 64 + b2i e - 128) * 64 + b2i f - 128) = true := by
                  unfold okT leastT; rw [band_ok, decide_eq_true_iff]; simp; omega
                simp [pieceR, pieceT, begT, contT, hlT, n22, n23, n24, n33, n34, n44, hs, hl, o1, o2, o3, o4, hc, hd, hd', he, hf, runT, valT, accT, show ¬ b2i c < 128 by omega, show ¬ b2i c < 224 by omega, show ¬ b2i c < 240 by omega]
  · have hl : lookT (c :: t) = (0, false) := by
      simp only [lookT]
      (repeat' split) <;> first | rfl | omega
    have k2 : ∀ d : UInt8, ¬ (b2i d < 128 ∨ 191 < b2i d) → okT 4 (((b2i c - 240) * 64 + b2i d - 128) * 64 * 64, ((((b2i c - 240) * 64 + b2i d - 128) * 64 + 63) * 64 + 63)) = false := by
      intro d hd
      unfold okT leastT; rw [band_ok, decide_eq_false_iff_not]; simp; omega
    have k3 : ∀ d e : UInt8, ¬ (b2i d < 128 ∨ 191 < b2i d) → ¬ (b2i e < 128 ∨ 191 < b2i e) → okT 4 ((((b2i c - 240) * 64 + b2i d - 128) * 64 + b2i e - 128) * 64, (((b2i c - 240) * 64 + b2i d - 128) * 64 + b2i e - 128) * 64 + 63) = false := by
      intro d e hd he
      unfold okT leastT; rw [band_ok, decide_eq_false_iff_not]; simp; omega
    have k4 : ∀ d e f : UInt8, ¬ (b2i d < 128 ∨ 191 < b2i d) → ¬ (b2i e < 128 ∨ 191 < b2i e) → ¬ (b2i f < 128 ∨ 191 < b2i f) → okT 4 ((((b2i c - 240) * 64 + b2i d - 128) * 64 + b2i e - 128) * 64 + b2i f - 128, (((b2i c - 240) * 64 + b2i d - 128) * 64 + b2i e - 128) * 64 + b2i f - 128) = false := by
      intro d e f hd he hf
      unfold okT leastT; rw [band_ok, decide_eq_false_iff_not]; simp; omega
    rcases t with _ | ⟨d, t⟩
    · simp [pieceR, pieceT, begT, contT, hlT, n22, n23, n24, n33, n34, n44, hs, hl, o1, hc]
    · by_cases hd : b2i d < 128 ∨ 191 < b2i d
      · rcases t with _ | ⟨e, _ | ⟨f, t⟩⟩ <;> simp [pieceR, pieceT, begT, contT, hlT, n22, n23, n24, n33, n34, n44, hs, hl, o1, hc, hd]
      · rcases t with _ | ⟨e, t⟩
        · simp [pieceR, pieceT, begT, contT, hlT, n22, n23, n24, n33, n34, n44, hs, hl, o1, hc, hd, k2 d hd]
        · by_cases he : b2i e < 128 ∨ 191 < b2i e
          · rcases t with _ | ⟨f, t⟩ <;> simp [pieceR, pieceT, begT, contT, hlT, n22, n23, n24, n33, n34, n44, hs, hl, o1, hc, hd, k2 d hd, he]
          · rcases t with _ | ⟨f, t⟩
            · simp [pieceR, pieceT, begT, contT, hlT, n22, n23, n24, n33, n34, n44, hs, hl, o1, hc, hd, k2 d hd, he, k3 d e hd he]
            · by_cases hf : b2i f < 128 ∨ 191 < b2i f
              · simp [pieceR, pieceT, begT, contT, hlT, n22, n23, n24, n33, n34, n44, hs, hl, o1, hc, hd, k2 d hd, he, k3 d e hd he, hf]
              · simp [pieceR, pieceT, begT, contT, hlT, n22, n23, n24, n33, n34, n44, hs, hl, o1, hc, hd, k2 d hd, he, k3 d e hd he, hf, k4 d e f hd he hf]
theorem pieceR_eq (t : List UInt8) (h : t ≠ []) : pieceR t 4 1 = pieceT t := by
  rcases t with _ | ⟨c, t⟩
  · exact absurd rfl h
  · have c0 := b2i_rng c
    by_cases a : b2i c < 128
    · exact pieceR_1 c t a
    · by_cases b : b2i c < 192 ∨ 248 ≤ b2i c
      · exact pieceR_0 c t (by omega) b
      · by_cases d : b2i c < 224
        · exact pieceR_2 c t (by omega) d
        · by_cases e : b2i c < 240
          · exact pieceR_3 c t (by omega) e
          · exact pieceR_4 c t (by omega) (by omega)
end Go.Proofs.Ytcmmmomkfamodaa
namespace Go.Proofs.Ytcmmmomkfamodaa
open Go.Av
set_option linter.unusedVariables false
set_option linter.unusedSimpArgs false
theorem byte_eq {n : Nat} {c : UInt8} (h : (n : Int) = b2i c) : UInt8.ofNat n = c := by
  have := b2i_lt c
  rw [← b2i_inj]; unfold b2i; unfold b2i at h this; rw [UInt8.toNat_ofNat']; omega
theorem chB1 (c : UInt8) (h : b2i c < 128) : chB (b2i c) = [c] := by
  have c0 := b2i_nonneg c
  unfold chB; rw [if_pos (by omega), byte_eq (c := c) (by omega)]
theorem chB2 (c d : UInt8) (h : 194 ≤ b2i c) (h' : b2i c < 224) (hd : 128 ≤ b2i d) (hd' : b2i d ≤ 191) : chB ((b2i c - 192) * 64 + b2i d - 128) = [c, d] := by
  unfold chB; rw [if_neg (by omega), if_pos (by omega), byte_eq (c := c) (by omega), byte_eq (c := d) (by omega)]
theorem chB3 (c d e : UInt8) (h : 224 ≤ b2i c) (h' : b2i c < 240) (hd : 128 ≤ b2i d) (hd' : b2i d ≤ 191) (h2 : b2i c = 224 → 160 ≤ b2i d) (he : 128 ≤ b2i e) (he' : b2i e ≤ 191) : chB (((b2i c - 224) * 64 + b2i d - 128) * 64 + b2i e - 128) = [c, d, e] := by
  unfold chB; rw [if_neg (by omega), if_neg (by omega), if_pos (by omega), byte_eq (c := c) (by omega), byte_eq (c := d) (by omega), byte_eq (c := e) (by omega)]
theorem chB4 (c d e f : UInt8) (h : 240 ≤ b2i c) (h' : b2i c ≤ 244) (hd : 128 ≤ b2i d) (hd' : b2i d ≤ 191) (h2 : b2i c = 240 → 144 ≤ b2i d) (he : 128 ≤ b2i e) (he' : b2i e ≤ 191) (hf : 128 ≤ b2i f) (hf' : b2i f ≤ 191) : chB ((((b2i c - 240) * 64 + b2i d - 128) * 64 + b2i e - 128) * 64 + b2i f - 128) = [c, d, e, f] := by
  unfold chB; rw [if_neg (by omega), if_neg (by omega), if_neg (by omega), byte_eq (c := c) (by omega), byte_eq (c := d) (by omega), byte_eq (c := e) (by omega), byte_eq (c := f) (by omega)]
theorem runT_ok : ∀ (need : Nat) (lo hi : Int) (t : List UInt8) (n : Nat), (runT need lo hi t n).2 = true → (runT need lo hi t n).1 = n + need ∧ need ≤ t.length
  | 0, _, _, t, n, h => ⟨rfl, Nat.zero_le _⟩
  | need + 1, _, _, [], n, h => by simp [runT] at h
  | need + 1, lo, hi, c :: t, n, h => by
    simp only [runT] at h ⊢
    split at h
    · cases h
    · rename_i hc
      rw [if_neg hc]
      have := runT_ok need 128 191 t (n + 1) h
      simp only [List.length_cons]
      omega
theorem look_whole (t : List UInt8) (h : (lookT t).2 = true) : goodC (valT (lookT t).1 t) ∧ ∃ r, t = chB (valT (lookT t).1 t) ++ r ∧ (chB (valT (lookT t).1 t)).length = (lookT t).1 := by
  rcases t with _ | ⟨c, t⟩
  · simp [lookT] at h
  · have c0 := b2i_rng c
    by_cases a1 : b2i c < 128
    · have hl : lookT (c :: t) = (1, true) := by simp [lookT, a1]
      have hv : valT 1 (c :: t) = b2i c := by simp [valT, accT, a1]
      rw [hl]; simp only [hv, chB1 c a1]
      exact ⟨by unfold goodC; omega, t, rfl, rfl⟩
    · by_cases a2 : b2i c < 194
      · have hl : lookT (c :: t) = (0, false) := by simp [lookT, a1, a2]
        rw [hl] at h; cases h
      · by_cases a3 : b2i c < 224
        · have hl : lookT (c :: t) = runT 1 128 191 t 1 := by simp [lookT, a1, a2, a3]
          rw [hl] at h ⊢
          rcases t with _ | ⟨d, t⟩
          · simp [runT] at h
          · by_cases hd : b2i d < 128 ∨ 191 < b2i d
            · simp [runT, hd] at h
            · have hr : runT 1 128 191 (d :: t) 1 = (2, true) := by simp [runT, hd]
              have hv : valT 2 (c :: d :: t) = (b2i c - 192) * 64 + b2i d - 128 := by simp [valT, accT, a1, a3]
              rw [hr]; simp only [hv, chB2 c d (by omega) a3 (by omega) (by omega)]
              exact ⟨by unfold goodC; omega, t, rfl, rfl⟩
        · by_cases a4 : b2i c < 240
          · obtain ⟨lo, hi, hl, hlo⟩ : ∃ lo hi : Int, lookT (c :: t) = runT 2 lo hi t 1 ∧ ((b2i c = 224 ∧ lo = 160 ∧ hi = 191) ∨ (b2i c = 237 ∧ lo = 128 ∧ hi = 159) ∨ (b2i c ≠ 224 ∧ b2i c ≠ 237 ∧ lo = 128 ∧ hi = 191)) := by
              by_cases a : b2i c = 224
              · exact ⟨160, 191, by simp [lookT, a], .inl ⟨a, rfl, rfl⟩⟩
              · by_cases b : b2i c = 237
                · exact ⟨128, 159, by simp [lookT, b], .inr (.inl ⟨b, rfl, rfl⟩)⟩
                · exact ⟨128, 191, by simp [lookT, a1, a2, a3, a4, a, b], .inr (.inr ⟨a, b, rfl, rfl⟩)⟩
            rw [hl] at h ⊢
            rcases t with _ | ⟨d, t⟩
            · simp [runT] at h
            · by_cases hd : b2i d < lo ∨ hi < b2i d
              · simp [runT, hd] at h
              · rcases t with _ | ⟨e, t⟩
                · simp [runT, hd] at h
                · by_cases he : b2i e < 128 ∨ 191 < b2i e
                  · simp [runT, hd, he] at h
                  · have hr : runT 2 lo hi (d :: e :: t) 1 = (3, true) := by simp [runT, hd, he]
                    have hv : valT 3 (c :: d :: e :: t) = ((b2i c - 224) * 64 + b2i d - 128) * 64 + b2i e - 128 := by simp [valT, accT, a1, a3, a4]
                    rw [hr]; simp only [hv, chB3 c d e (by omega) a4 (by omega) (by omega) (by omega) (by omega) (by omega)]
                    exact ⟨by unfold goodC; omega, t, rfl, rfl⟩
          · by_cases a5 : b2i c ≤ 244
            · obtain ⟨lo, hi, hl, hlo⟩ : ∃ lo hi : Int, lookT (c :: t) = runT 3 lo hi t 1 ∧ ((b2i c = 240 ∧ lo = 144 ∧ hi = 191) ∨ (b2i c = 244 ∧ lo = 128 ∧ hi = 143) ∨ (b2i c ≠ 240 ∧ b2i c ≠ 244 ∧ lo = 128 ∧ hi = 191)) := by
                by_cases a : b2i c = 240
                · exact ⟨144, 191, by simp [lookT, a], .inl ⟨a, rfl, rfl⟩⟩
                · by_cases b : b2i c = 244
                  · exact ⟨128, 143, by simp [lookT, b], .inr (.inl ⟨b, rfl, rfl⟩)⟩
                  · refine ⟨128, 191, ?_, .inr (.inr ⟨a, b, rfl, rfl⟩)⟩
                    simp only [lookT]
                    (repeat' split) <;> first | rfl | omega
              rw [hl] at h ⊢
              rcases t with _ | ⟨d, t⟩
              · simp [runT] at h
              · by_cases hd : b2i d < lo ∨ hi < b2i d
                · simp [runT, hd] at h
                · rcases t with _ | ⟨e, t⟩
                  · simp [runT, hd] at h
                  · by_cases he : b2i e < 128 ∨ 191 < b2i e
                    · simp [runT, hd, he] at h
                    · rcases t with _ | ⟨f, t⟩
                      · simp [runT, hd, he] at h
                      · by_cases hf : b2i f < 128 ∨ 191 < b2i f
                        · simp [runT, hd, he, hf] at h
                        · have hr : runT 3 lo hi (d :: e :: f :: t) 1 = (4, true) := by simp [runT, hd, he, hf]
                          have hv : valT 4 (c :: d :: e :: f :: t) = (((b2i c - 240) * 64 + b2i d - 128) * 64 + b2i e - 128) * 64 + b2i f - 128 := by simp [valT, accT, a1, a3, a4]
                          rw [hr]; simp only [hv, chB4 c d e f (by omega) a5 (by omega) (by omega) (by omega) (by omega) (by omega) (by omega) (by omega)]
                          exact ⟨by unfold goodC; omega, t, rfl, rfl⟩
            · have hl : lookT (c :: t) = (0, false) := by
                simp only [lookT]
                (repeat' split) <;> first | rfl | omega
              rw [hl] at h; cases h
end Go.Proofs.Ytcmmmomkfamodaa
namespace Go.Proofs.Ytcmmmomkfamodaa
open Go.Av
set_option linter.unusedVariables false
set_option linter.unusedSimpArgs false
theorem decR_chB {s r : List UInt8} {p : Nat} {c : Int} (h : s.drop p = chB c ++ r) (hc : goodC c) : decR s p = (c.toNat, (chB c).length) := by
  have e0 := Go.Lib.decode_N ⟨s.toArray⟩ p
  have g : ∀ k, s.getD (p + k) 0 = (chB c ++ r).getD k 0 := fun k => by rw [← h, Go.Lib.getD_dropU]
  have gl : s.length - p = (chB c ++ r).length := by rw [← h, List.length_drop]
  have g0 := g 0
  simp only [Nat.add_zero] at g0
  unfold decR
  rw [e0]
  simp only [gl, g0, g]
  unfold goodC at hc
  obtain ⟨n, rfl⟩ := Int.eq_ofNat_of_zero_le hc.1
  have e : ∀ m : Nat, m < 256 → (UInt8.ofNat m).toNat = m := fun m hm => by rw [UInt8.toNat_ofNat']; omega
  unfold chB
  simp only [Int.toNat_natCast]
  by_cases a1 : (n : Int) < 128
  · simp only [a1, if_true, List.cons_append, List.nil_append, List.getD_cons_zero, List.getD_cons_succ, List.length_cons, List.length_nil]
    rw [e n (by omega)]
    unfold Go.Lib.decodeN
    rw [if_pos (by omega)]
  · by_cases a2 : (n : Int) < 2048
    · simp only [a1, a2, if_true, if_false, List.cons_append, List.nil_append, List.getD_cons_zero, List.getD_cons_succ, List.length_cons, List.length_nil]
      rw [e _ (by omega), e _ (by omega)]
      unfold Go.Lib.decodeN
      rw [if_neg (by omega), if_pos (by omega), if_pos (by omega)]
      congr 1; omega
    · by_cases a3 : (n : Int) < 65536
      · simp only [a1, a2, a3, if_true, if_false, List.cons_append, List.nil_append, List.getD_cons_zero, List.getD_cons_succ, List.length_cons, List.length_nil]
        rw [e _ (by omega), e _ (by omega), e _ (by omega)]
        unfold Go.Lib.decodeN
        rw [if_neg (by omega), if_neg (by omega), if_pos (by omega), if_pos (by omega)]
        congr 1; omega
      · simp only [a1, a2, a3, if_true, if_false, List.cons_append, List.nil_append, List.getD_cons_zero, List.getD_cons_succ, List.length_cons, List.length_nil]
        rw [e _ (by omega), e _ (by omega), e _ (by omega), e _ (by omega)]
        unfold Go.Lib.decodeN
        rw [if_neg (by omega), if_neg (by omega), if_neg (by omega), if_pos (by omega), if_pos (by omega)]
        congr 1; omega
/-- the length of a piece -/
theorem runT_le : ∀ (need : Nat) (lo hi : Int) (t : List UInt8) (n : Nat), (runT need lo hi t n).1 ≤ n + t.length ∧ n ≤ (runT need lo hi t n).1 ∧ (runT need lo hi t n).1 ≤ n + need ∧ ((runT need lo hi t n).2 = false → (runT need lo hi t n).1 < n + need)
  | 0, _, _, t, n => by simp [runT]
  | need + 1, _, _, [], n => by simp [runT]
  | need + 1, lo, hi, c :: t, n => by
    simp only [runT]
    split
    · simp only [List.length_cons]; exact ⟨by omega, by omega, by omega, fun _ => by omega⟩
    · have := runT_le need 128 191 t (n + 1)
      simp only [List.length_cons]; exact ⟨by omega, by omega, by omega, fun h => by have := this.2.2.2 h; omega⟩
theorem look_len (t : List UInt8) : (lookT t).1 ≤ t.length ∧ (lookT t).1 ≤ 4 ∧ ((lookT t).2 = true → 1 ≤ (lookT t).1) ∧ ((lookT t).2 = false → (lookT t).1 ≤ 3) := by
  rcases t with _ | ⟨c, t⟩
  · simp [lookT]
  · have r := fun need lo hi => runT_le need lo hi t 1
    simp only [lookT, List.length_cons]
    (repeat' split) <;> first
      | (simp; done)
      | (have q := r 1 128 191; exact ⟨by omega, by omega, fun _ => by omega, fun h => by have := q.2.2.2 h; omega⟩)
      | (have q := r 2 160 191; exact ⟨by omega, by omega, fun _ => by omega, fun h => by have := q.2.2.2 h; omega⟩)
      | (have q := r 2 128 159; exact ⟨by omega, by omega, fun _ => by omega, fun h => by have := q.2.2.2 h; omega⟩)
      | (have q := r 2 128 191; exact ⟨by omega, by omega, fun _ => by omega, fun h => by have := q.2.2.2 h; omega⟩)
      | (have q := r 3 144 191; exact ⟨by omega, by omega, fun _ => by omega, fun h => by have := q.2.2.2 h; omega⟩)
      | (have q := r 3 128 191; exact ⟨by omega, by omega, fun _ => by omega, fun h => by have := q.2.2.2 h; omega⟩)
      | (have q := r 3 128 143; exact ⟨by omega, by omega, fun _ => by omega, fun h => by have := q.2.2.2 h; omega⟩)
theorem piece_len {t : List UInt8} (h : t ≠ []) : 1 ≤ (pieceT t).1 ∧ (pieceT t).1 ≤ t.length ∧ (pieceT t).1 ≤ 4 := by
  have := look_len t
  have : 1 ≤ t.length := by cases t with | nil => exact absurd rfl h | cons c t => simp
  unfold pieceT
  split
  · rename_i hw; have := (look_len t).2.2.1 hw; simp only; omega
  · simp only; omega
theorem piece_good (t : List UInt8) : goodC (pieceT t).2.1 := by
  unfold pieceT
  split
  · rename_i h; exact (look_whole t h).1
  · simp [goodC]
/-- the characters of bytes -/
def runesT (t : List UInt8) : List Int :=
  if h : t = [] then [] else (pieceT t).2.1 :: runesT (t.drop (pieceT t).1)
termination_by t.length
decreasing_by have := piece_len h; rw [List.length_drop]; omega
theorem runesT_nil : runesT [] = [] := by rw [runesT]; simp
theorem runesT_cons {t : List UInt8} (h : t ≠ []) : runesT t = (pieceT t).2.1 :: runesT (t.drop (pieceT t).1) := by rw [runesT]; simp [h]
theorem drop_ne {α : Type} {b : List α} {i : Nat} (h : i < b.length) : b.drop i ≠ [] := by
  intro h'; have := congrArg List.length h'; rw [List.length_drop, List.length_nil] at this; omega
theorem encL_cons (c : Int) (l : List Int) : encL (c :: l) = chB (fixR c) ++ encL l := by simp [encL]
theorem encL_app (a b : List Int) : encL (a ++ b) = encL a ++ encL b := by simp [encL]
theorem Decode_loop (b : List UInt8) (hl : b.length ≤ 4194304) : ∀ (k i : Nat) (acc : List UInt8), i ≤ b.length → b.length - i < k → acc.length ≤ 4 * i →
    utf8_Decode_L39 b k (i : Int) acc = some (acc ++ encL (runesT (b.drop i)))
  | 0, i, acc, _, h, _ => by omega
  | k + 1, i, acc, hi, hk, ha => by
    simp only [utf8_Decode_L39, decide_eq_true_eq]
    by_cases hlt : i < b.length
    · have hne := drop_ne hlt
      have hn := piece_len hne
      have hg := piece_good (b.drop i)
      have hd := List.length_drop (i := i) (l := b)
      rw [if_pos (by omega), look_eq b i hl hlt, runesT_cons hne, encL_cons, fixR_id hg, List.drop_drop]
      have hll := look_len (b.drop i)
      rw [hd] at hll hn
      simp only [Option.bind_some]
      cases hw : (lookT (b.drop i)).2 with
      | true =>
        obtain ⟨hgv, r, hr, hrl⟩ := look_whole (b.drop i) hw
        have hp : pieceT (b.drop i) = ((lookT (b.drop i)).1, valT (lookT (b.drop i)).1 (b.drop i), true) := by unfold pieceT; rw [if_pos hw]
        rw [hw] at hll
        generalize (lookT (b.drop i)).1 = n at *
        generalize valT n (b.drop i) = v at *
        have hll1 := hll.2.2.1 rfl
        have hs : slL b (i : Int) ((i : Int) + (n : Int)) = some (chB v) := by
          rw [← Int.natCast_add, slL_nat (by omega) (by omega), List.drop_take, hr, show i + n - i = (chB v).length by omega, List.take_left]
        have hsz : szC (acc ++ chB v).length = some () := szC_ok (by rw [List.length_append]; omega)
        rw [if_pos rfl, iadd64 (by omega) (by omega), hs]
        simp only [Option.bind_some, hsz, hp]
        rw [show max (n : Int) 1 = n by omega, iadd64 (by omega) (by omega), ← Int.natCast_add, Decode_loop b hl k (i + n) _ (by omega) (by omega) (by rw [List.length_append]; omega), List.append_assoc]
      | false =>
        have hp : pieceT (b.drop i) = (max (lookT (b.drop i)).1 1, 65533, false) := by unfold pieceT; rw [hw]; rfl
        have hb : runeB 65533 = chB 65533 := runeB_chB (by simp [goodC])
        have hcl : (chB 65533).length = 3 := by decide +kernel
        rw [hp] at hn
        generalize (lookT (b.drop i)).1 = n at *
        simp only at hn
        have hsz : szC (acc ++ chB 65533).length = some () := szC_ok (by rw [List.length_append]; omega)
        rw [if_neg (by decide), hb]
        simp only [hsz, Option.bind_some, hp]
        rw [show max (n : Int) 1 = ((max n 1 : Nat) : Int) by omega, iadd64 (by omega) (by omega), ← Int.natCast_add, Decode_loop b hl k (i + max n 1) _ (by omega) (by omega) (by rw [List.length_append]; omega), List.append_assoc]
    · rw [if_neg (by omega), List.drop_eq_nil_of_le (by omega), runesT_nil]
      simp [encL]
theorem Decode_eq {b : List UInt8} (hl : b.length ≤ 4194304) : utf8_Decode b = some (encL (runesT b)) := by
  unfold utf8_Decode
  have := Decode_loop b hl 1099511627776 0 [] (by omega) (by omega) (by simp)
  simp only [Int.natCast_zero] at this
  rw [this]
  simp
end Go.Proofs.Ytcmmmomkfamodaa
