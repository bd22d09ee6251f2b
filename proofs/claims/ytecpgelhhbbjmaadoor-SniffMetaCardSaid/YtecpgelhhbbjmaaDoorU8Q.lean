/- utf8, plain: the pieces that bytes fall into. -/
import Derived.Test.YtecpgelhhbbjmaaDoorU8P
namespace Go.Proofs.YtecpgelhhbbjmaaDoor
open Go.Av
set_option linter.unusedVariables false
/-- need more bytes, the first of them in lo..hi -/
def runT : Nat → Int → Int → List UInt8 → Nat → Nat × Bool
  | 0, _, _, _, n => (n, true)
  | _ + 1, _, _, [], n => (n, false)
  | need + 1, lo, hi, c :: t, n => if b2i c < lo ∨ hi < b2i c then (n, false) else runT need 128 191 t (n + 1)
/-- how many of the bytes belong together, and whether they are whole -/
def lookT : List UInt8 → Nat × Bool
  | [] => (0, false)
  | c :: t =>
    if b2i c < 128 then (1, true) else if b2i c < 194 then (0, false) else if b2i c < 224 then runT 1 128 191 t 1
    else if b2i c = 224 then runT 2 160 191 t 1 else if b2i c = 237 then runT 2 128 159 t 1
    else if b2i c < 240 then runT 2 128 191 t 1 else if b2i c = 240 then runT 3 144 191 t 1
    else if b2i c < 244 then runT 3 128 191 t 1 else if b2i c = 244 then runT 3 128 143 t 1 else (0, false)
theorem look_loop (b : List UInt8) (i m : Nat) (l h : UInt8) (hl : b.length ≤ 4194304) : ∀ (need n k : Nat) (lo hi : UInt8), n + need = m + 1 → need < k → i + n ≤ b.length →
    utf8_look_L24 ((m : Int), l, h) i b k lo hi n = some (let r := runT need (b2i lo) (b2i hi) (b.drop (i + n)) n; if r.2 then Sum.inr (r.1 : Int) else Sum.inl ((r.1 : Int), false))
  | need, n, 0, lo, hi, _, h, _ => by omega
  | 0, n, k + 1, lo, hi, hn, _, hi' => by
    simp only [utf8_look_L24, decide_eq_true_eq, runT]
    rw [if_neg (by omega)]; rfl
  | need + 1, n, k + 1, lo, hi, hn, hk, hi' => by
    simp only [utf8_look_L24, decide_eq_true_eq]
    rw [if_pos (by omega), iadd64 (by omega) (by omega), iadd64 (by omega) (by omega)]
    by_cases he : i + n = b.length
    · rw [if_pos (by omega), List.drop_eq_nil_of_le (by omega)]
      simp [runT]
    · have hlt : i + n < b.length := by omega
      rw [if_neg (by omega), ← Int.natCast_add, ixL_in hlt, drop_step hlt, ← Int.natCast_add_one, look_loop b i m l h hl need (n + 1) k _ _ (by omega) (by omega) (by omega)]
      simp only [Option.bind_some, runT, ← Nat.add_assoc]
      have e1 : b2i (bC 128) = 128 := rfl
      have e2 : b2i (bC 191) = 191 := rfl
      rw [e1, e2]
      by_cases h1 : b2i b[i + n] < b2i lo
      · simp [h1]
      · by_cases h2 : b2i hi < b2i b[i + n]
        · simp [h1, h2]
        · simp [h1, h2]
theorem look_eq (b : List UInt8) (i : Nat) (hl : b.length ≤ 4194304) (hi : i < b.length) : utf8_look b i = some (((lookT (b.drop i)).1 : Int), (lookT (b.drop i)).2) := by
  have e : ∀ n : Nat, n < 256 → b2i (bC n) = (n : Int) := fun n h => by rw [b2i_bC]; omega
  unfold utf8_look
  rw [ixL_in hi, drop_step hi]
  have L : ∀ (m : Nat) (l h : UInt8), m < 4 → utf8_look_L24 ((m : Int), l, h) i b 140737488355328 l h 1 = _ := fun m l h hm => look_loop b i m l h hl m 1 140737488355328 l h (by omega) (by omega) (by omega)
  have q : ∀ (m : Nat) (l h : UInt8), m < 4 → ((utf8_look_L24 ((m : Int), l, h) i b 140737488355328 l h 1).bind fun o31 => match o31 with
    | Sum.inl r => some r
    | Sum.inr j32 =>
      some (j32, true)) = some (((runT m (b2i l) (b2i h) (b.drop (i + 1)) 1).1 : Int), (runT m (b2i l) (b2i h) (b.drop (i + 1)) 1).2) := fun m l h hm => by
    rw [L m l h hm]
    generalize runT m (b2i l) (b2i h) (b.drop (i + 1)) 1 = r
    obtain ⟨a, c⟩ := r
    cases c <;> rfl
  have q1 := fun l h => q 1 l h (by decide)
  have q2 := fun l h => q 2 l h (by decide)
  have q3 := fun l h => q 3 l h (by decide)
  simp only [Int.natCast_one, show ((2 : Nat) : Int) = 2 from rfl, show ((3 : Nat) : Int) = 3 from rfl] at q1 q2 q3
  simp only [Option.bind_some, lookT, e 128 (by decide), e 194 (by decide), e 224 (by decide), e 237 (by decide), e 240 (by decide), e 244 (by decide), decide_eq_true_eq]
  generalize hc : b2i b[i] = x
  have e1 : ∀ (n : Nat), ((n : Nat) : Int) = n := fun _ => rfl
  simp only [show ((128 : Nat) : Int) = 128 from rfl, show ((194 : Nat) : Int) = 194 from rfl, show ((224 : Nat) : Int) = 224 from rfl, show ((237 : Nat) : Int) = 237 from rfl, show ((240 : Nat) : Int) = 240 from rfl, show ((244 : Nat) : Int) = 244 from rfl]
  (repeat' split) <;> simp only [Option.bind_some] <;> first | rfl | exact q1 _ _ | exact q2 _ _ | exact q3 _ _
/-- the value of n more bytes behind v -/
def accT : Nat → Int → List UInt8 → Int
  | 0, v, _ => v
  | _ + 1, v, [] => v
  | n + 1, v, c :: t => accT n (v * 64 + b2i c - 128) t
def valT (n : Nat) : List UInt8 → Int
  | [] => 0
  | c :: t => accT (n - 1) (b2i c - if b2i c < 128 then 0 else if b2i c < 224 then 192 else if b2i c < 240 then 224 else 240) t
/-- a piece: its length, its character, whether it is whole -/
def pieceT (t : List UInt8) : Nat × Int × Bool := if (lookT t).2 then ((lookT t).1, valT (lookT t).1 t, true) else (max (lookT t).1 1, 65533, false)
def sizeT (x : Int) : Nat × Int := if x < 128 then (1, x) else if x < 192 then (0, 0) else if x < 224 then (2, x - 192) else if x < 240 then (3, x - 224) else if x < 248 then (4, x - 240) else (0, 0)
theorem size_eq (c : UInt8) : ref08_size c = some (((sizeT (b2i c)).1 : Int), (sizeT (b2i c)).2) := by
  have e : ∀ n : Nat, n < 256 → b2i (bC n) = (n : Int) := fun n h => by rw [b2i_bC]; omega
  have h0 := b2i_nonneg c
  have h1 := b2i_lt c
  unfold ref08_size sizeT
  simp only [e 128 (by decide), e 192 (by decide), e 224 (by decide), e 240 (by decide), e 248 (by decide), decide_eq_true_eq]
  generalize b2i c = x at h0 h1
  rw [isub64 (by omega) (by omega), isub64 (by omega) (by omega), isub64 (by omega) (by omega)]
  by_cases a1 : x < 128
  · simp [a1]
  · by_cases a2 : x < 192
    · simp [a1, a2, show ¬ 192 ≤ x by omega, show ¬ 224 ≤ x by omega, show ¬ 240 ≤ x by omega]
    · by_cases a3 : x < 224
      · simp [a1, a2, a3, show 192 ≤ x by omega]
      · by_cases a4 : x < 240
        · simp [a1, a2, a3, a4, show 192 ≤ x by omega, show 224 ≤ x by omega]
        · by_cases a5 : x < 248
          · simp [a1, a2, a3, a4, a5, show 192 ≤ x by omega, show 224 ≤ x by omega, show 240 ≤ x by omega]
          · simp [a1, a2, a3, a4, a5, show 192 ≤ x by omega, show 224 ≤ x by omega, show 240 ≤ x by omega]
def contT : Nat → Int → List UInt8 → Option Int
  | 0, v, _ => some v
  | _ + 1, _, [] => none
  | n + 1, v, c :: t => if b2i c < 128 ∨ 191 < b2i c then none else contT n (v * 64 + b2i c - 128) t
def bnd : Nat → Int
  | 0 => 1125899906842624
  | n + 1 => bnd n / 64 - 1
theorem bnd_le : ∀ n, bnd n ≤ 1125899906842624
  | 0 => by simp [bnd]
  | n + 1 => by have := bnd_le n; simp only [bnd]; omega
theorem begins_loop (b : List UInt8) (i kk : Nat) (hl : b.length ≤ 4194304) (hk : i + kk ≤ b.length) : ∀ (n j k : Nat) (v : Int), j + n = kk → n < k → 0 ≤ v → v ≤ bnd n →
    ref08_begins_L26 (kk : Int) b (i : Int) k v (j : Int) = some (match contT n v (b.drop (i + j)) with | none => Sum.inl (false, 0, 0) | some v => Sum.inr v)
  | n, j, 0, v, _, h, _, _ => by omega
  | 0, j, k + 1, v, hj, _, _, _ => by
    simp only [ref08_begins_L26, decide_eq_true_eq, contT]
    rw [if_neg (by omega)]
  | n + 1, j, k + 1, v, hj, hk', h0, hv => by
    have hb := bnd_le n
    simp only [bnd] at hv
    have hlt : i + j < b.length := by omega
    have c0 := b2i_nonneg b[i + j]
    have c1 := b2i_lt b[i + j]
    have e1 : b2i (bC 128) = 128 := rfl
    have e2 : b2i (bC 191) = 191 := rfl
    simp only [ref08_begins_L26, decide_eq_true_eq]
    rw [if_pos (by omega), iadd64 (by omega) (by omega), iadd64 (by omega) (by omega), ← Int.natCast_add, ixL_in hlt, drop_step hlt, imul64 (by omega) (by omega)]
    simp only [Option.bind_some, contT, e1, e2]
    rw [iadd64 (by omega) (by omega), isub64 (by omega) (by omega), ← Int.natCast_add_one]
    by_cases g1 : b2i b[i + j] < 128
    · simp [g1]
    · by_cases g2 : 191 < b2i b[i + j]
      · simp [g1, g2]
      · rw [begins_loop b i kk hl hk n (j + 1) k _ (by omega) (by omega) (by omega) (by omega)]
        simp [g1, g2, Nat.add_assoc]
def hlT : Nat → Int → Int → Int × Int
  | 0, l, h => (l, h)
  | d + 1, l, h => hlT d (l * 64) (h * 64 + 63)
theorem hl_loop (v0 : Int) (s : Nat) (hs : s ≤ 4) : ∀ (d j k : Nat) (l h : Int), j + d = s → d < k → 0 ≤ l → l ≤ h → h ≤ bnd d → ref08_begins_L42 ((s : Int), v0) k l h (j : Int) = some (hlT d l h)
  | d, j, 0, l, h, _, h1, _, _, _ => by omega
  | 0, j, k + 1, l, h, hj, _, _, _, _ => by
    simp only [ref08_begins_L42, decide_eq_true_eq, hlT]
    rw [if_neg (by omega)]
  | d + 1, j, k + 1, l, h, hj, hk, h0, h1, h2 => by
    have hb := bnd_le d
    simp only [bnd] at h2
    simp only [ref08_begins_L42, decide_eq_true_eq, hlT]
    rw [if_pos (by omega), imul64 (by omega) (by omega), imul64 (by omega) (by omega), iadd64 (by omega) (by omega), iadd64 (by omega) (by omega), ← Int.natCast_add_one, hl_loop v0 s hs d (j + 1) k _ _ (by omega) (by omega) (by omega) (by omega) (by omega)]
end Go.Proofs.YtecpgelhhbbjmaaDoor
