/- A number's text: the program's and the reference's; it is read back. -/
import Derived.Test.YtfhlehkgiamejaaGreatDoorU2A
namespace Go.Proofs.YtfhlehkgiamejaaGreatDoor
open Go.Av
set_option linter.unusedVariables false
set_option linter.unusedSimpArgs false
def hexC (d : Nat) : UInt8 := UInt8.ofNat (if d < 10 then 48 + d else 87 + d)
def txt (b u : Nat) : List UInt8 :=
  if h : u < b ∨ b < 2 then [hexC u] else txt b (u / b) ++ [hexC (u % b)]
termination_by u
decreasing_by
  have h1 : b ≤ u := by omega
  exact Nat.div_lt_self (by omega) (by omega)
theorem txt_lo {b u : Nat} (h : u < b) : txt b u = [hexC u] := by rw [txt, dif_pos (.inl h)]
theorem txt_hi {b u : Nat} (hb : 2 ≤ b) (h : b ≤ u) : txt b u = txt b (u / b) ++ [hexC (u % b)] := by rw [txt, dif_neg (by omega)]
/-- so many digits serve -/
theorem txt_len (b : Nat) (hb : 2 ≤ b) : ∀ (k u : Nat), u < b ^ (k + 1) → (txt b u).length ≤ k + 1
  | 0, u, h => by rw [txt_lo (by simpa using h)]; simp
  | k + 1, u, h => by
    by_cases hu : u < b
    · rw [txt_lo hu]; simp
    · have : u / b < b ^ (k + 1) := by
        rw [Nat.div_lt_iff_lt_mul (by omega)]
        rw [Nat.pow_succ] at h
        exact h
      rw [txt_hi hb (by omega), List.length_append]
      have := txt_len b hb k (u / b) this
      simp; omega
theorem txt_ne (b u : Nat) : txt b u ≠ [] := by
  rw [txt]; split <;> simp
theorem hexC_val {d : Nat} (h : d < 16) : hexV (hexC d) = d ∧ (hexC d).toNat < 128 := by
  have : ∀ n : _root_.Fin 16, hexV (hexC n.val) = n.val ∧ (hexC n.val).toNat < 128 := by decide +kernel
  exact this ⟨d, h⟩
theorem txt_dig (b : Nat) (hb : b = 10 ∨ b = 16) : ∀ (u : Nat), ∀ c ∈ txt b u, hexV c < b := by
  intro u
  induction u using Nat.strongRecOn with
  | _ u ih =>
    intro c hc
    by_cases h : u < b
    · rw [txt_lo h] at hc
      simp only [List.mem_singleton] at hc
      subst hc
      rw [(hexC_val (by rcases hb with rfl | rfl <;> omega)).1]; exact h
    · rw [txt_hi (by rcases hb with rfl | rfl <;> decide) (by omega), List.mem_append] at hc
      rcases hc with hc | hc
      · exact ih (u / b) (Nat.div_lt_self (by rcases hb with rfl | rfl <;> omega) (by rcases hb with rfl | rfl <;> omega)) c hc
      · simp only [List.mem_singleton] at hc
        subst hc
        have : u % b < b := Nat.mod_lt _ (by rcases hb with rfl | rfl <;> omega)
        rw [(hexC_val (by rcases hb with rfl | rfl <;> omega)).1]; exact this
theorem valF_txt (b : Nat) (hb : b = 10 ∨ b = 16) : ∀ (u : Nat), valF b 0 (txt b u) = u := by
  intro u
  induction u using Nat.strongRecOn with
  | _ u ih =>
    by_cases h : u < b
    · rw [txt_lo h]
      simp only [valF]
      rw [(hexC_val (by rcases hb with rfl | rfl <;> omega)).1]; omega
    · have hm : u % b < b := Nat.mod_lt _ (by rcases hb with rfl | rfl <;> omega)
      rw [txt_hi (by rcases hb with rfl | rfl <;> decide) (by omega), valF_app, ih (u / b) (Nat.div_lt_self (by rcases hb with rfl | rfl <;> omega) (by rcases hb with rfl | rfl <;> omega))]
      simp only [valF]
      rw [(hexC_val (by rcases hb with rfl | rfl <;> omega)).1, Nat.mul_comm]
      exact Nat.div_add_mod u b
/-- a number's text -/
def textS (b : Nat) (n : Int) : List UInt8 := if n < 0 then [] else txt b n.toNat
theorem ix_dig36 {d : Nat} (h : d < 16) : ixL ([48, 49, 50, 51, 52, 53, 54, 55, 56, 57, 97, 98, 99, 100, 101, 102, 103, 104, 105, 106, 107, 108, 109, 110, 111, 112, 113, 114, 115, 116, 117, 118, 119, 120, 121, 122] : List UInt8) (d : Int) = some (hexC d) := by
  have : ∀ n : _root_.Fin 16, ixL ([48, 49, 50, 51, 52, 53, 54, 55, 56, 57, 97, 98, 99, 100, 101, 102, 103, 104, 105, 106, 107, 108, 109, 110, 111, 112, 113, 114, 115, 116, 117, 118, 119, 120, 121, 122] : List UInt8) ((n.val : Nat) : Int) = some (hexC n.val) := by decide +kernel
  exact this ⟨d, h⟩
theorem txt_short {b u : Nat} (hb : b = 10 ∨ b = 16) (hu : u ≤ MX) : (txt b u).length ≤ 19 := by
  unfold MX at hu
  rcases hb with rfl | rfl
  · exact txt_len 10 (by decide) 18 u (by omega)
  · have := txt_len 16 (by decide) 15 u (by omega)
    omega
/-! the program's -/
theorem iand15 (u : Nat) (hu : u ≤ MX) : iand .u64 (u : Int) 15 = ((u % 16 : Nat) : Int) := by
  unfold MX at hu
  have e1 : BitVec.ofInt 64 (u : Int) = BitVec.ofNat 64 u := by simp
  have e2 : BitVec.ofInt 64 (15 : Int) = BitVec.ofNat 64 15 := rfl
  show IntKind.u64.wrap (((BitVec.ofInt 64 (u : Int)) &&& (BitVec.ofInt 64 (15 : Int))).toNat : Int) = _
  rw [e1, e2, BitVec.toNat_and, BitVec.toNat_ofNat, BitVec.toNat_ofNat, Nat.mod_eq_of_lt (a := u) (by omega), Nat.mod_eq_of_lt (a := 15) (by decide)]
  rw [show (15 : Nat) = 2 ^ 4 - 1 from rfl, Nat.and_two_pow_sub_one_eq_mod]
  exact wrap_inR ⟨by omega, by omega⟩
theorem ishr4 (u : Nat) : ishr .u64 (u : Int) 4 = ((u / 16 : Nat) : Int) := by
  show (u : Int).fdiv (2 ^ (min (4 : Nat) 64)) = _
  rw [Int.fdiv_eq_ediv_of_nonneg _ (by decide)]
  simp
theorem hex_loop : ∀ (u k i : Nat) (l : List UInt8), (txt 16 u).length ≤ k → u ≤ MX → l.length = 65 → (txt 16 u).length ≤ i → i ≤ 65 →
    ∃ (u' i' : Nat) (l' : List UInt8), istrconv_formatBits_L99 16 4 k (u : Int) (i : Int) l = some ((u' : Int), (i' : Int), l') ∧ u' < 16 ∧ 1 ≤ i' ∧ i' ≤ 65 ∧ l'.length = 65 ∧ [hexC u'] ++ l'.drop i' = txt 16 u ++ l.drop i := by
  intro u
  induction u using Nat.strongRecOn with
  | _ u ih =>
    intro k i l hk hu hl hi hi2
    cases k with
    | zero => exact absurd (List.length_eq_zero_iff.1 (Nat.le_zero.1 hk)) (txt_ne 16 u)
    | succ k =>
      have h16 : icv .i64 .u64 16 = 16 := by decide
      have h4 : icv .i64 .u64 4 = 4 := by decide
      have h15 : isub .u64 16 1 = 15 := by decide
      simp only [istrconv_formatBits_L99, h16, h4, h15]
      by_cases h : u < 16
      · rw [if_neg (by simp; omega)]
        refine ⟨u, i, l, rfl, h, ?_, hi2, hl, ?_⟩
        · rw [txt_lo h] at hi; simpa using hi
        · rw [txt_lo h]
      · have hlen : (txt 16 u).length = (txt 16 (u / 16)).length + 1 := by rw [txt_hi (by decide) (by omega)]; simp
        have hne : 0 < (txt 16 (u / 16)).length := List.length_pos_iff.2 (txt_ne 16 _)
        rw [if_pos (decide_eq_true (by omega)), iand15 u hu, ix_dig36 (by omega)]
        have hs : isub .i64 (i : Int) 1 = ((i - 1 : Nat) : Int) := by rw [isub64 (by omega) (by omega)]; omega
        simp only [Option.bind_some, hs]
        rw [chk_ok (decide_eq_true hl)]
        simp only [Option.bind_some]
        rw [ixL_in (by omega : i - 1 < l.length)]
        simp only [Option.bind_some]
        rw [chk_ok (by decide)]
        simp only [Option.bind_some, ishr4, Int.toNat_natCast]
        obtain ⟨u', i', l', e1, e2, e3, e4, e5, e6⟩ := ih (u / 16) (by omega) k (i - 1) (l.set (i - 1) (hexC (u % 16))) (by omega) (by unfold MX at hu ⊢; omega) (by simpa using hl) (by omega) (by omega)
        refine ⟨u', i', l', e1, e2, e3, e4, e5, ?_⟩
        rw [e6, txt_hi (u := u) (by decide) (by omega), List.drop_eq_getElem_cons (l := l.set (i - 1) (hexC (u % 16))) (by simp; omega)]
        rw [List.getElem_set_self, show i - 1 + 1 = i by omega, List.drop_set_of_lt (by omega)]
        simp
theorem hexes_eq (n : Int) (hn : n ≤ 9223372036854775807) : num_Hexes n = some (textS 16 n) := by
  unfold num_Hexes num_write textS strconv_FormatInt fmtX
  by_cases h0 : n < 0
  · simp [h0]
  · obtain ⟨u, rfl⟩ : ∃ u : Nat, n = (u : Int) := ⟨n.toNat, by omega⟩
    have hsh := txt_short (b := 16) (u := u) (.inr rfl) (by unfold MX; omega)
    obtain ⟨u', i', l', e1, e2, e3, e4, e5, e6⟩ := hex_loop u 141836999983104 65 (List.replicate 65 (bC 0)) (by omega) (by unfold MX; omega) (by simp) (by omega) (by omega)
    rw [if_neg (by simp), if_neg h0, if_neg (by decide)]
    unfold istrconv_FormatInt istrconv_formatBits
    have hneg : decide ((u : Int) < 0) = false := by simp
    have hcv : icv .i64 .u64 (u : Int) = u := icv_id ⟨by omega, by omega⟩
    have hp : istrconv_isPowerOfTwo 16 = some true := by decide +kernel
    have ht : bits_TrailingZeros (icv .i64 .u64 16) = some 4 := by decide +kernel
    simp only [hneg, hcv, hp, ht, Option.bind_some, if_true, Bool.false_eq_true, if_false, show decide ((16 : Int) = 10) = false from rfl, show decide ((16 : Int) < 2) = false from rfl, show decide ((36 : Int) < 16) = false from rfl]
    rw [show ((65 : Nat) : Int) = 65 from rfl] at e1
    rw [e1]
    have hs : isub .i64 (i' : Int) 1 = ((i' - 1 : Nat) : Int) := by rw [isub64 (by omega) (by omega)]; omega
    simp only [Option.bind_some, hs]
    rw [ix_dig36 e2]
    simp only [Option.bind_some]
    rw [chk_ok (decide_eq_true e5), ixL_in (by omega : i' - 1 < l'.length)]
    simp only [Option.bind_some, Int.toNat_natCast, List.length_set]
    rw [chk_ok (decide_eq_true e5)]
    simp only [Option.bind_some]
    have hd := slL_from (xs := l'.set (i' - 1) (hexC u')) (a := i' - 1) (by simp; omega)
    rw [List.length_set] at hd
    rw [hd]
    simp only [Option.bind_some]
    rw [List.drop_eq_getElem_cons (by simp; omega), List.getElem_set_self, show i' - 1 + 1 = i' by omega, List.drop_set_of_lt (by omega)]
    have : (List.replicate 65 (bC 0)).drop 65 = [] := by simp
    rw [this, List.append_nil] at e6
    simpa using e6
end Go.Proofs.YtfhlehkgiamejaaGreatDoor
