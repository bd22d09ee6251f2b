/- A number's text: the program's and the reference's; it is read back. -/
import Derived.Test.YtcikflhenbpdiaaDoorU2A
namespace Go.Proofs.YtcikflhenbpdiaaDoor
open Go.Av
set_option linter.unusedVariables false
set_option linter.unusedSimpArgs false
def hexC (d : Nat) : UInt8 := UInt8.ofNat (if d < 10 then 48 + d else 87 + d)
def txt (b u : Nat) : List UInt8 :=
  if h : u < b ∨ b < 2 then [hexC u] else txt b (u / b) ++ [hexC (u % b)]
termination_by u
decreasing_by
  have h1 : b ≤ u := by omega
  exact Nat.div_lt_self (by omega) (by omega)
theorem txt_lo {b u : Nat} (h : u < b) : txt b u = [hexC u] := by rw [txt, dif_pos (.inl h)]
theorem txt_hi {b u : Nat} (hb : 2 ≤ b) (h : b ≤ u) : txt b u = txt b (u / b) ++ [hexC (u % b)] := by rw [txt, dif_neg (by omega)]
theorem txt_dec (u : Nat) : Lib.decDigits u = txt 10 u := by
  induction u using Nat.strongRecOn with
  | _ u ih =>
    rw [Lib.decDigits]
    by_cases h : u < 10
    · rw [dif_pos h, txt_lo h]; unfold hexC; rw [if_pos h]
    · rw [dif_neg h, txt_hi (by decide) (by omega), ih (u / 10) (by omega)]
      unfold hexC; rw [if_pos (by omega : u % 10 < 10)]
/-- so many digits serve -/
theorem txt_len (b : Nat) (hb : 2 ≤ b) : ∀ (k u : Nat), u < b ^ (k + 1) → (txt b u).length ≤ k + 1
  | 0, u, h => by rw [txt_lo (by simpa using h)]; simp
  | k + 1, u, h => by
    by_cases hu : u < b
    · rw [txt_lo hu]; simp
    · have : u / b < b ^ (k + 1) := by
        rw [Nat.div_lt_iff_lt_mul (by omega)]
        rw [Nat.pow_succ] at h
        exact h
      rw [txt_hi hb (by omega), List.length_append]
      have := txt_len b hb k (u / b) this
      simp; omega
theorem txt_ne (b u : Nat) : txt b u ≠ [] := by
  rw [txt]; split <;> simp
theorem hexC_val {d : Nat} (h : d < 16) : hexV (hexC d) = d ∧ (hexC d).toNat < 128 := by
  have : ∀ n : _root_.Fin 16, hexV (hexC n.val) = n.val ∧ (hexC n.val).toNat < 128 := by decide +kernel
  exact this ⟨d, h⟩
theorem txt_dig (b : Nat) (hb : b = 10 ∨ b = 16) : ∀ (u : Nat), ∀ c ∈ txt b u, hexV c < b := by
  intro u
  induction u using Nat.strongRecOn with
  | _ u ih =>
    intro c hc
    by_cases h : u < b
    · rw [txt_lo h] at hc
      simp only [List.mem_singleton] at hc
      subst hc
      rw [(hexC_val (by rcases hb with rfl | rfl <;> omega)).1]; exact h
    · rw [txt_hi (by rcases hb with rfl | rfl <;> decide) (by omega), List.mem_append] at hc
      rcases hc with hc | hc
      · exact ih (u / b) (Nat.div_lt_self (by rcases hb with rfl | rfl <;> omega) (by rcases hb with rfl | rfl <;> omega)) c hc
      · simp only [List.mem_singleton] at hc
        subst hc
        have : u % b < b := Nat.mod_lt _ (by rcases hb with rfl | rfl <;> omega)
        rw [(hexC_val (by rcases hb with rfl | rfl <;> omega)).1]; exact this
theorem valF_txt (b : Nat) (hb : b = 10 ∨ b = 16) : ∀ (u : Nat), valF b 0 (txt b u) = u := by
  intro u
  induction u using Nat.strongRecOn with
  | _ u ih =>
    by_cases h : u < b
    · rw [txt_lo h]
      simp only [valF]
      rw [(hexC_val (by rcases hb with rfl | rfl <;> omega)).1]; omega
    · have hm : u % b < b := Nat.mod_lt _ (by rcases hb with rfl | rfl <;> omega)
      rw [txt_hi (by rcases hb with rfl | rfl <;> decide) (by omega), valF_app, ih (u / b) (Nat.div_lt_self (by rcases hb with rfl | rfl <;> omega) (by rcases hb with rfl | rfl <;> omega))]
      simp only [valF]
      rw [(hexC_val (by rcases hb with rfl | rfl <;> omega)).1, Nat.mul_comm]
      exact Nat.div_add_mod u b
/-- a number's text -/
def textS (b : Nat) (n : Int) : List UInt8 := if n < 0 then [] else txt b n.toNat
theorem ix_dig {d : Nat} (h : d < 16) : ixL ([48, 49, 50, 51, 52, 53, 54, 55, 56, 57, 97, 98, 99, 100, 101, 102] : List UInt8) (d : Int) = some (hexC d) := by
  have : ∀ n : _root_.Fin 16, ixL ([48, 49, 50, 51, 52, 53, 54, 55, 56, 57, 97, 98, 99, 100, 101, 102] : List UInt8) ((n.val : Nat) : Int) = some (hexC n.val) := by decide +kernel
  exact this ⟨d, h⟩
theorem ix_dig36 {d : Nat} (h : d < 16) : ixL ([48, 49, 50, 51, 52, 53, 54, 55, 56, 57, 97, 98, 99, 100, 101, 102, 103, 104, 105, 106, 107, 108, 109, 110, 111, 112, 113, 114, 115, 116, 117, 118, 119, 120, 121, 122] : List UInt8) (d : Int) = some (hexC d) := by
  have : ∀ n : _root_.Fin 16, ixL ([48, 49, 50, 51, 52, 53, 54, 55, 56, 57, 97, 98, 99, 100, 101, 102, 103, 104, 105, 106, 107, 108, 109, 110, 111, 112, 113, 114, 115, 116, 117, 118, 119, 120, 121, 122] : List UInt8) ((n.val : Nat) : Int) = some (hexC n.val) := by decide +kernel
  exact this ⟨d, h⟩
theorem txt_short {b u : Nat} (hb : b = 10 ∨ b = 16) (hu : u ≤ MX) : (txt b u).length ≤ 19 := by
  unfold MX at hu
  rcases hb with rfl | rfl
  · exact txt_len 10 (by decide) 18 u (by omega)
  · have := txt_len 16 (by decide) 15 u (by omega)
    omega
/-! the program's -/
theorem digits_eq (n : Int) (hn : n ≤ 9223372036854775807) : num_Digits n = some (textS 10 n) := by
  unfold num_Digits num_write textS strconv_FormatInt fmtX
  by_cases h0 : n < 0
  · simp [h0]
  · rw [if_neg (by simpa using h0), if_neg h0, if_pos rfl, if_pos ⟨by omega, hn⟩]
    simp only [Option.bind_some, Lib.itoa, h0, if_false, txt_dec]
end Go.Proofs.YtcikflhenbpdiaaDoor
