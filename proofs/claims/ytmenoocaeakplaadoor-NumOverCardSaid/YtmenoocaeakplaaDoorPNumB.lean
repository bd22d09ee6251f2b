/- A number is read back as it was written; a digit more makes it larger. -/
import Derived.Test.YtmenoocaeakplaaDoorPNum
import Derived.Test.YtmenoocaeakplaaDoorLBack
namespace Go.Proofs.YtmenoocaeakplaaDoor
open Go.Av
set_option linter.unusedVariables false
set_option linter.unusedSimpArgs false
theorem numS_val {b : Nat} {s : List UInt8} (h0 : s ≠ []) (hs : ∀ c ∈ s, hexV c < b) (hv : valF b 0 s ≤ MX) : numS b s = (((valF b 0 s : Nat) : Int), (0 : Int)) := by
  unfold numS
  rw [if_neg (fun h => h.elim h0 fun h => by
    obtain ⟨c, hc, h2⟩ := List.any_eq_true.1 h
    have := hs c hc
    simp at h2; omega), if_pos hv]
theorem numS_bad {b : Nat} {s : List UInt8} {c : UInt8} (hc : c ∈ s) (h : b ≤ hexV c) : numS b s = (0, 2) := by
  unfold numS
  rw [if_pos (.inr (List.any_eq_true.2 ⟨c, hc, decide_eq_true h⟩))]
theorem numS_over {b : Nat} {s : List UInt8} (h0 : s ≠ []) (hs : ∀ c ∈ s, hexV c < b) (hv : MX < valF b 0 s) : numS b s = (0, 3) := by
  unfold numS
  rw [if_neg (fun h => h.elim h0 fun h => by
    obtain ⟨c, hc, h2⟩ := List.any_eq_true.1 h
    have := hs c hc
    simp at h2; omega), if_neg (by omega)]
theorem valF_zeros (b : Nat) (t : List UInt8) : ∀ m : Nat, valF b 0 (List.replicate m 48 ++ t) = valF b 0 t
  | 0 => rfl
  | m + 1 => by
    rw [List.replicate_succ, List.cons_append]
    show valF b (0 * b + hexV 48) _ = _
    rw [show hexV 48 = 0 from by decide +kernel, Nat.zero_mul]
    exact valF_zeros b t m
def upC (c : UInt8) : UInt8 := if 97 ≤ c.toNat ∧ c.toNat ≤ 102 then c - bC 97 + bC 65 else c
theorem upC_val (c : UInt8) : hexV (upC c) = hexV c := by
  have : ∀ n : _root_.Fin 256, hexV (upC (UInt8.ofNat n.val)) = hexV (UInt8.ofNat n.val) := by decide +kernel
  have := this ⟨c.toNat, c.toNat_lt⟩
  simpa using this
theorem valF_up (b : Nat) : ∀ (s : List UInt8) (n : Nat), valF b n (s.map upC) = valF b n s
  | [], n => rfl
  | c :: r, n => by simp only [List.map_cons, valF, upC_val]; exact valF_up b r _
theorem back_zeros (m : Int) : ∀ (k i : Nat), i ≤ 40 → 40 - i < k → ∃ q, q ≤ 40 ∧ law02_NumBack_L20 m k (List.replicate i 48) (i : Int) = some (List.replicate q 48) := by
  intro k
  induction k with
  | zero => intro i _ h; omega
  | succ k ih =>
    intro i hi hk
    simp only [law02_NumBack_L20]
    by_cases h1 : (i : Int) < m
    · rw [if_pos (decide_eq_true h1)]
      by_cases h2 : (i : Int) < 40
      · rw [show decide ((i : Int) < 40) = true from decide_eq_true h2]
        simp only [Option.bind_some, if_true]
        rw [szC_ok (by simp; omega)]
        simp only [Option.bind_some]
        rw [iadd64 (by omega) (by omega), show (i : Int) + 1 = ((i + 1 : Nat) : Int) by omega, show List.replicate i (48 : UInt8) ++ [48] = List.replicate (i + 1) 48 from (List.replicate_succ' ..).symm]
        exact ih (i + 1) (by omega) (by omega)
      · rw [show decide ((i : Int) < 40) = false from decide_eq_false h2]
        exact ⟨i, hi, rfl⟩
    · rw [if_neg (by simpa using h1)]
      exact ⟨i, hi, rfl⟩
theorem back_up : ∀ (k i : Nat) (l : List UInt8), i ≤ l.length → l.length < 140737488355328 → l.length - i < k →
    law02_NumBack_L57 k (i : Int) l = some (l.take i ++ (l.drop i).map upC) := by
  intro k
  induction k with
  | zero => intro i l _ _ h; omega
  | succ k ih =>
    intro i l hi hl hk
    simp only [law02_NumBack_L57]
    by_cases hlt : i < l.length
    · rw [if_pos (decide_eq_true (by omega)), ixL_in hlt]
      have hn : iadd .i64 (i : Int) 1 = ((i + 1 : Nat) : Int) := by rw [iadd64 (by omega) (by omega)]; omega
      have h97 : b2i (bC 97) = 97 := rfl
      have h102 : b2i (bC 102) = 102 := rfl
      have hd : l.drop i = l[i] :: l.drop (i + 1) := List.drop_eq_getElem_cons hlt
      have hb : b2i l[i] = (l[i].toNat : Int) := rfl
      simp only [Option.bind_some, hn, h97, h102, hb]
      by_cases h1 : 97 ≤ l[i].toNat ∧ l[i].toNat ≤ 102
      · rw [if_pos (decide_eq_true (by omega)), show decide ((l[i].toNat : Int) ≤ 102) = true from decide_eq_true (by omega)]
        simp only [Option.bind_some, if_true, Int.toNat_natCast]
        rw [ih (i + 1) _ (by simp; omega) (by simpa using hl) (by simp; omega), List.drop_set_of_lt (by omega), hd, List.map_cons]
        rw [List.take_add_one, List.getElem?_set_self hlt, List.take_set_of_le (by omega)]
        unfold upC
        rw [if_pos h1]
        simp
      · have e : (if decide ((97 : Int) ≤ (l[i].toNat : Int)) = true then some (decide ((l[i].toNat : Int) ≤ 102)) else some false) = some false := by
          by_cases h2 : (97 : Int) ≤ (l[i].toNat : Int)
          · rw [if_pos (decide_eq_true h2), show decide ((l[i].toNat : Int) ≤ 102) = false from decide_eq_false (by omega)]
          · rw [if_neg (by simpa using h2)]
        rw [e]
        simp only [Option.bind_some, Bool.false_eq_true, if_false]
        rw [ih (i + 1) l hlt hl (by omega), hd, List.map_cons, List.take_add_one, List.getElem?_eq_getElem hlt, show upC l[i] = l[i] from if_neg h1, List.append_assoc]
        rfl
    · rw [if_neg (by simp; omega), List.drop_eq_nil_of_le (by omega), List.take_of_length_le (by omega)]
      simp
theorem law_NumBack_all (n : Int) (m : Int) (hn : inR .i64 n) (hm : inR .i64 m) : law02_NumBack n m = some true := by
  have h1 := hn.2
  unfold law02_NumBack
  rw [shown02, digits_eq n h1, hexes_eq n h1]
  simp only [Option.bind_some]
  by_cases h0 : n < 0
  · have e : ∀ b, textS b n = [] := fun b => by unfold textS; rw [if_pos h0]
    simp [h0, e]
  · obtain ⟨u, rfl⟩ : ∃ u : Nat, n = (u : Int) := ⟨n.toNat, by omega⟩
    have hu : u ≤ MX := by unfold MX; omega
    have e : ∀ b, textS b (u : Int) = txt b u := fun b => by unfold textS; rw [if_neg h0, Int.toNat_natCast]
    rw [if_neg (by simp), e, e]
    obtain ⟨q, hq, hz⟩ := back_zeros m 140737488355328 0 (by omega) (by omega)
    rw [show List.replicate 0 (48 : UInt8) = [] from rfl, show ((0 : Nat) : Int) = 0 from rfl] at hz
    have s16 := txt_short (b := 16) (u := u) (.inr rfl) hu
    have s10 := txt_short (b := 10) (u := u) (.inl rfl) hu
    have hup := back_up 140737488355328 0 (txt 16 u) (by omega) (by omega) (by omega)
    rw [show ((0 : Nat) : Int) = 0 from rfl, List.take_zero, List.drop_zero, List.nil_append] at hup
    rw [hz, hup]
    simp only [Option.bind_some]
    rw [szC_ok (by omega), szC_ok (by simp; omega)]
    simp only [Option.bind_some]
    rw [szC_ok (by simp; omega), decimal_eq _ (by simp; omega), hex_eq _ (by simp; omega)]
    have d10 : numS 10 (List.replicate q 48 ++ txt 10 u) = (((u : Nat) : Int), (0 : Int)) := by
      have hv : valF 10 0 (List.replicate q 48 ++ txt 10 u) = u := by rw [valF_zeros, valF_txt 10 (.inl rfl)]
      rw [numS_val (by simp [txt_ne]) (fun c hc => by
        rcases List.mem_append.1 hc with h | h
        · rw [(List.mem_replicate.1 h).2]; decide
        · exact txt_dig 10 (.inl rfl) u c h) (by rw [hv]; exact hu), hv]
    have d16 : numS 16 (List.replicate q 48 ++ (txt 16 u).map upC) = (((u : Nat) : Int), (0 : Int)) := by
      have hv : valF 16 0 (List.replicate q 48 ++ (txt 16 u).map upC) = u := by rw [valF_zeros, valF_up, valF_txt 16 (.inr rfl)]
      rw [numS_val (by simp [txt_ne]) (fun c hc => by
        rcases List.mem_append.1 hc with h | h
        · rw [(List.mem_replicate.1 h).2]; decide
        · obtain ⟨x, hx, rfl⟩ := List.mem_map.1 h
          rw [upC_val]; exact txt_dig 16 (.inr rfl) u x hx) (by rw [hv]; exact hu), hv]
    rw [d10, d16]
    simp
end Go.Proofs.YtmenoocaeakplaaDoor
