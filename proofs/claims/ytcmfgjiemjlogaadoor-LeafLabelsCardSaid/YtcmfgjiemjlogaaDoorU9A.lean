/- leaf, plain: a byte's character, a character's byte. -/
import Derived.Test.YtcmfgjiemjlogaaDoorU8J
import Derived.Test.YtcmfgjiemjlogaaDoorGE
namespace Go.Proofs.YtcmfgjiemjlogaaDoor
open Go.Av
set_option linter.unusedVariables false
set_option maxRecDepth 100000
theorem shown9 : law09_shown = some true := by kernel_rfl
/-- what holds of all 256 bytes, told one by one -/
theorem all256 {p : UInt8 → Bool} (h : (List.range 256).all (fun n => p (UInt8.ofNat n)) = true) (c : UInt8) : p c = true := by
  have := List.all_eq_true.1 h c.toNat (List.mem_range.2 c.toNat_lt)
  rwa [UInt8.ofNat_toNat] at this
def chT (c : UInt8) : Int := (leaf_Char c).getD 0
theorem Char_eq (c : UInt8) : leaf_Char c = some (chT c) := by
  have h := all256 (p := fun c => (leaf_Char c).isSome) (by kernel_rfl) c
  unfold chT
  rw [Option.isSome_iff_exists] at h
  obtain ⟨x, hx⟩ := h
  rw [hx]; rfl
theorem ref_Char9_eq (c : UInt8) : ref09_Char c = some (chT c) := of_decide_eq_true (all256 (p := fun c => decide (ref09_Char c = some (chT c))) (by kernel_rfl) c)
theorem chT_good (c : UInt8) : goodC (chT c) := of_decide_eq_true (all256 (p := fun c => decide (goodC (chT c))) (by kernel_rfl) c)
theorem Byte_chT (c : UInt8) : leaf_Byte (chT c) = some (c, true) := of_decide_eq_true (all256 (p := fun c => decide (leaf_Byte (chT c) = some (c, true))) (by kernel_rfl) c)
theorem chT_low (c : UInt8) : (b2i c < 128 → chT c = b2i c) ∧ (128 ≤ b2i c → 128 ≤ chT c ∧ chT c < 65536) := by
  have := of_decide_eq_true (all256 (p := fun c => decide ((b2i c < 128 → chT c = b2i c) ∧ (128 ≤ b2i c → 128 ≤ chT c ∧ chT c < 65536))) (by kernel_rfl) c)
  exact this
theorem chT_inj {a b : UInt8} (h : chT a = chT b) : a = b := by
  have h1 := Byte_chT a
  rw [h, Byte_chT b] at h1
  simp at h1
  exact h1.symm
theorem chT_plain (n : Nat) (h : n < 128 ∨ 160 ≤ n ∧ n < 256) : chT (UInt8.ofNat n) = (n : Int) := by
  have h0 : ((List.range 256).all fun n => decide (n < 128 ∨ 160 ≤ n ∧ n < 256 → chT (UInt8.ofNat n) = (n : Int))) = true := by kernel_rfl
  exact of_decide_eq_true (List.all_eq_true.1 h0 n (List.mem_range.2 (by omega))) h
theorem odd_tab : ((List.range 32).all fun n => decide ((([8364, 129, 8218, 402, 8222, 8230, 8224, 8225, 710, 8240, 352, 8249, 338, 141, 381, 143, 144, 8216, 8217, 8220, 8221, 8226, 8211, 8212, 732, 8482, 353, 8250, 339, 157, 382, 376] : List Int))[n]? = some (chT (UInt8.ofNat (128 + n))))) = true := by kernel_rfl
theorem Byte_loop (r : Int) (h : ∀ c, chT c ≠ r) : ∀ (k i : Nat), i ≤ 32 → 32 - i < k → leaf_Byte_L10 r k (i : Int) = some (Sum.inr ())
  | 0, i, _, hk => by omega
  | k + 1, i, hi, hk => by
    simp only [leaf_Byte_L10, decide_eq_true_eq]
    by_cases hlt : i < 32
    · have ht := of_decide_eq_true (List.all_eq_true.1 odd_tab i (List.mem_range.2 hlt))
      rw [if_pos (by omega), ixL_nat, ht]
      simp only [Option.bind_some]
      rw [if_neg (h _), iadd64 (by omega) (by omega), ← Int.natCast_add_one]
      exact Byte_loop r h k (i + 1) (by omega) (by omega)
    · rw [if_neg (by omega)]
/-- a character's byte -/
def byT (r : Int) : Option UInt8 := ((List.range 256).find? fun n => decide (chT (UInt8.ofNat n) = r)).map UInt8.ofNat
theorem byT_chT (c : UInt8) : byT (chT c) = some c := by
  unfold byT
  rcases h : (List.range 256).find? fun n => decide (chT (UInt8.ofNat n) = chT c) with _ | n
  · have := List.find?_eq_none.1 h c.toNat (List.mem_range.2 c.toNat_lt)
    rw [UInt8.ofNat_toNat] at this
    simp at this
  · have := List.find?_some h
    have e := chT_inj (of_decide_eq_true this)
    simp [e]
theorem byT_none {r : Int} (h : ∀ c, chT c ≠ r) : byT r = none := by
  unfold byT
  rw [Option.map_eq_none_iff, List.find?_eq_none]
  intro n _
  simpa using h _
theorem byT_cases (r : Int) : (∃ c, chT c = r) ∨ ∀ c, chT c ≠ r := by
  by_cases h : ∃ c, chT c = r
  · exact .inl h
  · exact .inr fun c hc => h ⟨c, hc⟩
theorem Byte_eq (r : Int) : leaf_Byte r = some (match byT r with | some c => (c, true) | none => (bC 0, false)) := by
  rcases byT_cases r with ⟨c, rfl⟩ | h
  · rw [Byte_chT, byT_chT]
  · rw [byT_none h]
    have h1 : ¬ (0 ≤ r ∧ r < 128) := fun hr => h (UInt8.ofNat r.toNat) (by rw [chT_plain _ (by omega)]; omega)
    have h2 : ¬ (160 ≤ r ∧ r ≤ 255) := fun hr => h (UInt8.ofNat r.toNat) (by rw [chT_plain _ (by omega)]; omega)
    have hl := Byte_loop r h 140737488355328 0 (by omega) (by omega)
    simp only [Int.natCast_zero] at hl
    unfold leaf_Byte
    simp only [decide_eq_true_eq]
    by_cases a : 0 ≤ r
    · rw [if_pos a, if_neg (by omega)]
      by_cases b : 160 ≤ r
      · rw [if_pos b, decide_eq_false (by omega)]; simp only [Option.bind_some, hl]; rfl
      · rw [if_neg b]; simp only [Option.bind_some, hl]; rfl
    · rw [if_neg a, if_neg (by omega)]; simp only [Option.bind_some, hl]; rfl
theorem ref_Byte_loop (r : Int) : ∀ (k c : Nat), c ≤ 256 → 256 - c < k → (∀ n, n < c → chT (UInt8.ofNat n) ≠ r) → ref09_Byte_L6 r k (c : Int) = some (match byT r with | some c => Sum.inl (b2i c) | none => Sum.inr ())
  | 0, c, _, hk, _ => by omega
  | k + 1, c, hc, hk, hn => by
    simp only [ref09_Byte_L6, decide_eq_true_eq]
    by_cases hlt : c < 256
    · rw [if_pos (by omega), ref_Char9_eq, toB_nat c hlt]
      simp only [Option.bind_some]
      by_cases he : chT (UInt8.ofNat c) = r
      · rw [if_pos he, ← he, byT_chT]
        show _ = some (Sum.inl (b2i (UInt8.ofNat c)))
        rw [b2i_ofNat hlt]
      · rw [if_neg he, iadd64 (by omega) (by omega), ← Int.natCast_add_one]
        refine ref_Byte_loop r k (c + 1) (by omega) (by omega) fun n h => ?_
        by_cases e : n = c
        · rw [e]; exact he
        · exact hn n (by omega)
    · rw [if_neg (by omega)]
      have hno : ∀ c, chT c ≠ r := fun x hx => hn x.toNat (by have := x.toNat_lt; omega) (by rw [UInt8.ofNat_toNat]; exact hx)
      rw [byT_none hno]
theorem ref_Byte_eq (r : Int) : ref09_Byte r = some (match byT r with | some c => b2i c | none => -1) := by
  unfold ref09_Byte
  have := ref_Byte_loop r 140737488355328 0 (by omega) (by omega) (fun n h => by omega)
  simp only [Int.natCast_zero] at this
  rw [this]
  cases byT r <;> rfl
theorem chT_32 (c : UInt8) : icv .i64 .i32 (chT c) = chT c := icv_id (goodI (chT_good c))
end Go.Proofs.YtcmfgjiemjlogaaDoor
