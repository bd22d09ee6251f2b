/- sniff, plain: which encoding is picked, and what is read by it. -/
import Derived.Test.YtecpgelhhbbjmaaDoorU11B
import Derived.Test.YtecpgelhhbbjmaaDoorU9B
import Derived.Test.YtecpgelhhbbjmaaDoorGI
namespace Go.Proofs.YtecpgelhhbbjmaaDoor
open Go.Av
set_option linter.unusedVariables false
set_option linter.unusedSimpArgs false
set_option maxRecDepth 100000
set_option maxHeartbeats 2000000 in
theorem shown11 : law11_shown = some true := by kernel_rfl
theorem hp_eq (s w : List UInt8) : strings_HasPrefix s w = some (w.isPrefixOf s) := by
  unfold strings_HasPrefix stringslite_HasPrefix
  simp only [decide_eq_true_eq]
  by_cases hl : w.length ≤ s.length
  · rw [if_pos (by omega), slL_to hl]
    simp only [Option.bind_some]
    congr 1
    rw [Bool.eq_iff_iff, decide_eq_true_eq, List.isPrefixOf_iff_prefix, List.prefix_iff_eq_take]
    exact eq_comm
  · rw [if_neg (by omega)]
    have : w.isPrefixOf s = false := by
      rw [Bool.eq_false_iff]
      exact fun hp => hl (List.isPrefixOf_iff_prefix.1 hp).length_le
    rw [this]
    rfl
def bomT (b : List UInt8) : Int × Int :=
  if b.take 3 = [239, 187, 191] then (1, 3) else if (([254, 255] : List UInt8).isPrefixOf (b.take 3) || ([255, 254] : List UInt8).isPrefixOf (b.take 3)) = true then (3, 2) else (0, 0)
theorem Bom_eq (b : List UInt8) : sniff_Bom b = some (bomT b) := by
  unfold sniff_Bom bomT
  have e : min ((b.length : Nat) : Int) 3 = ((min b.length 3 : Nat) : Int) := by omega
  have ht : b.take (min b.length 3) = b.take 3 := by
    rcases Nat.le_total b.length 3 with h | h
    · rw [Nat.min_eq_left h, List.take_of_length_le (Nat.le_refl _), List.take_of_length_le h]
    · rw [Nat.min_eq_right h]
  rw [e, slL_to (by omega), ht]
  simp only [Option.bind_some, hp_eq, decide_eq_true_eq]
  by_cases h : b.take 3 = [239, 187, 191]
  · rw [if_pos h, if_pos h]
  · rw [if_neg h, if_neg h]
    cases ([254, 255] : List UInt8).isPrefixOf (b.take 3) <;> cases ([255, 254] : List UInt8).isPrefixOf (b.take 3) <;> rfl
theorem bom_len (b : List UInt8) : 0 ≤ (bomT b).2 ∧ (bomT b).2 ≤ ((b.length : Nat) : Int) ∧ ((bomT b).1 = 0 → (bomT b).2 = 0) ∧ ((bomT b).1 = 0 ∨ (bomT b).1 = 1 ∨ (bomT b).1 = 3) := by
  unfold bomT
  have ht : (b.take 3).length ≤ b.length := by rw [List.length_take]; omega
  split
  · rename_i h
    have := congrArg List.length h
    simp only [List.length_cons, List.length_nil] at this
    dsimp only
    exact ⟨by omega, by omega, by omega, by omega⟩
  · split
    · rename_i h
      have : 2 ≤ (b.take 3).length := by
        rcases Bool.or_eq_true_iff.1 h with h | h
        · exact pre_len h
        · exact pre_len h
      dsimp only
      exact ⟨by omega, by omega, by omega, by omega⟩
    · dsimp only
      exact ⟨by omega, by omega, by omega, by omega⟩
def pickT (cs b : List UInt8) : Int × Int := if (bomT b).1 = 0 then (if lblT cs = 0 then (if preT b = 0 then (2, 0) else (preT b, 0)) else (lblT cs, 0)) else bomT b
theorem Pick_eq {cs b : List UInt8} (hc : cs.length ≤ 4194304) (hb : b.length ≤ 4194304) : sniff_Pick cs b = some (pickT cs b) := by
  unfold sniff_Pick pickT
  rw [Bom_eq, LabelT_eq (by omega), Prescan_eq (by omega)]
  simp only [Option.bind_some, Bool.not_eq_true', decide_eq_false_iff_not]
  by_cases h1 : (bomT b).1 = 0
  · rw [if_neg (by simp [h1]), if_pos h1]
    by_cases h2 : lblT cs = 0
    · rw [if_neg (by simp [h2]), if_pos h2]
      by_cases h3 : preT b = 0
      · rw [if_neg (by simp [h3]), if_pos h3]
      · rw [if_pos h3, if_neg h3]
    · rw [if_pos h2, if_neg h2]
  · rw [if_pos h1, if_neg h1]
theorem pick_len (cs b : List UInt8) : 0 ≤ (pickT cs b).2 ∧ (pickT cs b).2 ≤ ((b.length : Nat) : Int) := by
  have h := bom_len b
  unfold pickT
  repeat' split
  all_goals first | exact ⟨h.1, h.2.1⟩ | (dsimp only; omega)
def decT (cs b : List UInt8) : List UInt8 × Int :=
  if (pickT cs b).1 = 3 then ([], 40) else if (pickT cs b).1 = 1 then (encL (runesT (b.drop (pickT cs b).2.toNat)), 0) else (encL ((b.drop (pickT cs b).2.toNat).map chT), 0)
theorem Decode_eq11 {cs b : List UInt8} (hc : cs.length ≤ 4194304) (hb : b.length ≤ 4194304) : sniff_Decode cs b = some (decT cs b) := by
  unfold sniff_Decode decT
  rw [Pick_eq hc hb]
  obtain ⟨p1, p2⟩ := pick_len cs b
  generalize pickT cs b = p at p1 p2 ⊢
  obtain ⟨n, hn⟩ := Int.eq_ofNat_of_zero_le p1
  have hs : slL b p.2 ((b.length : Nat) : Int) = some (b.drop p.2.toNat) := by
    rw [hn, Int.toNat_natCast]
    exact slL_from (by omega)
  simp only [Option.bind_some, decide_eq_true_eq, hs]
  by_cases h3 : p.1 = 3
  · rw [if_pos h3, if_pos h3]
  rw [if_neg h3, if_neg h3]
  have hd : (b.drop p.2.toNat).length ≤ 4194304 := by rw [List.length_drop]; omega
  by_cases h1 : p.1 = 1
  · rw [if_pos h1, if_pos h1, Decode_eq hd]; rfl
  · rw [if_neg h1, if_neg h1, Decode9_eq hd]; rfl
end Go.Proofs.YtecpgelhhbbjmaaDoor
