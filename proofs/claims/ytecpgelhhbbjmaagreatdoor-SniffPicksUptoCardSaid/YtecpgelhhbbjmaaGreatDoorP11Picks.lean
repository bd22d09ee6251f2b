/- SniffPicks, plain. -/
import Derived.Test.YtecpgelhhbbjmaaGreatDoorV11
import Derived.Test.YtecpgelhhbbjmaaGreatDoorLPicks
namespace Go.Proofs.YtecpgelhhbbjmaaGreatDoor
open Go.Av
set_option linter.unusedVariables false
set_option linter.unusedSimpArgs false
theorem ref_Pick_eq {cs b : List UInt8} (hc : cs.length ≤ 4194304) (hb : b.length ≤ 4194304) : ref11_Pick cs b = some (pickT cs b) := by
  have hz := (bom_len b).2.2.1
  unfold ref11_Pick pickT
  rw [ref_Bom_eq, ref_LabelT_eq hc, ref_Prescan_eq hb]
  simp only [Option.bind_some, decide_eq_true_eq]
  by_cases h1 : (bomT b).1 = 0
  · have h0 := hz h1
    rw [if_pos h1, if_pos h1]
    simp only [Option.bind_some]
    by_cases h2 : lblT cs = 0
    · rw [if_pos h2, if_pos h2]
      simp only [Option.bind_some]
      by_cases h3 : preT b = 0
      · rw [if_pos h3, if_pos h3, h0]
      · rw [if_neg h3, if_neg h3, h0]
    · rw [if_neg h2, if_neg h2]
      simp only [Option.bind_some]
      rw [if_neg h2, h0]
  · rw [if_neg h1, if_neg h1]
    simp only [Option.bind_some]
    rw [if_neg h1]
    simp only [Option.bind_some]
    rw [if_neg h1]
theorem ref_Decode_eq11 {cs b : List UInt8} (hc : cs.length ≤ 4194304) (hb : b.length ≤ 4194304) : ref11_Decode cs b = some ((decT cs b).1, decide ((decT cs b).2 = 0)) := by
  unfold ref11_Decode decT
  rw [ref_Pick_eq hc hb]
  obtain ⟨p1, p2⟩ := pick_len cs b
  generalize pickT cs b = p at p1 p2 ⊢
  obtain ⟨n, hn⟩ := Int.eq_ofNat_of_zero_le p1
  have hs : slL b p.2 ((b.length : Nat) : Int) = some (b.drop p.2.toNat) := by
    rw [hn, Int.toNat_natCast]
    exact slL_from (by omega)
  simp only [Option.bind_some, decide_eq_true_eq, hs]
  by_cases h3 : p.1 = 3
  · rw [if_pos h3, if_pos h3]; rfl
  rw [if_neg h3, if_neg h3]
  have hd : (b.drop p.2.toNat).length ≤ 4194304 := by rw [List.length_drop]; omega
  by_cases h1 : p.1 = 1
  · rw [if_pos h1, if_pos h1, ref_Decode_eq hd]; rfl
  · rw [if_neg h1, if_neg h1, ref_Decode9_eq hd]; rfl
theorem dec_err (cs b : List UInt8) : (decT cs b).2 = 0 ∨ (decT cs b).2 = 40 := by
  unfold decT
  repeat' split
  all_goals first | exact .inl rfl | exact .inr rfl
theorem law_SniffPicks (cs b : List UInt8) (_hc : True) (_hb : ∀ x ∈ b, True) (hb : cs.length + 1 + (sumM (fun _ => 1) b + 1 + 0) ≤ 1048576) : law11_SniffPicks cs b = some true := by
  rw [sum_one] at hb
  unfold law11_SniffPicks
  have hz : szC (List.length (b ++ [62])) = some () := szC_ok (by rw [List.length_append, List.length_singleton]; omega)
  rw [shown11, szC_ok (by omega), szC_ok (by rw [List.length_append, List.length_singleton]; omega), slL_to (by rw [List.length_append]; omega)]
  simp only [Option.bind_some]
  rw [List.take_left, Pick_eq (by omega) (by omega), ref_Pick_eq (by omega) (by omega), Decode_eq11 (by omega) (by omega), ref_Decode_eq11 (by omega) (by omega)]
  have he := dec_err cs b
  generalize decT cs b = d at he
  have hx : decide (b ++ [bC 62] = b ++ [62]) = true := decide_eq_true rfl
  simp only [Option.bind_some, decide_true, if_true, beq_self_eq_true, hz, hx]
  rcases he with h | h
  · rw [if_pos (decide_eq_true h)]
  · rw [if_neg (by rw [h]; decide), if_pos (decide_eq_true h)]
end Go.Proofs.YtecpgelhhbbjmaaGreatDoor
