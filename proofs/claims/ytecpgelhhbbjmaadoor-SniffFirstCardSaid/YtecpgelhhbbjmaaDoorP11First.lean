/- SniffFirst, plain. -/
import Derived.Test.YtecpgelhhbbjmaaDoorU11D
import Derived.Test.YtecpgelhhbbjmaaDoorLFirst
namespace Go.Proofs.YtecpgelhhbbjmaaDoor
open Go.Av
theorem pad_loop : ∀ (k : Nat) (l : List UInt8), l.length ≤ 140737488351232 → 1024 - l.length < k → law11_SniffFirst_L11 k l = some (l ++ List.replicate (1024 - l.length) 32)
  | 0, l, _, hk => by omega
  | k + 1, l, hl, hk => by
    rw [law11_SniffFirst_L11_s]
    by_cases h : l.length < 1024
    · rw [if_pos (by simp only [decide_eq_true_eq]; omega), szC_ok (by rw [List.length_append, List.length_singleton]; omega)]
      simp only [Option.bind_some]
      rw [pad_loop k _ (by rw [List.length_append, List.length_singleton]; omega) (by rw [List.length_append, List.length_singleton]; omega), List.length_append, List.length_singleton, List.append_assoc, show 1024 - l.length = 1024 - (l.length + 1) + 1 by omega, List.replicate_succ]
      rfl
    · rw [if_neg (by simp only [decide_eq_true_eq]; omega), show 1024 - l.length = 0 by omega, List.replicate_zero, List.append_nil]
theorem pre_far {a x : List UInt8} (h : a.length = 1024) : preT (a ++ x) = preT a := by
  unfold preT
  rw [List.take_append_of_le_length (by omega)]
theorem law_SniffFirst_all (b one two : List UInt8) (_h1 : ∀ x ∈ b, True) (_h2 : ∀ x ∈ one, True) (_h3 : ∀ x ∈ two, True)
    (hb1 : b.length * 1 ≤ 140737488351232 ∧ ∀ x ∈ b, True) (hb2 : one.length * 1 ≤ 140737488351232 ∧ ∀ x ∈ one, True) (hb3 : two.length * 1 ≤ 140737488351232 ∧ ∀ x ∈ two, True) : law11_SniffFirst b one two = some true := by
  have hb := hb1.1
  have hb' := hb2.1
  have hb'' := hb3.1
  unfold law11_SniffFirst
  rw [shown11, szC_ok (by omega), pad_loop 140737488355328 b (by omega) (by omega)]
  simp only [Option.bind_some]
  have hs : slL (b ++ List.replicate (1024 - b.length) 32) 0 1024 = some ((b ++ List.replicate (1024 - b.length) 32).take 1024) := slL_to (b := 1024) (by rw [List.length_append, List.length_replicate]; omega)
  rw [hs]
  have hl : ((b ++ List.replicate (1024 - b.length) 32).take 1024).length = 1024 := by rw [List.length_take, List.length_append, List.length_replicate]; omega
  generalize (b ++ List.replicate (1024 - b.length) 32).take 1024 = a at hl
  simp only [Option.bind_some]
  rw [szC_ok (by omega), szC_ok (by rw [List.length_append]; omega), szC_ok (by rw [List.length_append]; omega)]
  simp only [Option.bind_some, if_true]
  rw [Prescan_eq (by rw [List.length_append]; omega), Prescan_eq (by rw [List.length_append]; omega), Prescan_eq (by omega), pre_far hl, pre_far hl]
  simp
end Go.Proofs.YtecpgelhhbbjmaaDoor
