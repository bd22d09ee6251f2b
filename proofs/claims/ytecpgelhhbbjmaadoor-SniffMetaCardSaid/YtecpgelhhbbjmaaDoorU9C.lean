/- leaf, plain: labels. -/
import Derived.Test.YtecpgelhhbbjmaaDoorU9A
import Derived.Lib.SlTrimSet
namespace Go.Proofs.YtecpgelhhbbjmaaDoor
open Go.Av
set_option linter.unusedVariables false
set_option linter.unusedSimpArgs false
set_option maxRecDepth 100000
def smT (c : UInt8) : UInt8 := if 65 ≤ b2i c ∧ b2i c ≤ 90 then c + bC 32 else c
def spT (c : UInt8) : Bool := ([9, 10, 12, 13, 32] : List UInt8).contains c
def lab1 : List (List UInt8) := [[117, 116, 102, 45, 56], [117, 116, 102, 56], [117, 110, 105, 99, 111, 100, 101, 45, 49, 45, 49, 45, 117, 116, 102, 45, 56], [117, 110, 105, 99, 111, 100, 101, 49, 49, 117, 116, 102, 56], [117, 110, 105, 99, 111, 100, 101, 50, 48, 117, 116, 102, 56], [120, 45, 117, 110, 105, 99, 111, 100, 101, 50, 48, 117, 116, 102, 56]]
def lab2 : List (List UInt8) := [[119, 105, 110, 100, 111, 119, 115, 45, 49, 50, 53, 50], [99, 112, 49, 50, 53, 50], [120, 45, 99, 112, 49, 50, 53, 50], [105, 115, 111, 45, 56, 56, 53, 57, 45, 49], [105, 115, 111, 56, 56, 53, 57, 45, 49], [105, 115, 111, 56, 56, 53, 57, 49], [105, 115, 111, 95, 56, 56, 53, 57, 45, 49], [108, 97, 116, 105, 110, 49], [108, 49], [97, 115, 99, 105, 105], [117, 115, 45, 97, 115, 99, 105, 105]]
def lab3 : List (List UInt8) := [[117, 116, 102, 45, 49, 54], [117, 116, 102, 45, 49, 54, 108, 101], [117, 116, 102, 45, 49, 54, 98, 101], [117, 110, 105, 99, 111, 100, 101], [117, 99, 115, 45, 50]]
def labT (w : List UInt8) : Int := if w ∈ lab1 then 1 else if w ∈ lab2 then 2 else if w ∈ lab3 then 3 else 0
theorem small_loop (s : List UInt8) (hl : s.length ≤ 140737488351232) : ∀ (k i : Nat) (l : List UInt8), i ≤ s.length → s.length - i < k → l = (s.take i).map smT ++ s.drop i → leaf_small_L20 s k (i : Int) l = some (s.map smT)
  | 0, i, l, _, hk, _ => by omega
  | k + 1, i, l, hi, hk, ht => by
    simp only [leaf_small_L20, decide_eq_true_eq]
    have hlen : ((s.take i).map smT).length = i := by simp; omega
    by_cases hlt : i < s.length
    · have hx : l[i]? = some s[i] := by
        rw [ht, List.getElem?_append_right (by omega), hlen, Nat.sub_self, drop_step hlt]; rfl
      have hnx : (s.take (i + 1)).map smT ++ s.drop (i + 1) = l.set i (smT s[i]) := by
        rw [ht, List.set_append_right _ _ (by omega), hlen, Nat.sub_self, drop_step hlt, List.set_cons_zero, List.take_add_one, List.getElem?_eq_getElem hlt, List.map_append]
        simp
      have hsame : smT s[i] = s[i] → l.set i (smT s[i]) = l := fun e => by
        rw [e]; exact (List.getElem?_eq_some_iff.1 hx).2 ▸ List.set_getElem_self _
      have ih := fun (l' : List UInt8) (e : l' = l.set i (smT s[i])) => small_loop s hl k (i + 1) l' (by omega) (by omega) (by rw [e, hnx])
      rw [if_pos (by omega), ixL_nat, hx]
      simp only [Option.bind_some, Int.toNat_natCast]
      have e1 : b2i (bC 65) = 65 := rfl
      have e2 : b2i (bC 90) = 90 := rfl
      rw [e1, e2, iadd64 (by omega) (by omega), ← Int.natCast_add_one]
      by_cases h : 65 ≤ b2i s[i] ∧ b2i s[i] ≤ 90
      · have hs : smT s[i] = s[i] + bC 32 := by unfold smT; rw [if_pos h]
        rw [if_pos h.1, decide_eq_true h.2]
        simp only [Option.bind_some, if_true]
        exact ih _ (by rw [hs])
      · have hs : smT s[i] = s[i] := by unfold smT; rw [if_neg h]
        by_cases h1 : 65 ≤ b2i s[i]
        · rw [if_pos h1, decide_eq_false (fun h2 => h ⟨h1, h2⟩)]
          simp only [Option.bind_some, Bool.false_eq_true, if_false]
          exact ih _ (hsame hs).symm
        · rw [if_neg h1]
          simp only [Option.bind_some, Bool.false_eq_true, if_false]
          exact ih _ (hsame hs).symm
    · rw [if_neg (by omega)]
      rw [ht, List.take_of_length_le (by omega), List.drop_eq_nil_of_le (by omega), List.append_nil]
theorem small_eq {s : List UInt8} (hl : s.length ≤ 140737488351232) : leaf_small s = some (s.map smT) := by
  unfold leaf_small
  rw [szC_ok (by omega)]
  have := small_loop s hl 140737488355328 0 s (by omega) (by omega) (by simp)
  simp only [Int.natCast_zero] at this
  simp only [Option.bind_some, this]
/-- the tail of leaf.Label -/
theorem Label_tail {w r s : List UInt8} (h1 : trimX s [9, 10, 12, 13, 32] = some w) (h2 : leaf_small w = some r) : leaf_Label s = some (labT r) := by
  unfold leaf_Label
  rw [h1]
  simp only [Option.bind_some, h2, decide_eq_true_eq]
  by_cases a0 : r = [117, 116, 102, 45, 56]
  · subst a0; rfl
  by_cases a1 : r = [117, 116, 102, 56]
  · subst a1; rfl
  by_cases a2 : r = [117, 110, 105, 99, 111, 100, 101, 45, 49, 45, 49, 45, 117, 116, 102, 45, 56]
  · subst a2; rfl
  by_cases a3 : r = [117, 110, 105, 99, 111, 100, 101, 49, 49, 117, 116, 102, 56]
  · subst a3; rfl
  by_cases a4 : r = [117, 110, 105, 99, 111, 100, 101, 50, 48, 117, 116, 102, 56]
  · subst a4; rfl
  by_cases a5 : r = [120, 45, 117, 110, 105, 99, 111, 100, 101, 50, 48, 117, 116, 102, 56]
  · subst a5; rfl
  by_cases a6 : r = [119, 105, 110, 100, 111, 119, 115, 45, 49, 50, 53, 50]
  · subst a6; rfl
  by_cases a7 : r = [99, 112, 49, 50, 53, 50]
  · subst a7; rfl
  by_cases a8 : r = [120, 45, 99, 112, 49, 50, 53, 50]
  · subst a8; rfl
  by_cases a9 : r = [105, 115, 111, 45, 56, 56, 53, 57, 45, 49]
  · subst a9; rfl
  by_cases a10 : r = [105, 115, 111, 56, 56, 53, 57, 45, 49]
  · subst a10; rfl
  by_cases a11 : r = [105, 115, 111, 56, 56, 53, 57, 49]
  · subst a11; rfl
  by_cases a12 : r = [105, 115, 111, 95, 56, 56, 53, 57, 45, 49]
  · subst a12; rfl
  by_cases a13 : r = [108, 97, 116, 105, 110, 49]
  · subst a13; rfl
  by_cases a14 : r = [108, 49]
  · subst a14; rfl
  by_cases a15 : r = [97, 115, 99, 105, 105]
  · subst a15; rfl
  by_cases a16 : r = [117, 115, 45, 97, 115, 99, 105, 105]
  · subst a16; rfl
  by_cases a17 : r = [117, 116, 102, 45, 49, 54]
  · subst a17; rfl
  by_cases a18 : r = [117, 116, 102, 45, 49, 54, 108, 101]
  · subst a18; rfl
  by_cases a19 : r = [117, 116, 102, 45, 49, 54, 98, 101]
  · subst a19; rfl
  by_cases a20 : r = [117, 110, 105, 99, 111, 100, 101]
  · subst a20; rfl
  by_cases a21 : r = [117, 99, 115, 45, 50]
  · subst a21; rfl
  have n1 : r ∉ lab1 := by simp only [lab1, List.mem_cons, List.not_mem_nil, or_false, not_or]; exact ⟨a0, a1, a2, a3, a4, a5⟩
  have n2 : r ∉ lab2 := by simp only [lab2, List.mem_cons, List.not_mem_nil, or_false, not_or]; exact ⟨a6, a7, a8, a9, a10, a11, a12, a13, a14, a15, a16⟩
  have n3 : r ∉ lab3 := by simp only [lab3, List.mem_cons, List.not_mem_nil, or_false, not_or]; exact ⟨a17, a18, a19, a20, a21⟩
  unfold labT
  rw [if_neg n1, if_neg n2, if_neg n3]
  simp only [a0, a1, a2, a3, a4, a5, a6, a7, a8, a9, a10, a11, a12, a13, a14, a15, a16, a17, a18, a19, a20, a21, if_false, decide_false, Option.bind_some, Bool.false_eq_true]
theorem trimX_eq {s : List UInt8} (hl : s.length ≤ 140737488351232) : trimX s [9, 10, 12, 13, 32] = some (Lib.trimS s [9, 10, 12, 13, 32]) := by
  unfold trimX
  rw [if_pos ⟨by decide, by decide, by omega⟩]
theorem trimS_len (s cs : List UInt8) : (Lib.trimS s cs).length ≤ s.length := by
  unfold Lib.trimS Lib.trimLeftS Lib.trimRightS
  refine Nat.le_trans (List.dropWhile_sublist _).length_le ?_
  rw [List.length_reverse]
  exact Nat.le_trans (List.dropWhile_sublist _).length_le (by rw [List.length_reverse]; exact Nat.le_refl _)
theorem Label_eq {s : List UInt8} (hl : s.length ≤ 140737488351232) : leaf_Label s = some (labT ((Lib.trimS s [9, 10, 12, 13, 32]).map smT)) :=
  Label_tail (trimX_eq hl) (small_eq (Nat.le_trans (trimS_len _ _) hl))
theorem Small_eq (c : UInt8) : ref09_Small c = some (smT c) := of_decide_eq_true (all256 (p := fun c => decide (ref09_Small c = some (smT c))) (by kernel_rfl) c)
theorem Lower_loop (s : List UInt8) (hl : s.length ≤ 140737488351232) : ∀ (k i : Nat) (l : List UInt8), i ≤ s.length → s.length - i < k → l = (s.take i).map smT ++ s.drop i → ref09_Lower_L17 k (i : Int) l = some (s.map smT)
  | 0, i, l, _, hk, _ => by omega
  | k + 1, i, l, hi, hk, ht => by
    simp only [ref09_Lower_L17, decide_eq_true_eq]
    have hlen : ((s.take i).map smT).length = i := by simp; omega
    have hll : l.length = s.length := by rw [ht, List.length_append, hlen, List.length_drop]; omega
    by_cases hlt : i < s.length
    · have hx : l[i]? = some s[i] := by
        rw [ht, List.getElem?_append_right (by omega), hlen, Nat.sub_self, drop_step hlt]; rfl
      rw [if_pos (by omega), ixL_nat, hx]
      simp only [Option.bind_some, Small_eq, Int.toNat_natCast]
      rw [iadd64 (by omega) (by omega), ← Int.natCast_add_one]
      refine Lower_loop s hl k (i + 1) _ (by omega) (by omega) ?_
      rw [ht, List.set_append_right _ _ (by omega), hlen, Nat.sub_self, drop_step hlt, List.set_cons_zero, List.take_add_one, List.getElem?_eq_getElem hlt, List.map_append]
      simp
    · rw [if_neg (by omega)]
      rw [ht, List.take_of_length_le (by omega), List.drop_eq_nil_of_le (by omega), List.append_nil]
theorem Lower_eq {s : List UInt8} (hl : s.length ≤ 140737488351232) : ref09_Lower s = some (s.map smT) := by
  unfold ref09_Lower
  rw [szC_ok (by omega)]
  have := Lower_loop s hl 140737488355328 0 s (by omega) (by omega) (by simp)
  simp only [Int.natCast_zero] at this
  simp only [Option.bind_some, this]
end Go.Proofs.YtecpgelhhbbjmaaDoor
