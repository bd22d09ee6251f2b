/- LexLists, plain. -/
import Derived.Test.YteahieldmfehlaaDoorPWords
import Derived.Test.YteahieldmfehlaaDoorU3D
import Derived.Test.YteahieldmfehlaaDoorLLists
namespace Go.Proofs.YteahieldmfehlaaDoor
open Go.Av
theorem spoil_loop : ∀ (k i : Nat) (l : List (List UInt8)), l.length ≤ 1000000000 → i ≤ l.length → l.length - i < k →
    law03_LexLists_L51 k (i : Int) l = some ()
  | 0, i, l, _, _, hk => by omega
  | k + 1, i, l, hl, hi, hk => by
    simp only [law03_LexLists_L51, decide_eq_true_eq]
    by_cases hlt : i < l.length
    · rw [if_pos (by omega), ixL_in hlt, iadd64 (by omega) (by omega), ← Int.natCast_add_one]
      exact spoil_loop k (i + 1) _ (by rw [List.length_set]; omega) (by rw [List.length_set]; omega) (by rw [List.length_set]; omega)
    · rw [if_neg (by omega)]
theorem lists_turn {s : List UInt8} (hl : s.length ≤ 16777216) (k : Nat) (i : Int) (h : i < 2) :
    law03_LexLists_L38 s (listT s) true (k + 1) i = law03_LexLists_L38 s (listT s) true k (iadd .i64 i 1) := by
  have h0 := listT_len s
  have h1 := spoil_loop 1099511627776 0 (listT s).1 (by omega) (by omega) (by omega)
  rw [law03_LexLists_L38, decide_eq_true h, if_pos rfl, List_eq hl]
  simp only [Option.bind_some]
  rw [SameList_eq (by omega)]
  simp only [Option.bind_some, decide_true, Bool.not_true, Bool.false_eq_true, if_false]
  rw [show (0 : Int) = ((0 : Nat) : Int) from rfl, h1]
  rfl
theorem law_LexLists (s : List UInt8) (_hs : True) (hb : s.length + 1 + 0 ≤ 1048576) : law03_LexLists s = some true := by
  unfold law03_LexLists
  rw [shown3, ref_List_eq (by omega)]
  simp only [Option.bind_some]
  rw [show (1099511627776 : Nat) = 1099511627773 + 1 + 1 + 1 from rfl, lists_turn (by omega) _ _ (by decide), lists_turn (by omega) _ _ (by decide)]
  rw [law03_LexLists_L38, if_neg (by decide)]
  rfl
end Go.Proofs.YteahieldmfehlaaDoor
