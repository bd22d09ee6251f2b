/- LexMedias, plain. -/
import Derived.Test.YteahieldmfehlaaDoorPWords
import Derived.Test.YteahieldmfehlaaDoorU3G
import Derived.Test.YteahieldmfehlaaDoorLMedias
namespace Go.Proofs.YteahieldmfehlaaDoor
open Go.Av
theorem spoilm_loop : ∀ (k i : Nat) (l : List (List UInt8 × List UInt8)), l.length ≤ 1000000000 → i ≤ l.length → l.length - i < k →
    law03_LexMedias_L52 k (i : Int) l = some ()
  | 0, i, l, _, _, hk => by omega
  | k + 1, i, l, hl, hi, hk => by
    simp only [law03_LexMedias_L52, decide_eq_true_eq]
    by_cases hlt : i < l.length
    · rw [if_pos (by omega), ixL_in hlt, iadd64 (by omega) (by omega), ← Int.natCast_add_one]
      exact spoilm_loop k (i + 1) _ (by rw [List.length_set]; omega) (by rw [List.length_set]; omega) (by rw [List.length_set]; omega)
    · rw [if_neg (by omega)]
theorem mediaT_code (s : List UInt8) : (mediaT s).2 = 0 ∨ (mediaT s).2 = 6 := by
  unfold mediaT
  repeat' split
  all_goals first | exact Or.inl rfl | exact Or.inr rfl
theorem medias_turn {s : List UInt8} (hl : s.length ≤ 1048576) (k : Nat) (i : Int) (h : i < 2) :
    law03_LexMedias_L39 s (mediaT s) true (k + 1) i = law03_LexMedias_L39 s (mediaT s) true k (iadd .i64 i 1) := by
  have h0 := mediaT_len s
  have h2 := wtP_len (mediaT s).1.2.2
  have h1 := spoilm_loop 1099511627776 0 (mediaT s).1.2.2 (by omega) (by omega) (by omega)
  rw [law03_LexMedias_L39, decide_eq_true h, if_pos rfl, Media_eq (by omega)]
  simp only [Option.bind_some]
  rw [SameMedia_eq (by show (mediaT s).1.2.2.length ≤ _; omega)]
  rcases mediaT_code s with hc | hc
  · simp only [hc, Option.bind_some, decide_true, Bool.not_true, Bool.false_eq_true, if_false]
    rw [show (0 : Int) = ((0 : Nat) : Int) from rfl, h1]
    rfl
  · simp only [hc, Option.bind_some, decide_true, Bool.not_true, Bool.false_eq_true, if_false]
    rw [show (0 : Int) = ((0 : Nat) : Int) from rfl, h1]
    rfl
theorem medias_core (s : List UInt8) (m : Med) (hb : s.length ≤ 1048576) (h1 : m.1.length ≤ 1048576) (h2 : m.2.1.length ≤ 1048576) (h3 : wtP m.2.2 ≤ 16777216) : law03_LexMedias s m = some true := by
  have h0 := mediaT_len s
  unfold law03_LexMedias
  rw [shown3, ref_Media_eq (by omega)]
  simp only [Option.bind_some]
  rw [show (1099511627776 : Nat) = 1099511627773 + 1 + 1 + 1 from rfl, medias_turn (by omega) _ _ (by decide), medias_turn (by omega) _ _ (by decide)]
  rw [law03_LexMedias_L39, if_neg (by decide)]
  simp only [Option.bind_some]
  rw [Text_eq (m := (m.1, m.2.1, m.2.2)) (by show m.1.length ≤ _; omega) (by show m.2.1.length ≤ _; omega) h3, ref_Text_eq (m := (m.1, m.2.1, m.2.2)) (by show m.1.length ≤ _; omega) (by show m.2.1.length ≤ _; omega) h3,
    Text_eq (m := ((mediaT s).1.1, (mediaT s).1.2.1, (mediaT s).1.2.2)) (by show (mediaT s).1.1.length ≤ _; omega) (by show (mediaT s).1.2.1.length ≤ _; omega) (by show wtP (mediaT s).1.2.2 ≤ _; omega),
    ref_Text_eq (m := ((mediaT s).1.1, (mediaT s).1.2.1, (mediaT s).1.2.2)) (by show (mediaT s).1.1.length ≤ _; omega) (by show (mediaT s).1.2.1.length ≤ _; omega) (by show wtP (mediaT s).1.2.2 ≤ _; omega)]
  simp
end Go.Proofs.YteahieldmfehlaaDoor
