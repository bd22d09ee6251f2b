/- Utf8Joins, plain. -/
import Derived.Test.YtcmmmomkfamodaaU8J
import Derived.Test.YtcmmmomkfamodaaLJoins
namespace Go.Proofs.Ytcmmmomkfamodaa
open Go.Av
theorem law_Utf8Joins (a b : List UInt8) (_ha : ∀ x ∈ a, True) (_hv : ∀ x ∈ b, True) (hb : sumM (fun _ => 1) a + 1 + (sumM (fun _ => 1) b + 1) ≤ 1048576) : law08_Utf8Joins a b = some true := by
  rw [sum_one, sum_one] at hb
  have la : (a ++ b).length = a.length + b.length := List.length_append
  have h1 := encL_run _ a (Nat.le_refl _)
  have h2 := encL_run _ b (Nat.le_refl _)
  have z1 := szC_ok (n := a.length) (by omega)
  have z2 := szC_ok (n := (a ++ b).length) (by omega)
  have z3 := szC_ok (n := (encL (runesT a) ++ encL (runesT b)).length) (by rw [List.length_append]; omega)
  have d1 := Decode_eq (b := a ++ b) (by omega)
  have d2 := Decode_eq (b := a) (by omega)
  have d3 := Decode_eq (b := b) (by omega)
  unfold law08_Utf8Joins
  rw [shown_true]
  have e128 : b2i (bC 128) = 128 := rfl
  have e192 : b2i (bC 192) = 192 := rfl
  simp only [Option.bind_some, decide_eq_true_eq, e128, e192, z1, z2, d1, d2, d3, z3]
  cases b with
  | nil => simp [runesT_nil, encL]
  | cons x r =>
    have hx : ixL (x :: r) 0 = some x := rfl
    have hl : (0 : Int) < ((x :: r).length : Int) := by simp only [List.length_cons]; omega
    rw [if_pos hl, hx]
    simp only [Option.bind_some]
    by_cases g : 128 ≤ b2i x ∧ b2i x < 192
    · simp [g.1, g.2]
    · have hf : freshT (x :: r) := by intro y s hy; cases hy; omega
      have e : (if 128 ≤ b2i x then some (decide (b2i x < 192)) else some false) = some false := by
        by_cases g1 : 128 ≤ b2i x
        · rw [if_pos g1, decide_eq_false (show ¬ b2i x < 192 by omega)]
        · simp [g1]
      rw [e, runesT_join hf a, encL_app]
      simp
end Go.Proofs.Ytcmmmomkfamodaa
