/- Functions of the program, and pure ones that go the same ways: that the program's return what these compute. -/
import Derived.Test.YtgngopfpnidbaaaGreatDoorGH
import Derived.Test.YtgngopfpnidbaaaGreatDoorGR
import Derived.Test.YtgngopfpnidbaaaGreatDoorAvJ
namespace Go.Proofs.YtgngopfpnidbaaaGreatDoor
open Go.Av
set_option linter.unusedVariables false
set_option linter.unusedSimpArgs false
/-- colander/colanderref05.SameResponse -/
def ref05_SameResponse (a1 : Int × (List UInt8) × (List ((List UInt8) × (List UInt8)))) (b2 : Int × (List UInt8) × (List ((List UInt8) × (List UInt8)))) : Option (Bool) :=
  (ref04_Same a1.2.2 b2.2.2).bind fun r3 =>
  if decide (a1.1 = b2.1) then
    if decide (a1.2.1 = b2.2.1) then
      some r3
    else
      some false
  else
    some false
set_option maxRecDepth 100000 in
set_option maxHeartbeats 40000000 in
theorem ref05_SameResponse_ok {a1 : Int × (List UInt8) × (List ((List UInt8) × (List UInt8)))} {b2 : Int × (List UInt8) × (List ((List UInt8) × (List UInt8)))} {r : Bool} (hP : ref05_SameResponse a1 b2 = some r) : CallOK Tryz.prog 20 [.agg [.int .i64 a1.1, .str a1.2.1, .view 2 (List.map enc_api_Field a1.2.2)], .agg [.int .i64 b2.1, .str b2.2.1, .view 2 (List.map enc_api_Field b2.2.2)]] (.bool r) [] := by
  unfold ref05_SameResponse at hP
  refine co 26 [.tmp 4] Tryz.func20 ?_
  refine J_seq ?_
  refine J_region (by kernel_rfl) ?_
  (try simp only [go_sem, Nat.reduceEqDiff, ↓reduceIte])
  refine hold2 (then_n ?_)
  refine J_seq ?_
  refine J_region (by kernel_rfl) ?_
  (try simp only [go_sem, Nat.reduceEqDiff, ↓reduceIte])
  obtain ⟨r3, hr3, hP⟩ := bind_cases hP
  refine call_ok [.view 2 (List.map enc_api_Field a1.2.2), .view 2 (List.map enc_api_Field b2.2.2)] (ref04_Same_ok hr3) ⟨argR_m false rfl, argR_m false rfl, trivial⟩ ?_
  (try simp only [go_sem, Nat.reduceEqDiff, ↓reduceIte])
  refine hold2 (then_n ?_)
  refine J_seq ?_
  refine J_region (by kernel_rfl) ?_
  (try simp only [go_sem, Nat.reduceEqDiff, ↓reduceIte])
  rcases ite_cases hP with ⟨hc, hP⟩ | ⟨hc, hP⟩
  · refine guard_is hc ?_
    (try simp only [go_sem, Nat.reduceEqDiff, ↓reduceIte])
    rcases ite_cases hP with ⟨hc, hP⟩ | ⟨hc, hP⟩
    · refine guard_is hc ?_
      (try simp only [go_sem, Nat.reduceEqDiff, ↓reduceIte])
      refine hold2 (then_n ?_)
      refine J_ret (fin_ret ?_)
      obtain rfl := Option.some.inj hP
      (try simp only [go_sem, Nat.reduceEqDiff, ↓reduceIte])
      exact fo []
    · refine guard_not hc ?_
      (try simp only [go_sem, Nat.reduceEqDiff, ↓reduceIte])
      refine hold2 (then_n ?_)
      refine J_ret (fin_ret ?_)
      obtain rfl := Option.some.inj hP
      (try simp only [go_sem, Nat.reduceEqDiff, ↓reduceIte])
      exact fo []
  · refine guard_not hc ?_
    (try simp only [go_sem, Nat.reduceEqDiff, ↓reduceIte])
    refine hold2 (then_n ?_)
    refine J_ret (fin_ret ?_)
    obtain rfl := Option.some.inj hP
    (try simp only [go_sem, Nat.reduceEqDiff, ↓reduceIte])
    exact fo []
end Go.Proofs.YtgngopfpnidbaaaGreatDoor
