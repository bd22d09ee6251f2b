/- Functions of the program, and pure ones that go the same ways: that the program's return what these compute. -/
import Derived.Test.YtfhlehkgiamejaaGreatDoorLibN
import Derived.Test.YtfhlehkgiamejaaGreatDoorAvPj
namespace Go.Proofs.YtfhlehkgiamejaaGreatDoor
open Go.Av
set_option linter.unusedVariables false
set_option linter.unusedSimpArgs false
/-- internal/stringslite.HasPrefix -/
def stringslite_HasPrefix (s1 : List UInt8) (prefix2 : List UInt8) : Option (Bool) :=
  if decide ((List.length prefix2 : Int) ≤ (List.length s1 : Int)) then
    (slL s1 0 (List.length prefix2 : Int)).bind fun s3 =>
    some (decide (s3 = prefix2))
  else
    some false
set_option maxRecDepth 100000 in
set_option maxHeartbeats 40000000 in
theorem stringslite_HasPrefix_ok {s1 : List UInt8} {prefix2 : List UInt8} {r : Bool} (hP : stringslite_HasPrefix s1 prefix2 = some r) : CallOK Tryz.prog 88 [.str s1, .str prefix2] (.bool r) [] := by
  unfold stringslite_HasPrefix at hP
  refine co 18 [.tmp 4] Tryz.func88 ?_
  refine J_seq ?_
  refine J_region (by kernel_rfl) ?_
  (try simp only [go_sem, Nat.reduceEqDiff, ↓reduceIte])
  refine hold2 (then_n ?_)
  refine J_seq ?_
  refine J_region (by kernel_rfl) ?_
  (try simp only [go_sem, Nat.reduceEqDiff, ↓reduceIte])
  rcases ite_cases hP with ⟨hc, hP⟩ | ⟨hc, hP⟩
  · refine guard_is hc ?_
    (try simp only [go_sem, Nat.reduceEqDiff, ↓reduceIte])
    obtain ⟨s3, hs3, hP⟩ := bind_cases hP
    refine slS_of hs3 ?_
    (try simp only [go_sem, Nat.reduceEqDiff, ↓reduceIte])
    refine hold2 (then_n ?_)
    refine J_ret (fin_ret ?_)
    obtain rfl := Option.some.inj hP
    (try simp only [go_sem, Nat.reduceEqDiff, ↓reduceIte])
    exact fo []
  · refine guard_not hc ?_
    (try simp only [go_sem, Nat.reduceEqDiff, ↓reduceIte])
    refine hold2 (then_n ?_)
    refine J_ret (fin_ret ?_)
    obtain rfl := Option.some.inj hP
    (try simp only [go_sem, Nat.reduceEqDiff, ↓reduceIte])
    exact fo []
/-- internal/stringslite.CutPrefix -/
def stringslite_CutPrefix (s1 : List UInt8) (prefix2 : List UInt8) : Option ((List UInt8) × Bool) :=
  (stringslite_HasPrefix s1 prefix2).bind fun r3 =>
  if !r3 then
    some (s1, false)
  else
    (slL s1 (List.length prefix2 : Int) (List.length s1 : Int)).bind fun s4 =>
    some (s4, true)
set_option maxRecDepth 100000 in
set_option maxHeartbeats 40000000 in
theorem stringslite_CutPrefix_ok {s1 : List UInt8} {prefix2 : List UInt8} {r : (List UInt8) × Bool} (hP : stringslite_CutPrefix s1 prefix2 = some r) : CallOK Tryz.prog 78 [.str s1, .str prefix2] (.tup [.str r.1, .bool r.2]) [] := by
  unfold stringslite_CutPrefix at hP
  refine co 15 [.tmp 4, .tmp 5] Tryz.func78 ?_
  refine J_seq ?_
  refine J_region (by kernel_rfl) ?_
  (try simp only [go_sem, Nat.reduceEqDiff, ↓reduceIte])
  refine hold2 (then_n ?_)
  refine J_seq ?_
  refine J_seq ?_
  refine J_region (by kernel_rfl) ?_
  (try simp only [go_sem, Nat.reduceEqDiff, ↓reduceIte])
  obtain ⟨r3, hr3, hP⟩ := bind_cases hP
  refine call_ok [.str s1, .str prefix2] (stringslite_HasPrefix_ok hr3) ⟨argR_m false rfl, argR_m false rfl, trivial⟩ ?_
  (try simp only [go_sem, Nat.reduceEqDiff, ↓reduceIte])
  refine hold2 (then_n ?_)
  refine J_condV rfl ?_
  (try simp only [go_sem, Nat.reduceEqDiff, ↓reduceIte])
  rcases ite_cases hP with ⟨hc, hP⟩ | ⟨hc, hP⟩
  · refine condV_t hc ?_
    refine J_seq ?_
    refine J_region (by kernel_rfl) ?_
    (try simp only [go_sem, Nat.reduceEqDiff, ↓reduceIte])
    refine hold2 (then_n ?_)
    refine J_ret (then_ret (fin_ret ?_))
    obtain rfl := Option.some.inj hP
    (try simp only [go_sem, Nat.reduceEqDiff, ↓reduceIte])
    exact fo []
  · refine condV_f hc ?_
    refine J_skip (then_n ?_)
    refine J_seq ?_
    refine J_region (by kernel_rfl) ?_
    (try simp only [go_sem, Nat.reduceEqDiff, ↓reduceIte])
    obtain ⟨s4, hs4, hP⟩ := bind_cases hP
    refine slS_of hs4 ?_
    (try simp only [go_sem, Nat.reduceEqDiff, ↓reduceIte])
    refine hold2 (then_n ?_)
    refine J_ret (fin_ret ?_)
    obtain rfl := Option.some.inj hP
    (try simp only [go_sem, Nat.reduceEqDiff, ↓reduceIte])
    exact fo []
/-- strings.CutPrefix -/
def strings_CutPrefix (s1 : List UInt8) (prefix2 : List UInt8) : Option ((List UInt8) × Bool) :=
  (stringslite_CutPrefix s1 prefix2).bind fun r3 =>
  some (r3.1, r3.2)
set_option maxRecDepth 100000 in
set_option maxHeartbeats 40000000 in
theorem strings_CutPrefix_ok {s1 : List UInt8} {prefix2 : List UInt8} {r : (List UInt8) × Bool} (hP : strings_CutPrefix s1 prefix2 = some r) : CallOK Tryz.prog 69 [.str s1, .str prefix2] (.tup [.str r.1, .bool r.2]) [] := by
  unfold strings_CutPrefix at hP
  refine co 11 [.tmp 4, .tmp 5] Tryz.func69 ?_
  refine J_seq ?_
  refine J_region (by kernel_rfl) ?_
  (try simp only [go_sem, Nat.reduceEqDiff, ↓reduceIte])
  refine hold2 (then_n ?_)
  refine J_seq ?_
  refine J_region (by kernel_rfl) ?_
  (try simp only [go_sem, Nat.reduceEqDiff, ↓reduceIte])
  obtain ⟨r3, hr3, hP⟩ := bind_cases hP
  refine call_ok [.str s1, .str prefix2] (stringslite_CutPrefix_ok hr3) ⟨argR_m false rfl, argR_m false rfl, trivial⟩ ?_
  (try simp only [go_sem, Nat.reduceEqDiff, ↓reduceIte])
  refine hold2 (then_n ?_)
  refine J_ret (fin_ret ?_)
  obtain rfl := Option.some.inj hP
  (try simp only [go_sem, Nat.reduceEqDiff, ↓reduceIte])
  exact fo []
end Go.Proofs.YtfhlehkgiamejaaGreatDoor
