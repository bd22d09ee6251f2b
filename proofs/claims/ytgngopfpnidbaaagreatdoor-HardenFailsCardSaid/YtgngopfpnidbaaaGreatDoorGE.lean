/- Functions of the program, and pure ones that go the same ways: that the program's return what these compute. -/
import Derived.Test.YtgngopfpnidbaaaGreatDoorGK
import Derived.Test.YtgngopfpnidbaaaGreatDoorGJ
import Derived.Test.YtgngopfpnidbaaaGreatDoorAvJ
namespace Go.Proofs.YtgngopfpnidbaaaGreatDoor
open Go.Av
set_option linter.unusedVariables false
set_option linter.unusedSimpArgs false
/-- colander/colanderlaw21.shown -/
def law21_shown : Option (Bool) :=
  (harden_Forward ([71, 69, 84], [47], [([67, 111, 110, 110, 101, 99, 116, 105, 111, 110], [120, 44, 32, 72, 111, 115, 116]), ([88], [49]), ([72, 111, 115, 116], [97]), ([121], [50])]) 5).bind fun r1 =>
  (harden_Kind (0, [], [([67, 111, 110, 116, 101, 110, 116, 45, 84, 121, 112, 101], [84, 69, 88, 84, 47, 104, 116, 109, 108, 59, 99, 104, 97, 114, 115, 101, 116, 61, 120])])).bind fun r2 =>
  if decide (((List.length r1.2.2 : Nat) : Int) = 3) then
    (ixL r1.2.2 2).bind fun x3 =>
    if (decide (x3.1 = [67, 111, 110, 116, 101, 110, 116, 45, 76, 101, 110, 103, 116, 104]) && decide (x3.2 = [53])) then
      if r2.1 then
        if decide (r2.2.1 = [120]) then
          if decide (r2.2.2 = 0) then
            (harden_Fail 502 false).bind fun r4 =>
            some (decide (40 < ((List.length r4 : Nat) : Int)))
          else
            some false
        else
          some false
      else
        some false
    else
      some false
  else
    some false
set_option maxRecDepth 100000 in
set_option maxHeartbeats 40000000 in
theorem law21_shown_ok {r : Bool} (hP : law21_shown = some r) : CallOK Tryz.prog 8 [] (.bool r) [] := by
  unfold law21_shown at hP
  refine co 48 [.tmp 0] Tryz.func8 ?_
  refine J_seq ?_
  refine J_region (by kernel_rfl) ?_
  (try simp only [go_sem, Nat.reduceEqDiff, reduceIte])
  refine hold2 (then_n ?_)
  refine J_seq ?_
  refine J_region (by kernel_rfl) ?_
  (try simp only [go_sem, Nat.reduceEqDiff, reduceIte, Nat.reduceAdd, Nat.reduceSub, Nat.reduceLT, Nat.reduceMul, reduceCtorEq, Int.reduceToNat, Int.reduceLE, Int.reduceLT, Nat.reduceLeDiff])
  obtain ⟨r1, hr1, hP⟩ := bind_cases hP
  refine call_ok [.agg [.str [71, 69, 84], .str [47], .view 2 (List.map enc_api_Field [([67, 111, 110, 110, 101, 99, 116, 105, 111, 110], [120, 44, 32, 72, 111, 115, 116]), ([88], [49]), ([72, 111, 115, 116], [97]), ([121], [50])])], .int .i64 5] (harden_Forward_ok hr1) ⟨argR_agg ⟨argC_m false rfl, argC_m false rfl, argC_m false (by simp only [arg, go_sem, Nat.reduceEqDiff, reduceIte]), trivial⟩, argR_m false rfl, trivial⟩ ?_
  (try simp only [go_sem, Nat.reduceEqDiff, reduceIte])
  refine hold2 (then_n ?_)
  refine J_seq ?_
  refine J_region (by kernel_rfl) ?_
  (try simp only [go_sem, Nat.reduceEqDiff, reduceIte, Nat.reduceAdd, Nat.reduceSub, Nat.reduceLT, Nat.reduceMul, reduceCtorEq, Int.reduceToNat, Int.reduceLE, Int.reduceLT, Nat.reduceLeDiff])
  obtain ⟨r2, hr2, hP⟩ := bind_cases hP
  refine call_ok [.agg [.int .i64 0, .str [], .view 2 (List.map enc_api_Field [([67, 111, 110, 116, 101, 110, 116, 45, 84, 121, 112, 101], [84, 69, 88, 84, 47, 104, 116, 109, 108, 59, 99, 104, 97, 114, 115, 101, 116, 61, 120])])]] (harden_Kind_ok hr2) ⟨argR_agg ⟨argC_m false rfl, argC_m false rfl, argC_m false (by simp only [arg, go_sem, Nat.reduceEqDiff, reduceIte]), trivial⟩, trivial⟩ ?_
  (try simp only [go_sem, Nat.reduceEqDiff, reduceIte])
  refine hold2 (then_n ?_)
  refine J_seq ?_
  refine J_region (by kernel_rfl) ?_
  (try simp only [go_sem, Nat.reduceEqDiff, reduceIte])
  rcases ite_cases hP with ⟨hc, hP⟩ | ⟨hc, hP⟩
  · refine guard_is hc ?_
    (try simp only [go_sem, Nat.reduceEqDiff, reduceIte])
    obtain ⟨x3, hx3, hP⟩ := bind_cases hP
    refine ixO_of hx3 ?_
    (try simp only [go_sem, Nat.reduceEqDiff, reduceIte])
    refine getK_of (f := enc_api_Field) hx3 ?_
    (try simp only [go_sem, Nat.reduceEqDiff, reduceIte, Nat.reduceAdd, Nat.reduceSub, Nat.reduceLT, Nat.reduceMul, reduceCtorEq, Int.reduceToNat, Int.reduceLE, Int.reduceLT, Nat.reduceLeDiff])
    rcases ite_cases hP with ⟨hc, hP⟩ | ⟨hc, hP⟩
    · refine guard_is hc ?_
      (try simp only [go_sem, Nat.reduceEqDiff, reduceIte])
      rcases ite_cases hP with ⟨hc, hP⟩ | ⟨hc, hP⟩
      · refine guard_is hc ?_
        (try simp only [go_sem, Nat.reduceEqDiff, reduceIte])
        rcases ite_cases hP with ⟨hc, hP⟩ | ⟨hc, hP⟩
        · refine guard_is hc ?_
          (try simp only [go_sem, Nat.reduceEqDiff, reduceIte])
          rcases ite_cases hP with ⟨hc, hP⟩ | ⟨hc, hP⟩
          · refine guard_is hc ?_
            (try simp only [go_sem, Nat.reduceEqDiff, reduceIte])
            obtain ⟨r4, hr4, hP⟩ := bind_cases hP
            refine call_ok [.int .i64 502, .bool false] (harden_Fail_ok hr4) ⟨argR_m false rfl, argR_m false rfl, trivial⟩ ?_
            (try simp only [go_sem, Nat.reduceEqDiff, reduceIte])
            refine hold2 (then_n ?_)
            refine J_ret (fin_ret ?_)
            obtain rfl := Option.some.inj hP
            (try simp only [go_sem, Nat.reduceEqDiff, reduceIte])
            exact fo []
          · refine guard_not hc ?_
            (try simp only [go_sem, Nat.reduceEqDiff, reduceIte])
            refine hold2 (then_n ?_)
            refine J_ret (fin_ret ?_)
            obtain rfl := Option.some.inj hP
            (try simp only [go_sem, Nat.reduceEqDiff, reduceIte])
            exact fo []
        · refine guard_not hc ?_
          (try simp only [go_sem, Nat.reduceEqDiff, reduceIte])
          refine hold2 (then_n ?_)
          refine J_ret (fin_ret ?_)
          obtain rfl := Option.some.inj hP
          (try simp only [go_sem, Nat.reduceEqDiff, reduceIte])
          exact fo []
      · refine guard_not hc ?_
        (try simp only [go_sem, Nat.reduceEqDiff, reduceIte])
        refine hold2 (then_n ?_)
        refine J_ret (fin_ret ?_)
        obtain rfl := Option.some.inj hP
        (try simp only [go_sem, Nat.reduceEqDiff, reduceIte, Nat.reduceAdd, Nat.reduceSub, Nat.reduceLT, Nat.reduceMul, reduceCtorEq, Int.reduceToNat, Int.reduceLE, Int.reduceLT, Nat.reduceLeDiff])
        exact fo []
    · refine guard_not hc ?_
      (try simp only [go_sem, Nat.reduceEqDiff, reduceIte])
      refine hold2 (then_n ?_)
      refine J_ret (fin_ret ?_)
      obtain rfl := Option.some.inj hP
      (try simp only [go_sem, Nat.reduceEqDiff, reduceIte])
      exact fo []
  · refine guard_not hc ?_
    (try simp only [go_sem, Nat.reduceEqDiff, reduceIte])
    refine hold2 (then_n ?_)
    refine J_ret (fin_ret ?_)
    obtain rfl := Option.some.inj hP
    (try simp only [go_sem, Nat.reduceEqDiff, reduceIte])
    exact fo []
end Go.Proofs.YtgngopfpnidbaaaGreatDoor
