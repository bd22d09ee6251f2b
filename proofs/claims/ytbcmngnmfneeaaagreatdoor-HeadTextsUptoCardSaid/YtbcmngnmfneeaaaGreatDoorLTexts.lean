/- Functions of the program, and pure ones that go the same ways: that the program's return what these compute. -/
import Derived.Test.YtbcmngnmfneeaaaGreatDoorGIh
import Derived.Test.YtbcmngnmfneeaaaGreatDoorGE
import Derived.Test.YtbcmngnmfneeaaaGreatDoorAvY
import Derived.Test.YtbcmngnmfneeaaaGreatDoorAvJ
namespace Go.Proofs.YtbcmngnmfneeaaaGreatDoor
open Go.Av
set_option linter.unusedVariables false
set_option linter.unusedSimpArgs false
/-- colander/colanderlaw05.HeadTexts -/
def law05_HeadTexts (q1 : (List UInt8) × (List UInt8) × (List ((List UInt8) × (List UInt8)))) (p2 : Int × (List UInt8) × (List ((List UInt8) × (List UInt8)))) : Option (Bool) :=
  (law05_shown).bind fun r3 =>
  (szC (List.length (q1.2.2 : List ((List UInt8) × (List UInt8))))).bind fun _ =>
  (szC (List.length (p2.2.2 : List ((List UInt8) × (List UInt8))))).bind fun _ =>
  (head_RequestText (q1.1, q1.2.1, q1.2.2)).bind fun r6 =>
  (head_ResponseText (p2.1, p2.2.1, p2.2.2)).bind fun r7 =>
  (ref04_Same q1.2.2 q1.2.2).bind fun r8 =>
  (ref04_Same p2.2.2 p2.2.2).bind fun r9 =>
  if r3 then
    if r8 then
      if r9 then
        (ref05_RequestText (q1.1, q1.2.1, q1.2.2)).bind fun r10 =>
        if decide (r6 = r10) then
          (ref05_ResponseText (p2.1, p2.2.1, p2.2.2)).bind fun r11 =>
          some (decide (r7 = r11))
        else
          some false
      else
        some false
    else
      some false
  else
    some false
set_option maxRecDepth 100000 in
set_option maxHeartbeats 40000000 in
theorem law05_HeadTexts_ok {q1 : (List UInt8) × (List UInt8) × (List ((List UInt8) × (List UInt8)))} {p2 : Int × (List UInt8) × (List ((List UInt8) × (List UInt8)))} {r : Bool} (hP : law05_HeadTexts q1 p2 = some r) : CallOK Tryz.prog 4 [.agg [.str q1.1, .str q1.2.1, .view 2 (List.map enc_api_Field q1.2.2)], .agg [.int .i64 p2.1, .str p2.2.1, .view 2 (List.map enc_api_Field p2.2.2)]] (.bool r) [] := by
  unfold law05_HeadTexts at hP
  refine co 62 [.tmp 4] Tryz.func4 ?_
  refine J_seq ?_
  refine J_region (by kernel_rfl) ?_
  (try simp only [go_sem, Nat.reduceEqDiff, ↓reduceIte, Nat.reduceAdd, Nat.reduceSub, Nat.reduceLT, Nat.reduceMul, reduceCtorEq, Int.reduceToNat, Int.reduceLE, Int.reduceLT, Nat.reduceLeDiff])
  refine hold2 (then_n ?_)
  refine J_seq ?_
  refine J_region (by kernel_rfl) ?_
  (try simp only [go_sem, Nat.reduceEqDiff, ↓reduceIte, Nat.reduceAdd, Nat.reduceSub, Nat.reduceLT, Nat.reduceMul, reduceCtorEq, Int.reduceToNat, Int.reduceLE, Int.reduceLT, Nat.reduceLeDiff])
  obtain ⟨r3, hr3, hP⟩ := bind_cases hP
  refine call_ok [] (law05_shown_ok hr3) trivial ?_
  (try simp only [go_sem, Nat.reduceEqDiff, ↓reduceIte, Nat.reduceAdd, Nat.reduceSub, Nat.reduceLT, Nat.reduceMul, reduceCtorEq, Int.reduceToNat, Int.reduceLE, Int.reduceLT, Nat.reduceLeDiff])
  refine hold2 (then_n ?_)
  refine J_seq ?_
  refine J_region (by kernel_rfl) ?_
  (try simp only [go_sem, Nat.reduceEqDiff, ↓reduceIte, Nat.reduceAdd, Nat.reduceSub, Nat.reduceLT, Nat.reduceMul, reduceCtorEq, Int.reduceToNat, Int.reduceLE, Int.reduceLT, Nat.reduceLeDiff])
  obtain ⟨_, hz4, hP⟩ := bind_cases hP
  refine app_own (f := enc_api_Field) (([] : List ((List UInt8) × (List UInt8))) : List ((List UInt8) × (List UInt8))) (q1.2.2 : List ((List UInt8) × (List UInt8))) rfl tyS_23 (by decide) (by simp only [go_sem, Nat.reduceEqDiff, ↓reduceIte, Nat.reduceAdd, Nat.reduceSub, Nat.reduceLT, Nat.reduceMul, reduceCtorEq, Int.reduceToNat, Int.reduceLE, Int.reduceLT, Nat.reduceLeDiff]; first | done | rfl | exact ⟨rfl, rfl⟩) hz4 ?_
  (try simp only [go_sem, Nat.reduceEqDiff, ↓reduceIte, Nat.reduceAdd, Nat.reduceSub, Nat.reduceLT, Nat.reduceMul, reduceCtorEq, Int.reduceToNat, Int.reduceLE, Int.reduceLT, Nat.reduceLeDiff])
  refine hold2 (then_n ?_)
  refine J_seq ?_
  refine J_region (by kernel_rfl) ?_
  (try simp only [go_sem, Nat.reduceEqDiff, ↓reduceIte, Nat.reduceAdd, Nat.reduceSub, Nat.reduceLT, Nat.reduceMul, reduceCtorEq, Int.reduceToNat, Int.reduceLE, Int.reduceLT, Nat.reduceLeDiff])
  obtain ⟨_, hz5, hP⟩ := bind_cases hP
  refine app_own (f := enc_api_Field) (([] : List ((List UInt8) × (List UInt8))) : List ((List UInt8) × (List UInt8))) (p2.2.2 : List ((List UInt8) × (List UInt8))) rfl tyS_23 (by decide) (by simp only [go_sem, Nat.reduceEqDiff, ↓reduceIte, Nat.reduceAdd, Nat.reduceSub, Nat.reduceLT, Nat.reduceMul, reduceCtorEq, Int.reduceToNat, Int.reduceLE, Int.reduceLT, Nat.reduceLeDiff]; first | done | rfl | exact ⟨rfl, rfl⟩) hz5 ?_
  (try simp only [go_sem, Nat.reduceEqDiff, ↓reduceIte])
  refine hold2 (then_n ?_)
  refine J_seq ?_
  refine J_region (by kernel_rfl) ?_
  (try simp only [go_sem, Nat.reduceEqDiff, ↓reduceIte])
  obtain ⟨r6, hr6, hP⟩ := bind_cases hP
  refine call_ok [.agg [.str q1.1, .str q1.2.1, .view 2 (List.map enc_api_Field q1.2.2)]] (head_RequestText_ok hr6) ⟨argR_agg ⟨argC_m false rfl, argC_m false rfl, argC_m false (by simp only [arg, go_sem, Nat.reduceEqDiff, ↓reduceIte]), trivial⟩, trivial⟩ ?_
  (try simp only [go_sem, Nat.reduceEqDiff, ↓reduceIte])
  refine hold2 (then_n ?_)
  refine J_seq ?_
  refine J_region (by kernel_rfl) ?_
  (try simp only [go_sem, Nat.reduceEqDiff, ↓reduceIte])
  obtain ⟨r7, hr7, hP⟩ := bind_cases hP
  refine call_ok [.agg [.int .i64 p2.1, .str p2.2.1, .view 2 (List.map enc_api_Field p2.2.2)]] (head_ResponseText_ok hr7) ⟨argR_agg ⟨argC_m false rfl, argC_m false rfl, argC_m false (by simp only [arg, go_sem, Nat.reduceEqDiff, ↓reduceIte]), trivial⟩, trivial⟩ ?_
  (try simp only [go_sem, Nat.reduceEqDiff, ↓reduceIte])
  refine hold2 (then_n ?_)
  refine J_seq ?_
  refine J_region (by kernel_rfl) ?_
  (try simp only [go_sem, Nat.reduceEqDiff, ↓reduceIte])
  obtain ⟨r8, hr8, hP⟩ := bind_cases hP
  refine call_ok [.view 2 (List.map enc_api_Field q1.2.2), .view 2 (List.map enc_api_Field q1.2.2)] (ref04_Same_ok hr8) ⟨argR_m false (by simp only [arg, go_sem, Nat.reduceEqDiff, ↓reduceIte]), argR_m false rfl, trivial⟩ ?_
  (try simp only [go_sem, Nat.reduceEqDiff, ↓reduceIte])
  refine hold2 (then_n ?_)
  refine J_seq ?_
  refine J_region (by kernel_rfl) ?_
  (try simp only [go_sem, Nat.reduceEqDiff, ↓reduceIte])
  obtain ⟨r9, hr9, hP⟩ := bind_cases hP
  refine call_ok [.view 2 (List.map enc_api_Field p2.2.2), .view 2 (List.map enc_api_Field p2.2.2)] (ref04_Same_ok hr9) ⟨argR_m false (by simp only [arg, go_sem, Nat.reduceEqDiff, ↓reduceIte]), argR_m false rfl, trivial⟩ ?_
  (try simp only [go_sem, Nat.reduceEqDiff, ↓reduceIte])
  refine hold2 (then_n ?_)
  refine J_seq ?_
  refine J_region (by kernel_rfl) ?_
  (try simp only [go_sem, Nat.reduceEqDiff, ↓reduceIte])
  rcases ite_cases hP with ⟨hc, hP⟩ | ⟨hc, hP⟩
  · refine guard_is hc ?_
    (try simp only [go_sem, Nat.reduceEqDiff, ↓reduceIte])
    rcases ite_cases hP with ⟨hc, hP⟩ | ⟨hc, hP⟩
    · refine guard_is hc ?_
      (try simp only [go_sem, Nat.reduceEqDiff, ↓reduceIte])
      rcases ite_cases hP with ⟨hc, hP⟩ | ⟨hc, hP⟩
      · refine guard_is hc ?_
        (try simp only [go_sem, Nat.reduceEqDiff, ↓reduceIte])
        obtain ⟨r10, hr10, hP⟩ := bind_cases hP
        refine call_ok [.agg [.str q1.1, .str q1.2.1, .view 2 (List.map enc_api_Field q1.2.2)]] (ref05_RequestText_ok hr10) ⟨argR_m false rfl, trivial⟩ ?_
        (try simp only [go_sem, Nat.reduceEqDiff, ↓reduceIte])
        rcases ite_cases hP with ⟨hc, hP⟩ | ⟨hc, hP⟩
        · refine guard_is hc ?_
          (try simp only [go_sem, Nat.reduceEqDiff, ↓reduceIte])
          obtain ⟨r11, hr11, hP⟩ := bind_cases hP
          refine call_ok [.agg [.int .i64 p2.1, .str p2.2.1, .view 2 (List.map enc_api_Field p2.2.2)]] (ref05_ResponseText_ok hr11) ⟨argR_m false rfl, trivial⟩ ?_
          (try simp only [go_sem, Nat.reduceEqDiff, ↓reduceIte])
          refine hold2 (then_n ?_)
          refine J_ret (fin_ret ?_)
          obtain rfl := Option.some.inj hP
          (try simp only [go_sem, Nat.reduceEqDiff, ↓reduceIte])
          exact fo []
        · refine guard_not hc ?_
          (try simp only [go_sem, Nat.reduceEqDiff, ↓reduceIte])
          refine hold2 (then_n ?_)
          refine J_ret (fin_ret ?_)
          obtain rfl := Option.some.inj hP
          (try simp only [go_sem, Nat.reduceEqDiff, ↓reduceIte])
          exact fo []
      · refine guard_not hc ?_
        (try simp only [go_sem, Nat.reduceEqDiff, ↓reduceIte])
        refine hold2 (then_n ?_)
        refine J_ret (fin_ret ?_)
        obtain rfl := Option.some.inj hP
        (try simp only [go_sem, Nat.reduceEqDiff, ↓reduceIte])
        exact fo []
    · refine guard_not hc ?_
      (try simp only [go_sem, Nat.reduceEqDiff, ↓reduceIte])
      refine hold2 (then_n ?_)
      refine J_ret (fin_ret ?_)
      obtain rfl := Option.some.inj hP
      (try simp only [go_sem, Nat.reduceEqDiff, ↓reduceIte])
      exact fo []
  · refine guard_not hc ?_
    (try simp only [go_sem, Nat.reduceEqDiff, ↓reduceIte])
    refine hold2 (then_n ?_)
    refine J_ret (fin_ret ?_)
    obtain rfl := Option.some.inj hP
    (try simp only [go_sem, Nat.reduceEqDiff, ↓reduceIte])
    exact fo []
end Go.Proofs.YtbcmngnmfneeaaaGreatDoor
