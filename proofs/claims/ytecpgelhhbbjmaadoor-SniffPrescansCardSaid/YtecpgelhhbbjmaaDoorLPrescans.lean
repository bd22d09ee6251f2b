/- Functions of the program, and pure ones that go the same ways: that the program's return what these compute. -/
import Derived.Test.YtecpgelhhbbjmaaDoorGI
import Derived.Test.YtecpgelhhbbjmaaDoorAvY
import Derived.Test.YtecpgelhhbbjmaaDoorAvPj
namespace Go.Proofs.YtecpgelhhbbjmaaDoor
open Go.Av
set_option linter.unusedVariables false
set_option linter.unusedSimpArgs false
theorem own_cut0 {α : Type} {f : α → AV} {xs r : List α} {h : Int} (e : slL xs 0 h = some r) : List.take (h - 0).toNat (List.map f xs) = List.map f r := by
  have := own_cut (f := f) e
  rwa [Int.toNat_zero, List.drop_zero] at this
/-- colander/colanderlaw11.SniffPrescans -/
def law11_SniffPrescans (b1 : List (UInt8)) : Option (Bool) :=
  (law11_shown).bind fun r2 =>
  (szC (List.length (b1 : List (UInt8)))).bind fun _ =>
  (szC (List.length (b1 ++ [(bC 62)] : List (UInt8)))).bind fun _ =>
  (slL (b1 ++ [(bC 62)]) 0 (List.length b1 : Int)).bind fun s5 =>
  (sniff_Prescan s5).bind fun r6 =>
  if r2 then
    (ref11_Prescan b1).bind fun r7 =>
    if decide (r6 = r7) then
      (szC (List.length (b1 ++ [62]))).bind fun _ =>
      some (decide (b1 ++ [(bC 62)] = (b1 ++ [62])))
    else
      some false
  else
    some false
set_option maxRecDepth 100000 in
set_option maxHeartbeats 40000000 in
theorem law11_SniffPrescans_ok {b1 : List (UInt8)} {r : Bool} (hP : law11_SniffPrescans b1 = some r) : CallOK Tryd.prog 4 [.view 1 (List.map encB b1)] (.bool r) [] := by
  unfold law11_SniffPrescans at hP
  refine co 32 [.tmp 2] Tryd.func4 ?_
  refine J_seq ?_
  refine J_region (by kernel_rfl) ?_
  (try simp only [go_sem, Nat.reduceEqDiff, ↓reduceIte, Nat.reduceAdd, Nat.reduceSub, Nat.reduceLT, Nat.reduceMul, reduceCtorEq, Int.reduceToNat, Int.reduceLE, Int.reduceLT, Nat.reduceLeDiff])
  refine hold2 (then_n ?_)
  refine J_seq ?_
  refine J_region (by kernel_rfl) ?_
  (try simp only [go_sem, Nat.reduceEqDiff, ↓reduceIte, Nat.reduceAdd, Nat.reduceSub, Nat.reduceLT, Nat.reduceMul, reduceCtorEq, Int.reduceToNat, Int.reduceLE, Int.reduceLT, Nat.reduceLeDiff])
  obtain ⟨r2, hr2, hP⟩ := bind_cases hP
  refine call_ok [] (law11_shown_ok hr2) trivial ?_
  (try simp only [go_sem, Nat.reduceEqDiff, ↓reduceIte, Nat.reduceAdd, Nat.reduceSub, Nat.reduceLT, Nat.reduceMul, reduceCtorEq, Int.reduceToNat, Int.reduceLE, Int.reduceLT, Nat.reduceLeDiff])
  refine hold2 (then_n ?_)
  refine J_seq ?_
  refine J_region (by kernel_rfl) ?_
  (try simp only [go_sem, Nat.reduceEqDiff, ↓reduceIte, Nat.reduceAdd, Nat.reduceSub, Nat.reduceLT, Nat.reduceMul, reduceCtorEq, Int.reduceToNat, Int.reduceLE, Int.reduceLT, Nat.reduceLeDiff])
  obtain ⟨_, hz3, hP⟩ := bind_cases hP
  refine app_own (f := encB) (([] : List UInt8) : List (UInt8)) (b1 : List (UInt8)) rfl tyS_22 (by decide) (by simp only [go_sem, Nat.reduceEqDiff, ↓reduceIte, Nat.reduceAdd, Nat.reduceSub, Nat.reduceLT, Nat.reduceMul, reduceCtorEq, Int.reduceToNat, Int.reduceLE, Int.reduceLT, Nat.reduceLeDiff]; first | done | rfl | exact ⟨rfl, rfl⟩) hz3 ?_
  (try simp only [go_sem, Nat.reduceEqDiff, ↓reduceIte])
  obtain ⟨_, hz4, hP⟩ := bind_cases hP
  refine app_own (f := encB) (b1 : List (UInt8)) ([(bC 62)] : List (UInt8)) rfl tyS_22 (by decide) (by simp only [go_sem, Nat.reduceEqDiff, ↓reduceIte]; first | done | rfl | exact ⟨rfl, rfl⟩) hz4 ?_
  (try simp only [go_sem, Nat.reduceEqDiff, ↓reduceIte])
  refine hold2 (then_n ?_)
  refine J_seq ?_
  refine J_region (by kernel_rfl) ?_
  (try simp only [go_sem, Nat.reduceEqDiff, ↓reduceIte])
  obtain ⟨s5, hs5, hP⟩ := bind_cases hP
  refine slO_of hs5 ?_
  (try simp only [go_sem, Nat.reduceEqDiff, ↓reduceIte, Nat.reduceAdd, Nat.reduceSub, Nat.reduceLT, Nat.reduceMul, reduceCtorEq, Int.reduceToNat, Int.reduceLE, Int.reduceLT, Nat.reduceLeDiff])
  obtain ⟨r6, hr6, hP⟩ := bind_cases hP
  refine call_ok [.view 1 (List.map encB s5)] (sniff_Prescan_ok hr6) ⟨argR_m false (by simp only [arg, own_cut0 hs5, go_sem, Nat.reduceEqDiff, ↓reduceIte]), trivial⟩ ?_
  (try simp only [go_sem, Nat.reduceEqDiff, ↓reduceIte])
  refine hold2 (then_n ?_)
  refine J_seq ?_
  refine J_region (by kernel_rfl) ?_
  (try simp only [go_sem, Nat.reduceEqDiff, ↓reduceIte])
  rcases ite_cases hP with ⟨hc, hP⟩ | ⟨hc, hP⟩
  · refine guard_is hc ?_
    (try simp only [go_sem, Nat.reduceEqDiff, ↓reduceIte])
    obtain ⟨r7, hr7, hP⟩ := bind_cases hP
    refine call_ok [.view 1 (List.map encB b1)] (ref11_Prescan_ok hr7) ⟨argR_m false rfl, trivial⟩ ?_
    (try simp only [go_sem, Nat.reduceEqDiff, ↓reduceIte])
    rcases ite_cases hP with ⟨hc, hP⟩ | ⟨hc, hP⟩
    · refine guard_is hc ?_
      (try simp only [go_sem, Nat.reduceEqDiff, ↓reduceIte])
      first | refine bytesK_map ?_ | refine bytesK_of (b1 ++ [(bC 62)]) rfl ?_
      (try simp only [go_sem, Nat.reduceEqDiff, ↓reduceIte])
      first | refine bytesK_map ?_ | refine bytesK_of b1 rfl ?_
      (try simp only [go_sem, Nat.reduceEqDiff, ↓reduceIte])
      obtain ⟨_, hz8, hP⟩ := bind_cases hP
      refine chk_of (by first | exact szC_63 hz8 | (have q := szC_63 hz8; simp only [List.length_append, List.length_cons, List.length_nil] at q ⊢; omega)) ?_
      (try simp only [go_sem, Nat.reduceEqDiff, ↓reduceIte])
      refine hold2 (then_n ?_)
      refine J_ret (fin_ret ?_)
      obtain rfl := Option.some.inj hP
      (try simp only [go_sem, Nat.reduceEqDiff, ↓reduceIte])
      exact fo []
    · refine guard_not hc ?_
      (try simp only [go_sem, Nat.reduceEqDiff, ↓reduceIte])
      refine hold2 (then_n ?_)
      refine J_ret (fin_ret ?_)
      obtain rfl := Option.some.inj hP
      (try simp only [go_sem, Nat.reduceEqDiff, ↓reduceIte])
      exact fo []
  · refine guard_not hc ?_
    (try simp only [go_sem, Nat.reduceEqDiff, ↓reduceIte])
    refine hold2 (then_n ?_)
    refine J_ret (fin_ret ?_)
    obtain rfl := Option.some.inj hP
    (try simp only [go_sem, Nat.reduceEqDiff, ↓reduceIte])
    exact fo []
end Go.Proofs.YtecpgelhhbbjmaaDoor
