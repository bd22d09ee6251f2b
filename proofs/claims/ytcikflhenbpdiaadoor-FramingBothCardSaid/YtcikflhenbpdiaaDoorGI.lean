/- Functions of the program, and pure ones that go the same ways: that the program's return what these compute. -/
import Derived.Test.YtcikflhenbpdiaaDoorGH
import Derived.Test.YtcikflhenbpdiaaDoorGR
namespace Go.Proofs.YtcikflhenbpdiaaDoor
open Go.Av
set_option linter.unusedVariables false
set_option linter.unusedSimpArgs false
/-- colander/colanderref06.chunked -/
def ref06_chunked (l1 : List ((List UInt8) × (List UInt8))) : Option (Bool) :=
  (ref04_Members l1 [116, 114, 97, 110, 115, 102, 101, 114, 45, 101, 110, 99, 111, 100, 105, 110, 103]).bind fun r2 =>
  (show Option (Bool) from
    if !decide (r2.2 = 0) then
      some true
    else
      some (!decide (((List.length r2.1 : Nat) : Int) = 1))).bind fun j4 =>
    if j4 then
      some false
    else
      (ixL r2.1 0).bind fun x5 =>
      (ref03_Same x5 [99, 104, 117, 110, 107, 101, 100]).bind fun r6 =>
      some r6
set_option maxRecDepth 100000 in
set_option maxHeartbeats 40000000 in
theorem ref06_chunked_ok {l1 : List ((List UInt8) × (List UInt8))} {r : Bool} (hP : ref06_chunked l1 = some r) : CallOK Tryd.prog 22 [.view 2 (List.map enc_api_Field l1)] (.bool r) [] := by
  unfold ref06_chunked at hP
  refine callOK_of (n := 21) (rs := [.tmp 2]) Tryd.func22 rfl (by decide) rfl rfl (by simp) rfl (by first | rfl | simp [AV.vf, AV.vfL]) (by first | (intro o ho; simp at ho; done) | (simp [vfO, AV.vf, AV.vfL, encB, encI, encS, encO, enc_api_Field, enc_api_Body]; done) | (simp [vfO, AV.vf, AV.vfL, encB, encI, encS, encO, enc_api_Field, enc_api_Body]; intros; subst_vars; simp [AV.vf, AV.vfL])) ?_
  refine J_seq ?_
  refine J_region (by kernel_rfl) ?_
  (try simp only [go_sem, Nat.reduceEqDiff, reduceIte, Nat.reduceAdd, Nat.reduceSub, Nat.reduceLT, Nat.reduceMul, reduceCtorEq, Int.reduceToNat, Int.reduceLE, Int.reduceLT, Nat.reduceLeDiff])
  refine hold2 (then_n ?_)
  refine J_seq ?_
  refine J_region (by kernel_rfl) ?_
  (try simp only [go_sem, Nat.reduceEqDiff, reduceIte, Nat.reduceAdd, Nat.reduceSub, Nat.reduceLT, Nat.reduceMul, reduceCtorEq, Int.reduceToNat, Int.reduceLE, Int.reduceLT, Nat.reduceLeDiff])
  obtain ⟨r2, hr2, hP⟩ := bind_cases hP
  refine call_ok [.view 2 (List.map enc_api_Field l1), .str [116, 114, 97, 110, 115, 102, 101, 114, 45, 101, 110, 99, 111, 100, 105, 110, 103]] (ref04_Members_ok hr2) ⟨argR_m false rfl, argR_m false rfl, trivial⟩ ?_
  (try simp only [go_sem, Nat.reduceEqDiff, reduceIte, Nat.reduceAdd, Nat.reduceSub, Nat.reduceLT, Nat.reduceMul, reduceCtorEq, Int.reduceToNat, Int.reduceLE, Int.reduceLT, Nat.reduceLeDiff])
  refine hold2 (then_n ?_)
  refine J_seq ?_
  obtain ⟨o3, hP, hQ3⟩ := bind_cases hP
  refine J_join (fun (s : Bool) => envL [(3, .own 0 0 0 (List.length r2.1)), (16, .bool s)]) (fun (s : Bool) => [.slice 0 9 1 (List.map encS r2.1)]) (fun s => s = o3) ?_ ?_
  · clear hQ3
    refine J_region (by kernel_rfl) ?_
    (try simp only [go_sem, Nat.reduceEqDiff, reduceIte, Nat.reduceAdd, Nat.reduceSub, Nat.reduceLT, Nat.reduceMul, reduceCtorEq, Int.reduceToNat, Int.reduceLE, Int.reduceLT, Nat.reduceLeDiff])
    rcases ite_cases hP with ⟨hc, hP⟩ | ⟨hc, hP⟩
    · refine guard_not hc ?_
      (try simp only [go_sem, Nat.reduceEqDiff, reduceIte, Nat.reduceAdd, Nat.reduceSub, Nat.reduceLT, Nat.reduceMul, reduceCtorEq, Int.reduceToNat, Int.reduceLE, Int.reduceLT, Nat.reduceLeDiff])
      refine hold2 ?_
      exact join_n true (Option.some.inj hP) (Sub.of _ _ [0] (by decide) (by first | rfl | (simp only [List.length_set, List.length_replicate]; rfl)) (by simp only [List.length_set, List.length_replicate, List.forall_mem_cons, List.not_mem_nil, false_implies, implies_true, and_true, go_sem, Nat.reduceEqDiff, reduceIte, Nat.reduceAdd, Nat.reduceSub, Nat.reduceLT, Nat.reduceMul, reduceCtorEq, Int.reduceToNat, Int.reduceLE, Int.reduceLT, Nat.reduceLeDiff, ren, ren2, ren1]; (try (first | done | rfl | (repeat' apply And.intro) <;> first | rfl | omega))))
    · refine guard_is hc ?_
      (try simp only [go_sem, Nat.reduceEqDiff, reduceIte, Nat.reduceAdd, Nat.reduceSub, Nat.reduceLT, Nat.reduceMul, reduceCtorEq, Int.reduceToNat, Int.reduceLE, Int.reduceLT, Nat.reduceLeDiff])
      refine hold2 ?_
      exact join_n (!decide (((List.length r2.1 : Nat) : Int) = 1)) (Option.some.inj hP) (Sub.of _ _ [0] (by decide) (by first | rfl | (simp only [List.length_set, List.length_replicate]; rfl)) (by simp only [List.length_set, List.length_replicate, List.forall_mem_cons, List.not_mem_nil, false_implies, implies_true, and_true, go_sem, Nat.reduceEqDiff, reduceIte, Nat.reduceAdd, Nat.reduceSub, Nat.reduceLT, Nat.reduceMul, reduceCtorEq, Int.reduceToNat, Int.reduceLE, Int.reduceLT, Nat.reduceLeDiff, ren, ren2, ren1]; (try (first | done | rfl | (repeat' apply And.intro) <;> first | rfl | omega))))
  · intro j4 hs
    subst hs
    have hP := hQ3
    clear hQ3
    refine J_condV rfl ?_
    (try simp only [go_sem, Nat.reduceEqDiff, reduceIte, Nat.reduceAdd, Nat.reduceSub, Nat.reduceLT, Nat.reduceMul, reduceCtorEq, Int.reduceToNat, Int.reduceLE, Int.reduceLT, Nat.reduceLeDiff])
    rcases ite_cases hP with ⟨hc, hP⟩ | ⟨hc, hP⟩
    · refine condV_t hc ?_
      refine J_seq ?_
      refine J_region (by kernel_rfl) ?_
      (try simp only [go_sem, Nat.reduceEqDiff, reduceIte, Nat.reduceAdd, Nat.reduceSub, Nat.reduceLT, Nat.reduceMul, reduceCtorEq, Int.reduceToNat, Int.reduceLE, Int.reduceLT, Nat.reduceLeDiff])
      refine hold2 (then_n ?_)
      refine J_ret (then_ret (fin_ret ?_))
      obtain rfl := Option.some.inj hP
      (try simp only [go_sem, Nat.reduceEqDiff, reduceIte, Nat.reduceAdd, Nat.reduceSub, Nat.reduceLT, Nat.reduceMul, reduceCtorEq, Int.reduceToNat, Int.reduceLE, Int.reduceLT, Nat.reduceLeDiff])
      refine fin_of [] (by decide) ?_ ?_ <;> first | rfl | simp only [List.length_set, List.length_replicate, ren, ren2, ren1, renH, renO, go_sem, Nat.reduceEqDiff, reduceIte, Nat.reduceAdd, Nat.reduceSub, Nat.reduceLT, Nat.reduceMul, reduceCtorEq, Int.reduceToNat, Int.reduceLE, Int.reduceLT, Nat.reduceLeDiff]
    · refine condV_f hc ?_
      refine J_skip (then_n ?_)
      refine J_seq ?_
      refine J_region (by kernel_rfl) ?_
      (try simp only [go_sem, Nat.reduceEqDiff, reduceIte, Nat.reduceAdd, Nat.reduceSub, Nat.reduceLT, Nat.reduceMul, reduceCtorEq, Int.reduceToNat, Int.reduceLE, Int.reduceLT, Nat.reduceLeDiff])
      obtain ⟨x5, hx5, hP⟩ := bind_cases hP
      refine ixO_of hx5 ?_
      (try simp only [go_sem, Nat.reduceEqDiff, reduceIte, Nat.reduceAdd, Nat.reduceSub, Nat.reduceLT, Nat.reduceMul, reduceCtorEq, Int.reduceToNat, Int.reduceLE, Int.reduceLT, Nat.reduceLeDiff])
      refine getK_of hx5 ?_
      (try simp only [go_sem, Nat.reduceEqDiff, reduceIte, Nat.reduceAdd, Nat.reduceSub, Nat.reduceLT, Nat.reduceMul, reduceCtorEq, Int.reduceToNat, Int.reduceLE, Int.reduceLT, Nat.reduceLeDiff])
      obtain ⟨r6, hr6, hP⟩ := bind_cases hP
      refine call_ok [.str x5, .str [99, 104, 117, 110, 107, 101, 100]] (ref03_Same_ok hr6) ⟨argR_m false rfl, argR_m false rfl, trivial⟩ ?_
      (try simp only [go_sem, Nat.reduceEqDiff, reduceIte, Nat.reduceAdd, Nat.reduceSub, Nat.reduceLT, Nat.reduceMul, reduceCtorEq, Int.reduceToNat, Int.reduceLE, Int.reduceLT, Nat.reduceLeDiff])
      refine hold2 (then_n ?_)
      refine J_ret (fin_ret ?_)
      obtain rfl := Option.some.inj hP
      (try simp only [go_sem, Nat.reduceEqDiff, reduceIte, Nat.reduceAdd, Nat.reduceSub, Nat.reduceLT, Nat.reduceMul, reduceCtorEq, Int.reduceToNat, Int.reduceLE, Int.reduceLT, Nat.reduceLeDiff])
      refine fin_of [] (by decide) ?_ ?_ <;> first | rfl | simp only [List.length_set, List.length_replicate, ren, ren2, ren1, renH, renO, go_sem, Nat.reduceEqDiff, reduceIte, Nat.reduceAdd, Nat.reduceSub, Nat.reduceLT, Nat.reduceMul, reduceCtorEq, Int.reduceToNat, Int.reduceLE, Int.reduceLT, Nat.reduceLeDiff]
/-- colander/colanderref06.length -/
def ref06_length_L17 (r2 : (List (List UInt8)) × Int) (r6 : Int × Int) : Nat → Int → Option (Sum (Int × Int) (Unit))
  | 0, _ => none
  | k13 + 1, i12 =>
    if decide (i12 < ((List.length r2.1 : Nat) : Int)) then
      (ixL r2.1 i12).bind fun x18 =>
      (ref02_Decimal x18).bind fun r19 =>
      (show Option (Bool) from
        if !decide (r19.2 = 0) then
          some true
        else
          some (!decide (r19.1 = r6.1))).bind fun j21 =>
        if j21 then
          some (Sum.inl (0, 20))
        else
          ref06_length_L17 r2 r6 k13 (iadd .i64 i12 1)
    else
      some (Sum.inr ())
def ref06_length (l1 : List ((List UInt8) × (List UInt8))) : Option (Int × Int) :=
  (ref04_Members l1 [99, 111, 110, 116, 101, 110, 116, 45, 108, 101, 110, 103, 116, 104]).bind fun r2 =>
  (show Option (Bool) from
    if !decide (r2.2 = 0) then
      some true
    else
      some (decide (((List.length r2.1 : Nat) : Int) = 0))).bind fun j4 =>
    if j4 then
      some (0, 20)
    else
      (ixL r2.1 0).bind fun x5 =>
      (ref02_Decimal x5).bind fun r6 =>
      if !decide (r6.2 = 0) then
        some (0, 20)
      else
        (ref06_length_L17 r2 r6 140737488355328 1).bind fun o22 => match o22 with
        | Sum.inl r => some r
        | Sum.inr j23 =>
          some (r6.1, 0)
set_option maxRecDepth 100000 in
set_option maxHeartbeats 40000000 in
theorem ref06_length_ok {l1 : List ((List UInt8) × (List UInt8))} {r : Int × Int} (hP : ref06_length l1 = some r) : CallOK Tryd.prog 23 [.view 2 (List.map enc_api_Field l1)] (.tup [.int .i64 r.1, .int .i64 r.2]) [] := by
  unfold ref06_length at hP
  refine callOK_of (n := 53) (rs := [.tmp 2, .tmp 3]) Tryd.func23 rfl (by decide) rfl rfl (by simp) rfl (by first | rfl | simp [AV.vf, AV.vfL]) (by first | (intro o ho; simp at ho; done) | (simp [vfO, AV.vf, AV.vfL, encB, encI, encS, encO, enc_api_Field, enc_api_Body]; done) | (simp [vfO, AV.vf, AV.vfL, encB, encI, encS, encO, enc_api_Field, enc_api_Body]; intros; subst_vars; simp [AV.vf, AV.vfL])) ?_
  refine J_seq ?_
  refine J_region (by kernel_rfl) ?_
  (try simp only [go_sem, Nat.reduceEqDiff, reduceIte, Nat.reduceAdd, Nat.reduceSub, Nat.reduceLT, Nat.reduceMul, reduceCtorEq, Int.reduceToNat, Int.reduceLE, Int.reduceLT, Nat.reduceLeDiff])
  refine hold2 (then_n ?_)
  refine J_seq ?_
  refine J_region (by kernel_rfl) ?_
  (try simp only [go_sem, Nat.reduceEqDiff, reduceIte, Nat.reduceAdd, Nat.reduceSub, Nat.reduceLT, Nat.reduceMul, reduceCtorEq, Int.reduceToNat, Int.reduceLE, Int.reduceLT, Nat.reduceLeDiff])
  obtain ⟨r2, hr2, hP⟩ := bind_cases hP
  refine call_ok [.view 2 (List.map enc_api_Field l1), .str [99, 111, 110, 116, 101, 110, 116, 45, 108, 101, 110, 103, 116, 104]] (ref04_Members_ok hr2) ⟨argR_m false rfl, argR_m false rfl, trivial⟩ ?_
  (try simp only [go_sem, Nat.reduceEqDiff, reduceIte, Nat.reduceAdd, Nat.reduceSub, Nat.reduceLT, Nat.reduceMul, reduceCtorEq, Int.reduceToNat, Int.reduceLE, Int.reduceLT, Nat.reduceLeDiff])
  refine hold2 (then_n ?_)
  refine J_seq ?_
  obtain ⟨o3, hP, hQ3⟩ := bind_cases hP
  refine J_join (fun (s : Bool) => envL [(4, .own 0 0 0 (List.length r2.1)), (21, .bool s)]) (fun (s : Bool) => [.slice 0 9 1 (List.map encS r2.1)]) (fun s => s = o3) ?_ ?_
  · clear hQ3
    refine J_region (by kernel_rfl) ?_
    (try simp only [go_sem, Nat.reduceEqDiff, reduceIte, Nat.reduceAdd, Nat.reduceSub, Nat.reduceLT, Nat.reduceMul, reduceCtorEq, Int.reduceToNat, Int.reduceLE, Int.reduceLT, Nat.reduceLeDiff])
    rcases ite_cases hP with ⟨hc, hP⟩ | ⟨hc, hP⟩
    · refine guard_not hc ?_
      (try simp only [go_sem, Nat.reduceEqDiff, reduceIte, Nat.reduceAdd, Nat.reduceSub, Nat.reduceLT, Nat.reduceMul, reduceCtorEq, Int.reduceToNat, Int.reduceLE, Int.reduceLT, Nat.reduceLeDiff])
      refine hold2 ?_
      exact join_n true (Option.some.inj hP) (Sub.of _ _ [0] (by decide) (by first | rfl | (simp only [List.length_set, List.length_replicate]; rfl)) (by simp only [List.length_set, List.length_replicate, List.forall_mem_cons, List.not_mem_nil, false_implies, implies_true, and_true, go_sem, Nat.reduceEqDiff, reduceIte, Nat.reduceAdd, Nat.reduceSub, Nat.reduceLT, Nat.reduceMul, reduceCtorEq, Int.reduceToNat, Int.reduceLE, Int.reduceLT, Nat.reduceLeDiff, ren, ren2, ren1]; (try (first | done | rfl | (repeat' apply And.intro) <;> first | rfl | omega))))
    · refine guard_is hc ?_
      (try simp only [go_sem, Nat.reduceEqDiff, reduceIte, Nat.reduceAdd, Nat.reduceSub, Nat.reduceLT, Nat.reduceMul, reduceCtorEq, Int.reduceToNat, Int.reduceLE, Int.reduceLT, Nat.reduceLeDiff])
      refine hold2 ?_
      exact join_n (decide (((List.length r2.1 : Nat) : Int) = 0)) (Option.some.inj hP) (Sub.of _ _ [0] (by decide) (by first | rfl | (simp only [List.length_set, List.length_replicate]; rfl)) (by simp only [List.length_set, List.length_replicate, List.forall_mem_cons, List.not_mem_nil, false_implies, implies_true, and_true, go_sem, Nat.reduceEqDiff, reduceIte, Nat.reduceAdd, Nat.reduceSub, Nat.reduceLT, Nat.reduceMul, reduceCtorEq, Int.reduceToNat, Int.reduceLE, Int.reduceLT, Nat.reduceLeDiff, ren, ren2, ren1]; (try (first | done | rfl | (repeat' apply And.intro) <;> first | rfl | omega))))
  · intro j4 hs
    subst hs
    have hP := hQ3
    clear hQ3
    refine J_condV rfl ?_
    (try simp only [go_sem, Nat.reduceEqDiff, reduceIte, Nat.reduceAdd, Nat.reduceSub, Nat.reduceLT, Nat.reduceMul, reduceCtorEq, Int.reduceToNat, Int.reduceLE, Int.reduceLT, Nat.reduceLeDiff])
    rcases ite_cases hP with ⟨hc, hP⟩ | ⟨hc, hP⟩
    · refine condV_t hc ?_
      refine J_seq ?_
      refine J_region (by kernel_rfl) ?_
      (try simp only [go_sem, Nat.reduceEqDiff, reduceIte, Nat.reduceAdd, Nat.reduceSub, Nat.reduceLT, Nat.reduceMul, reduceCtorEq, Int.reduceToNat, Int.reduceLE, Int.reduceLT, Nat.reduceLeDiff])
      refine hold2 (then_n ?_)
      refine J_ret (then_ret (fin_ret ?_))
      obtain rfl := Option.some.inj hP
      (try simp only [go_sem, Nat.reduceEqDiff, reduceIte, Nat.reduceAdd, Nat.reduceSub, Nat.reduceLT, Nat.reduceMul, reduceCtorEq, Int.reduceToNat, Int.reduceLE, Int.reduceLT, Nat.reduceLeDiff])
      refine fin_of [] (by decide) ?_ ?_ <;> first | rfl | simp only [List.length_set, List.length_replicate, ren, ren2, ren1, renH, renO, go_sem, Nat.reduceEqDiff, reduceIte, Nat.reduceAdd, Nat.reduceSub, Nat.reduceLT, Nat.reduceMul, reduceCtorEq, Int.reduceToNat, Int.reduceLE, Int.reduceLT, Nat.reduceLeDiff]
    · refine condV_f hc ?_
      refine J_skip (then_n ?_)
      refine J_seq ?_
      refine J_region (by kernel_rfl) ?_
      (try simp only [go_sem, Nat.reduceEqDiff, reduceIte, Nat.reduceAdd, Nat.reduceSub, Nat.reduceLT, Nat.reduceMul, reduceCtorEq, Int.reduceToNat, Int.reduceLE, Int.reduceLT, Nat.reduceLeDiff])
      obtain ⟨x5, hx5, hP⟩ := bind_cases hP
      refine ixO_of hx5 ?_
      (try simp only [go_sem, Nat.reduceEqDiff, reduceIte, Nat.reduceAdd, Nat.reduceSub, Nat.reduceLT, Nat.reduceMul, reduceCtorEq, Int.reduceToNat, Int.reduceLE, Int.reduceLT, Nat.reduceLeDiff])
      refine getK_of hx5 ?_
      (try simp only [go_sem, Nat.reduceEqDiff, reduceIte, Nat.reduceAdd, Nat.reduceSub, Nat.reduceLT, Nat.reduceMul, reduceCtorEq, Int.reduceToNat, Int.reduceLE, Int.reduceLT, Nat.reduceLeDiff])
      obtain ⟨r6, hr6, hP⟩ := bind_cases hP
      refine call_ok [.str x5] (ref02_Decimal_ok hr6) ⟨argR_m false rfl, trivial⟩ ?_
      (try simp only [go_sem, Nat.reduceEqDiff, reduceIte, Nat.reduceAdd, Nat.reduceSub, Nat.reduceLT, Nat.reduceMul, reduceCtorEq, Int.reduceToNat, Int.reduceLE, Int.reduceLT, Nat.reduceLeDiff])
      refine hold2 (then_n ?_)
      refine J_seq ?_
      refine J_seq ?_
      refine J_region (by kernel_rfl) ?_
      (try simp only [go_sem, Nat.reduceEqDiff, reduceIte, Nat.reduceAdd, Nat.reduceSub, Nat.reduceLT, Nat.reduceMul, reduceCtorEq, Int.reduceToNat, Int.reduceLE, Int.reduceLT, Nat.reduceLeDiff])
      refine hold2 (then_n ?_)
      refine J_condV rfl ?_
      (try simp only [go_sem, Nat.reduceEqDiff, reduceIte, Nat.reduceAdd, Nat.reduceSub, Nat.reduceLT, Nat.reduceMul, reduceCtorEq, Int.reduceToNat, Int.reduceLE, Int.reduceLT, Nat.reduceLeDiff])
      rcases ite_cases hP with ⟨hc, hP⟩ | ⟨hc, hP⟩
      · refine condV_t hc ?_
        refine J_seq ?_
        refine J_region (by kernel_rfl) ?_
        (try simp only [go_sem, Nat.reduceEqDiff, reduceIte, Nat.reduceAdd, Nat.reduceSub, Nat.reduceLT, Nat.reduceMul, reduceCtorEq, Int.reduceToNat, Int.reduceLE, Int.reduceLT, Nat.reduceLeDiff])
        refine hold2 (then_n ?_)
        refine J_ret (then_ret (fin_ret ?_))
        obtain rfl := Option.some.inj hP
        (try simp only [go_sem, Nat.reduceEqDiff, reduceIte, Nat.reduceAdd, Nat.reduceSub, Nat.reduceLT, Nat.reduceMul, reduceCtorEq, Int.reduceToNat, Int.reduceLE, Int.reduceLT, Nat.reduceLeDiff])
        refine fin_of [] (by decide) ?_ ?_ <;> first | rfl | simp only [List.length_set, List.length_replicate, ren, ren2, ren1, renH, renO, go_sem, Nat.reduceEqDiff, reduceIte, Nat.reduceAdd, Nat.reduceSub, Nat.reduceLT, Nat.reduceMul, reduceCtorEq, Int.reduceToNat, Int.reduceLE, Int.reduceLT, Nat.reduceLeDiff]
      · refine condV_f hc ?_
        refine J_skip (then_n ?_)
        refine J_seq ?_
        refine J_seq ?_
        refine J_region (by kernel_rfl) ?_
        (try simp only [go_sem, Nat.reduceEqDiff, reduceIte, Nat.reduceAdd, Nat.reduceSub, Nat.reduceLT, Nat.reduceMul, reduceCtorEq, Int.reduceToNat, Int.reduceLE, Int.reduceLT, Nat.reduceLeDiff])
        refine hold2 (then_n ?_)
        obtain ⟨o22, hP, hQ17⟩ := bind_cases hP
        refine J_joinK (fun (s : Unit) => envL [(6, .int .i64 r6.1)]) (fun (s : Unit) => []) (fun s => Sum.inr s = o22) (by repeat (first | exact subC_then | refine subC_block ?_)) ?_ ?_
        · refine J_block ?_
          refine J_loop (σ := Nat × Int) (fun (s : Nat × Int) => envL [(4, .own 0 0 0 (List.length r2.1)), (6, .int .i64 r6.1), (7, .int .i64 s.2)]) (fun (s : Nat × Int) => [.slice 0 9 1 (List.map encS r2.1)]) (fun s => ref06_length_L17 r2 r6 s.1 s.2 = some o22) (fun s => s.1) (140737488355328, 1) hP (Sub.of _ _ [0] (by decide) (by first | rfl | (simp only [List.length_set, List.length_replicate]; rfl)) (by simp only [List.length_set, List.length_replicate, List.forall_mem_cons, List.not_mem_nil, false_implies, implies_true, and_true, go_sem, Nat.reduceEqDiff, reduceIte, Nat.reduceAdd, Nat.reduceSub, Nat.reduceLT, Nat.reduceMul, reduceCtorEq, Int.reduceToNat, Int.reduceLE, Int.reduceLT, Nat.reduceLeDiff, ren, ren2, ren1]; (try (first | done | rfl | (repeat' apply And.intro) <;> first | rfl | omega)))) ?_
          rintro ⟨k13, i12⟩ hP
          dsimp only at hP ⊢
          cases k13 with
          | zero => simp [ref06_length_L17] at hP
          | succ k13 =>
            simp only [ref06_length_L17] at hP
            refine J_seq ?_
            refine J_seq ?_
            refine J_region (by kernel_rfl) ?_
            (try simp only [go_sem, Nat.reduceEqDiff, reduceIte, Nat.reduceAdd, Nat.reduceSub, Nat.reduceLT, Nat.reduceMul, reduceCtorEq, Int.reduceToNat, Int.reduceLE, Int.reduceLT, Nat.reduceLeDiff])
            refine hold2 (then_n ?_)
            refine J_condV rfl ?_
            (try simp only [go_sem, Nat.reduceEqDiff, reduceIte, Nat.reduceAdd, Nat.reduceSub, Nat.reduceLT, Nat.reduceMul, reduceCtorEq, Int.reduceToNat, Int.reduceLE, Int.reduceLT, Nat.reduceLeDiff])
            rcases ite_cases hP with ⟨hc, hP⟩ | ⟨hc, hP⟩
            · refine condV_t hc ?_
              refine J_skip (then_n ?_)
              refine J_seq ?_
              refine J_block ?_
              refine J_seq ?_
              refine J_region (by kernel_rfl) ?_
              (try simp only [go_sem, Nat.reduceEqDiff, reduceIte, Nat.reduceAdd, Nat.reduceSub, Nat.reduceLT, Nat.reduceMul, reduceCtorEq, Int.reduceToNat, Int.reduceLE, Int.reduceLT, Nat.reduceLeDiff])
              obtain ⟨x18, hx18, hP⟩ := bind_cases hP
              refine ixO_of hx18 ?_
              (try simp only [go_sem, Nat.reduceEqDiff, reduceIte, Nat.reduceAdd, Nat.reduceSub, Nat.reduceLT, Nat.reduceMul, reduceCtorEq, Int.reduceToNat, Int.reduceLE, Int.reduceLT, Nat.reduceLeDiff])
              refine getK_of hx18 ?_
              (try simp only [go_sem, Nat.reduceEqDiff, reduceIte, Nat.reduceAdd, Nat.reduceSub, Nat.reduceLT, Nat.reduceMul, reduceCtorEq, Int.reduceToNat, Int.reduceLE, Int.reduceLT, Nat.reduceLeDiff])
              obtain ⟨r19, hr19, hP⟩ := bind_cases hP
              refine call_ok [.str x18] (ref02_Decimal_ok hr19) ⟨argR_m false rfl, trivial⟩ ?_
              (try simp only [go_sem, Nat.reduceEqDiff, reduceIte, Nat.reduceAdd, Nat.reduceSub, Nat.reduceLT, Nat.reduceMul, reduceCtorEq, Int.reduceToNat, Int.reduceLE, Int.reduceLT, Nat.reduceLeDiff])
              refine hold2 (then_n ?_)
              obtain ⟨o20, hP, hQ20⟩ := bind_cases hP
              refine J_join (fun (s : Bool) => envL [(4, .own 0 0 0 (List.length r2.1)), (6, .int .i64 r6.1), (7, .int .i64 i12), (51, .bool s)]) (fun (s : Bool) => [.slice 0 9 1 (List.map encS r2.1)]) (fun s => s = o20) ?_ ?_
              · clear hQ20
                refine J_region (by kernel_rfl) ?_
                (try simp only [go_sem, Nat.reduceEqDiff, reduceIte, Nat.reduceAdd, Nat.reduceSub, Nat.reduceLT, Nat.reduceMul, reduceCtorEq, Int.reduceToNat, Int.reduceLE, Int.reduceLT, Nat.reduceLeDiff])
                rcases ite_cases hP with ⟨hc, hP⟩ | ⟨hc, hP⟩
                · refine guard_not hc ?_
                  (try simp only [go_sem, Nat.reduceEqDiff, reduceIte, Nat.reduceAdd, Nat.reduceSub, Nat.reduceLT, Nat.reduceMul, reduceCtorEq, Int.reduceToNat, Int.reduceLE, Int.reduceLT, Nat.reduceLeDiff])
                  refine hold2 ?_
                  exact join_n true (Option.some.inj hP) (Sub.of _ _ [0] (by decide) (by first | rfl | (simp only [List.length_set, List.length_replicate]; rfl)) (by simp only [List.length_set, List.length_replicate, List.forall_mem_cons, List.not_mem_nil, false_implies, implies_true, and_true, go_sem, Nat.reduceEqDiff, reduceIte, Nat.reduceAdd, Nat.reduceSub, Nat.reduceLT, Nat.reduceMul, reduceCtorEq, Int.reduceToNat, Int.reduceLE, Int.reduceLT, Nat.reduceLeDiff, ren, ren2, ren1]; (try (first | done | rfl | (repeat' apply And.intro) <;> first | rfl | omega))))
                · refine guard_is hc ?_
                  (try simp only [go_sem, Nat.reduceEqDiff, reduceIte, Nat.reduceAdd, Nat.reduceSub, Nat.reduceLT, Nat.reduceMul, reduceCtorEq, Int.reduceToNat, Int.reduceLE, Int.reduceLT, Nat.reduceLeDiff])
                  refine hold2 ?_
                  exact join_n (!decide (r19.1 = r6.1)) (Option.some.inj hP) (Sub.of _ _ [0] (by decide) (by first | rfl | (simp only [List.length_set, List.length_replicate]; rfl)) (by simp only [List.length_set, List.length_replicate, List.forall_mem_cons, List.not_mem_nil, false_implies, implies_true, and_true, go_sem, Nat.reduceEqDiff, reduceIte, Nat.reduceAdd, Nat.reduceSub, Nat.reduceLT, Nat.reduceMul, reduceCtorEq, Int.reduceToNat, Int.reduceLE, Int.reduceLT, Nat.reduceLeDiff, ren, ren2, ren1]; (try (first | done | rfl | (repeat' apply And.intro) <;> first | rfl | omega))))
              · intro j21 hs
                subst hs
                have hP := hQ20
                clear hQ20
                refine J_condV rfl ?_
                (try simp only [go_sem, Nat.reduceEqDiff, reduceIte, Nat.reduceAdd, Nat.reduceSub, Nat.reduceLT, Nat.reduceMul, reduceCtorEq, Int.reduceToNat, Int.reduceLE, Int.reduceLT, Nat.reduceLeDiff])
                rcases ite_cases hP with ⟨hc, hP⟩ | ⟨hc, hP⟩
                · refine condV_t hc ?_
                  refine J_seq ?_
                  refine J_region (by kernel_rfl) ?_
                  (try simp only [go_sem, Nat.reduceEqDiff, reduceIte, Nat.reduceAdd, Nat.reduceSub, Nat.reduceLT, Nat.reduceMul, reduceCtorEq, Int.reduceToNat, Int.reduceLE, Int.reduceLT, Nat.reduceLeDiff])
                  refine hold2 (then_n ?_)
                  refine J_ret (block_ret (then_ret (loop_ret (block_ret (join_ret (then_ret (fin_ret ?_)))))))
                  obtain rfl := Option.some.inj hP
                  have hP := hQ17
                  dsimp only at hP
                  obtain rfl := Option.some.inj hP
                  (try simp only [go_sem, Nat.reduceEqDiff, reduceIte, Nat.reduceAdd, Nat.reduceSub, Nat.reduceLT, Nat.reduceMul, reduceCtorEq, Int.reduceToNat, Int.reduceLE, Int.reduceLT, Nat.reduceLeDiff])
                  refine fin_of [] (by decide) ?_ ?_ <;> first | rfl | simp only [List.length_set, List.length_replicate, ren, ren2, ren1, renH, renO, go_sem, Nat.reduceEqDiff, reduceIte, Nat.reduceAdd, Nat.reduceSub, Nat.reduceLT, Nat.reduceMul, reduceCtorEq, Int.reduceToNat, Int.reduceLE, Int.reduceLT, Nat.reduceLeDiff]
                · refine condV_f hc ?_
                  refine J_skip (block_n (then_n ?_))
                  refine J_region (by kernel_rfl) ?_
                  (try simp only [go_sem, Nat.reduceEqDiff, reduceIte, Nat.reduceAdd, Nat.reduceSub, Nat.reduceLT, Nat.reduceMul, reduceCtorEq, Int.reduceToNat, Int.reduceLE, Int.reduceLT, Nat.reduceLeDiff])
                  refine hold2 ?_
                  exact loop_n (k13, iadd .i64 i12 1) hP (Nat.lt_succ_self _) (Sub.of _ _ [0] (by decide) (by first | rfl | (simp only [List.length_set, List.length_replicate]; rfl)) (by simp only [List.length_set, List.length_replicate, List.forall_mem_cons, List.not_mem_nil, false_implies, implies_true, and_true, go_sem, Nat.reduceEqDiff, reduceIte, Nat.reduceAdd, Nat.reduceSub, Nat.reduceLT, Nat.reduceMul, reduceCtorEq, Int.reduceToNat, Int.reduceLE, Int.reduceLT, Nat.reduceLeDiff, ren, ren2, ren1]; (try (first | done | rfl | (repeat' apply And.intro) <;> first | rfl | omega))))
            · refine condV_f hc ?_
              refine J_exit (then_exit (loop_exit (block_eq ?_)))
              exact join_n () (Option.some.inj hP) (Sub.of _ _ [] (by decide) (by first | rfl | (simp only [List.length_set, List.length_replicate]; rfl)) (by simp only [List.length_set, List.length_replicate, List.forall_mem_cons, List.not_mem_nil, false_implies, implies_true, and_true, go_sem, Nat.reduceEqDiff, reduceIte, Nat.reduceAdd, Nat.reduceSub, Nat.reduceLT, Nat.reduceMul, reduceCtorEq, Int.reduceToNat, Int.reduceLE, Int.reduceLT, Nat.reduceLeDiff, ren, ren2, ren1]; (try (first | done | rfl | (repeat' apply And.intro) <;> first | rfl | omega))))
        · intro j23 hs
          subst hs
          have hP := hQ17
          dsimp only at hP
          clear hQ17
          refine then_n ?_
          refine J_seq ?_
          refine J_region (by kernel_rfl) ?_
          (try simp only [go_sem, Nat.reduceEqDiff, reduceIte, Nat.reduceAdd, Nat.reduceSub, Nat.reduceLT, Nat.reduceMul, reduceCtorEq, Int.reduceToNat, Int.reduceLE, Int.reduceLT, Nat.reduceLeDiff])
          refine hold2 (then_n ?_)
          refine J_ret (fin_ret ?_)
          obtain rfl := Option.some.inj hP
          (try simp only [go_sem, Nat.reduceEqDiff, reduceIte, Nat.reduceAdd, Nat.reduceSub, Nat.reduceLT, Nat.reduceMul, reduceCtorEq, Int.reduceToNat, Int.reduceLE, Int.reduceLT, Nat.reduceLeDiff])
          refine fin_of [] (by decide) ?_ ?_ <;> first | rfl | simp only [List.length_set, List.length_replicate, ren, ren2, ren1, renH, renO, go_sem, Nat.reduceEqDiff, reduceIte, Nat.reduceAdd, Nat.reduceSub, Nat.reduceLT, Nat.reduceMul, reduceCtorEq, Int.reduceToNat, Int.reduceLE, Int.reduceLT, Nat.reduceLeDiff]
/-- colander/colanderref06.body -/
def ref06_body (l1 : List ((List UInt8) × (List UInt8))) (none2 : Bool) (open3 : Int) : Option ((Int × Int) × Int) :=
  (ref04_All l1 [116, 114, 97, 110, 115, 102, 101, 114, 45, 101, 110, 99, 111, 100, 105, 110, 103]).bind fun r4 =>
  (ref04_All l1 [99, 111, 110, 116, 101, 110, 116, 45, 108, 101, 110, 103, 116, 104]).bind fun r5 =>
  (show Option (Bool) from
    if decide (0 < ((List.length r4 : Nat) : Int)) then
      some (decide (0 < ((List.length r5 : Nat) : Int)))
    else
      some false).bind fun j7 =>
    if j7 then
      some ((0, 0), 19)
    else
      (show Option (Sum ((Int × Int) × Int) (Unit)) from
        if decide (0 < ((List.length r4 : Nat) : Int)) then
          (ref06_chunked l1).bind fun r10 =>
          if !r10 then
            some (Sum.inl ((0, 0), 21))
          else
            some (Sum.inr ())
        else
          some (Sum.inr ())).bind fun o9 => match o9 with
      | Sum.inl r => some r
      | Sum.inr j11 =>
        (show Option (Sum ((Int × Int) × Int) (Int)) from
          if decide (0 < ((List.length r5 : Nat) : Int)) then
            (ref06_length l1).bind fun r14 =>
            if !decide (r14.2 = 0) then
              some (Sum.inl ((0, 0), r14.2))
            else
              some (Sum.inr r14.1)
          else
            some (Sum.inr 0)).bind fun o13 => match o13 with
        | Sum.inl r => some r
        | Sum.inr j15 =>
          if none2 then
            some ((0, 0), 0)
          else
            if decide (0 < ((List.length r4 : Nat) : Int)) then
              some ((2, 0), 0)
            else
              (show Option (Bool) from
                if decide (0 < ((List.length r5 : Nat) : Int)) then
                  some (decide (8192 < j15))
                else
                  some false).bind fun j17 =>
                if j17 then
                  some ((0, 0), 23)
                else
                  if decide (0 < ((List.length r5 : Nat) : Int)) then
                    some ((1, j15), 0)
                  else
                    some ((open3, 0), 0)
set_option maxRecDepth 100000 in
set_option maxHeartbeats 40000000 in
theorem ref06_body_ok {l1 : List ((List UInt8) × (List UInt8))} {none2 : Bool} {open3 : Int} {r : (Int × Int) × Int} (hP : ref06_body l1 none2 open3 = some r) : CallOK Tryd.prog 15 [.view 2 (List.map enc_api_Field l1), .bool none2, .int .i64 open3] (.tup [.agg [.int .i64 r.1.1, .int .i64 r.1.2], .int .i64 r.2]) [] := by
  unfold ref06_body at hP
  refine callOK_of (n := 68) (rs := [.cell 6 27, .tmp 7]) Tryd.func15 rfl (by decide) rfl rfl (by simp) rfl (by first | rfl | simp [AV.vf, AV.vfL]) (by first | (intro o ho; simp at ho; done) | (simp [vfO, AV.vf, AV.vfL, encB, encI, encS, encO, enc_api_Field, enc_api_Body]; done) | (simp [vfO, AV.vf, AV.vfL, encB, encI, encS, encO, enc_api_Field, enc_api_Body]; intros; subst_vars; simp [AV.vf, AV.vfL])) ?_
  refine J_seq ?_
  refine J_region (by kernel_rfl) ?_
  (try simp only [go_sem, Nat.reduceEqDiff, reduceIte, Nat.reduceAdd, Nat.reduceSub, Nat.reduceLT, Nat.reduceMul, reduceCtorEq, Int.reduceToNat, Int.reduceLE, Int.reduceLT, Nat.reduceLeDiff])
  refine hold2 (then_n ?_)
  refine J_seq ?_
  refine J_region (by kernel_rfl) ?_
  (try simp only [go_sem, Nat.reduceEqDiff, reduceIte, Nat.reduceAdd, Nat.reduceSub, Nat.reduceLT, Nat.reduceMul, reduceCtorEq, Int.reduceToNat, Int.reduceLE, Int.reduceLT, Nat.reduceLeDiff])
  obtain ⟨r4, hr4, hP⟩ := bind_cases hP
  refine call_ok [.view 2 (List.map enc_api_Field l1), .str [116, 114, 97, 110, 115, 102, 101, 114, 45, 101, 110, 99, 111, 100, 105, 110, 103]] (ref04_All_ok hr4) ⟨argR_m false rfl, argR_m false rfl, trivial⟩ ?_
  (try simp only [go_sem, Nat.reduceEqDiff, reduceIte, Nat.reduceAdd, Nat.reduceSub, Nat.reduceLT, Nat.reduceMul, reduceCtorEq, Int.reduceToNat, Int.reduceLE, Int.reduceLT, Nat.reduceLeDiff])
  refine hold2 (then_n ?_)
  refine J_seq ?_
  refine J_region (by kernel_rfl) ?_
  (try simp only [go_sem, Nat.reduceEqDiff, reduceIte, Nat.reduceAdd, Nat.reduceSub, Nat.reduceLT, Nat.reduceMul, reduceCtorEq, Int.reduceToNat, Int.reduceLE, Int.reduceLT, Nat.reduceLeDiff])
  obtain ⟨r5, hr5, hP⟩ := bind_cases hP
  refine call_ok [.view 2 (List.map enc_api_Field l1), .str [99, 111, 110, 116, 101, 110, 116, 45, 108, 101, 110, 103, 116, 104]] (ref04_All_ok hr5) ⟨argR_m false rfl, argR_m false rfl, trivial⟩ ?_
  (try simp only [go_sem, Nat.reduceEqDiff, reduceIte, Nat.reduceAdd, Nat.reduceSub, Nat.reduceLT, Nat.reduceMul, reduceCtorEq, Int.reduceToNat, Int.reduceLE, Int.reduceLT, Nat.reduceLeDiff])
  refine hold2 (then_n ?_)
  refine J_seq ?_
  obtain ⟨o6, hP, hQ6⟩ := bind_cases hP
  refine J_join (fun (s : Bool) => envL [(0, .view 2 (List.map enc_api_Field l1)), (1, .bool none2), (2, .int .i64 open3), (6, .bptr 0 0), (8, .int .i64 ((List.length r4 : Nat) : Int)), (9, .int .i64 ((List.length r5 : Nat) : Int)), (25, .bool s)]) (fun (s : Bool) => [.box 27 [.int .i64 0, .int .i64 0]]) (fun s => s = o6) ?_ ?_
  · clear hQ6
    refine J_region (by kernel_rfl) ?_
    (try simp only [go_sem, Nat.reduceEqDiff, reduceIte, Nat.reduceAdd, Nat.reduceSub, Nat.reduceLT, Nat.reduceMul, reduceCtorEq, Int.reduceToNat, Int.reduceLE, Int.reduceLT, Nat.reduceLeDiff])
    rcases ite_cases hP with ⟨hc, hP⟩ | ⟨hc, hP⟩
    · refine guard_is hc ?_
      (try simp only [go_sem, Nat.reduceEqDiff, reduceIte, Nat.reduceAdd, Nat.reduceSub, Nat.reduceLT, Nat.reduceMul, reduceCtorEq, Int.reduceToNat, Int.reduceLE, Int.reduceLT, Nat.reduceLeDiff])
      refine hold2 ?_
      exact join_n (decide (0 < ((List.length r5 : Nat) : Int))) (Option.some.inj hP) (Sub.of _ _ [0] (by decide) (by first | rfl | (simp only [List.length_set, List.length_replicate]; rfl)) (by simp only [List.length_set, List.length_replicate, List.forall_mem_cons, List.not_mem_nil, false_implies, implies_true, and_true, go_sem, Nat.reduceEqDiff, reduceIte, Nat.reduceAdd, Nat.reduceSub, Nat.reduceLT, Nat.reduceMul, reduceCtorEq, Int.reduceToNat, Int.reduceLE, Int.reduceLT, Nat.reduceLeDiff, ren, ren2, ren1]; (try (first | done | rfl | (repeat' apply And.intro) <;> first | rfl | omega))))
    · refine guard_not hc ?_
      (try simp only [go_sem, Nat.reduceEqDiff, reduceIte, Nat.reduceAdd, Nat.reduceSub, Nat.reduceLT, Nat.reduceMul, reduceCtorEq, Int.reduceToNat, Int.reduceLE, Int.reduceLT, Nat.reduceLeDiff])
      refine hold2 ?_
      exact join_n false (Option.some.inj hP) (Sub.of _ _ [0] (by decide) (by first | rfl | (simp only [List.length_set, List.length_replicate]; rfl)) (by simp only [List.length_set, List.length_replicate, List.forall_mem_cons, List.not_mem_nil, false_implies, implies_true, and_true, go_sem, Nat.reduceEqDiff, reduceIte, Nat.reduceAdd, Nat.reduceSub, Nat.reduceLT, Nat.reduceMul, reduceCtorEq, Int.reduceToNat, Int.reduceLE, Int.reduceLT, Nat.reduceLeDiff, ren, ren2, ren1]; (try (first | done | rfl | (repeat' apply And.intro) <;> first | rfl | omega))))
  · intro j7 hs
    subst hs
    have hP := hQ6
    clear hQ6
    refine J_condV rfl ?_
    (try simp only [go_sem, Nat.reduceEqDiff, reduceIte, Nat.reduceAdd, Nat.reduceSub, Nat.reduceLT, Nat.reduceMul, reduceCtorEq, Int.reduceToNat, Int.reduceLE, Int.reduceLT, Nat.reduceLeDiff])
    rcases ite_cases hP with ⟨hc, hP⟩ | ⟨hc, hP⟩
    · refine condV_t hc ?_
      refine J_seq ?_
      refine J_region (by kernel_rfl) ?_
      (try simp only [go_sem, Nat.reduceEqDiff, reduceIte, Nat.reduceAdd, Nat.reduceSub, Nat.reduceLT, Nat.reduceMul, reduceCtorEq, Int.reduceToNat, Int.reduceLE, Int.reduceLT, Nat.reduceLeDiff])
      refine hold2 (then_n ?_)
      refine J_ret (then_ret (fin_ret ?_))
      obtain rfl := Option.some.inj hP
      (try simp only [go_sem, Nat.reduceEqDiff, reduceIte, Nat.reduceAdd, Nat.reduceSub, Nat.reduceLT, Nat.reduceMul, reduceCtorEq, Int.reduceToNat, Int.reduceLE, Int.reduceLT, Nat.reduceLeDiff])
      refine fin_of [] (by decide) ?_ ?_ <;> first | rfl | simp only [List.length_set, List.length_replicate, ren, ren2, ren1, renH, renO, go_sem, Nat.reduceEqDiff, reduceIte, Nat.reduceAdd, Nat.reduceSub, Nat.reduceLT, Nat.reduceMul, reduceCtorEq, Int.reduceToNat, Int.reduceLE, Int.reduceLT, Nat.reduceLeDiff]
    · refine condV_f hc ?_
      refine J_skip (then_n ?_)
      refine J_seq ?_
      refine J_region (by kernel_rfl) ?_
      (try simp only [go_sem, Nat.reduceEqDiff, reduceIte, Nat.reduceAdd, Nat.reduceSub, Nat.reduceLT, Nat.reduceMul, reduceCtorEq, Int.reduceToNat, Int.reduceLE, Int.reduceLT, Nat.reduceLeDiff])
      refine hold2 (then_n ?_)
      obtain ⟨o9, hP, hQ9⟩ := bind_cases hP
      refine J_join (fun (s : Unit) => envL [(0, .view 2 (List.map enc_api_Field l1)), (1, .bool none2), (2, .int .i64 open3), (6, .bptr 0 0), (8, .int .i64 ((List.length r4 : Nat) : Int)), (9, .int .i64 ((List.length r5 : Nat) : Int)), (10, .int .i64 0)]) (fun (s : Unit) => [.box 27 [.int .i64 0, .int .i64 0]]) (fun s => Sum.inr s = o9) ?_ ?_
      · refine J_seq ?_
        refine J_region (by kernel_rfl) ?_
        (try simp only [go_sem, Nat.reduceEqDiff, reduceIte, Nat.reduceAdd, Nat.reduceSub, Nat.reduceLT, Nat.reduceMul, reduceCtorEq, Int.reduceToNat, Int.reduceLE, Int.reduceLT, Nat.reduceLeDiff])
        refine hold2 (then_n ?_)
        refine J_condV rfl ?_
        (try simp only [go_sem, Nat.reduceEqDiff, reduceIte, Nat.reduceAdd, Nat.reduceSub, Nat.reduceLT, Nat.reduceMul, reduceCtorEq, Int.reduceToNat, Int.reduceLE, Int.reduceLT, Nat.reduceLeDiff])
        rcases ite_cases hP with ⟨hc, hP⟩ | ⟨hc, hP⟩
        · refine condV_t hc ?_
          refine J_seq ?_
          refine J_region (by kernel_rfl) ?_
          (try simp only [go_sem, Nat.reduceEqDiff, reduceIte, Nat.reduceAdd, Nat.reduceSub, Nat.reduceLT, Nat.reduceMul, reduceCtorEq, Int.reduceToNat, Int.reduceLE, Int.reduceLT, Nat.reduceLeDiff])
          obtain ⟨r10, hr10, hP⟩ := bind_cases hP
          refine call_ok [.view 2 (List.map enc_api_Field l1)] (ref06_chunked_ok hr10) ⟨argR_m false rfl, trivial⟩ ?_
          (try simp only [go_sem, Nat.reduceEqDiff, reduceIte, Nat.reduceAdd, Nat.reduceSub, Nat.reduceLT, Nat.reduceMul, reduceCtorEq, Int.reduceToNat, Int.reduceLE, Int.reduceLT, Nat.reduceLeDiff])
          refine hold2 (then_n ?_)
          refine J_seq ?_
          refine J_region (by kernel_rfl) ?_
          (try simp only [go_sem, Nat.reduceEqDiff, reduceIte, Nat.reduceAdd, Nat.reduceSub, Nat.reduceLT, Nat.reduceMul, reduceCtorEq, Int.reduceToNat, Int.reduceLE, Int.reduceLT, Nat.reduceLeDiff])
          refine hold2 (then_n ?_)
          refine J_condV rfl ?_
          (try simp only [go_sem, Nat.reduceEqDiff, reduceIte, Nat.reduceAdd, Nat.reduceSub, Nat.reduceLT, Nat.reduceMul, reduceCtorEq, Int.reduceToNat, Int.reduceLE, Int.reduceLT, Nat.reduceLeDiff])
          rcases ite_cases hP with ⟨hc, hP⟩ | ⟨hc, hP⟩
          · refine condV_t hc ?_
            refine J_seq ?_
            refine J_region (by kernel_rfl) ?_
            (try simp only [go_sem, Nat.reduceEqDiff, reduceIte, Nat.reduceAdd, Nat.reduceSub, Nat.reduceLT, Nat.reduceMul, reduceCtorEq, Int.reduceToNat, Int.reduceLE, Int.reduceLT, Nat.reduceLeDiff])
            refine hold2 (then_n ?_)
            refine J_ret (join_ret (fin_ret ?_))
            obtain rfl := Option.some.inj hP
            have hP := hQ9
            dsimp only at hP
            obtain rfl := Option.some.inj hP
            (try simp only [go_sem, Nat.reduceEqDiff, reduceIte, Nat.reduceAdd, Nat.reduceSub, Nat.reduceLT, Nat.reduceMul, reduceCtorEq, Int.reduceToNat, Int.reduceLE, Int.reduceLT, Nat.reduceLeDiff])
            refine fin_of [] (by decide) ?_ ?_ <;> first | rfl | simp only [List.length_set, List.length_replicate, ren, ren2, ren1, renH, renO, go_sem, Nat.reduceEqDiff, reduceIte, Nat.reduceAdd, Nat.reduceSub, Nat.reduceLT, Nat.reduceMul, reduceCtorEq, Int.reduceToNat, Int.reduceLE, Int.reduceLT, Nat.reduceLeDiff]
          · refine condV_f hc ?_
            refine J_skip ?_
            exact join_n () (Option.some.inj hP) (Sub.of _ _ [0] (by decide) (by first | rfl | (simp only [List.length_set, List.length_replicate]; rfl)) (by simp only [List.length_set, List.length_replicate, List.forall_mem_cons, List.not_mem_nil, false_implies, implies_true, and_true, go_sem, Nat.reduceEqDiff, reduceIte, Nat.reduceAdd, Nat.reduceSub, Nat.reduceLT, Nat.reduceMul, reduceCtorEq, Int.reduceToNat, Int.reduceLE, Int.reduceLT, Nat.reduceLeDiff, ren, ren2, ren1]; (try (first | done | rfl | (repeat' apply And.intro) <;> first | rfl | omega))))
        · refine condV_f hc ?_
          refine J_skip ?_
          exact join_n () (Option.some.inj hP) (Sub.of _ _ [0] (by decide) (by first | rfl | (simp only [List.length_set, List.length_replicate]; rfl)) (by simp only [List.length_set, List.length_replicate, List.forall_mem_cons, List.not_mem_nil, false_implies, implies_true, and_true, go_sem, Nat.reduceEqDiff, reduceIte, Nat.reduceAdd, Nat.reduceSub, Nat.reduceLT, Nat.reduceMul, reduceCtorEq, Int.reduceToNat, Int.reduceLE, Int.reduceLT, Nat.reduceLeDiff, ren, ren2, ren1]; (try (first | done | rfl | (repeat' apply And.intro) <;> first | rfl | omega))))
      · intro j11 hs
        subst hs
        have hP := hQ9
        dsimp only at hP
        clear hQ9
        obtain ⟨o13, hP, hQ13⟩ := bind_cases hP
        refine J_join (fun (s : Int) => envL [(1, .bool none2), (2, .int .i64 open3), (6, .bptr 0 0), (8, .int .i64 ((List.length r4 : Nat) : Int)), (9, .int .i64 ((List.length r5 : Nat) : Int)), (10, .int .i64 s)]) (fun (s : Int) => [.box 27 [.int .i64 0, .int .i64 0]]) (fun s => Sum.inr s = o13) ?_ ?_
        · refine J_seq ?_
          refine J_region (by kernel_rfl) ?_
          (try simp only [go_sem, Nat.reduceEqDiff, reduceIte, Nat.reduceAdd, Nat.reduceSub, Nat.reduceLT, Nat.reduceMul, reduceCtorEq, Int.reduceToNat, Int.reduceLE, Int.reduceLT, Nat.reduceLeDiff])
          refine hold2 (then_n ?_)
          refine J_condV rfl ?_
          (try simp only [go_sem, Nat.reduceEqDiff, reduceIte, Nat.reduceAdd, Nat.reduceSub, Nat.reduceLT, Nat.reduceMul, reduceCtorEq, Int.reduceToNat, Int.reduceLE, Int.reduceLT, Nat.reduceLeDiff])
          rcases ite_cases hP with ⟨hc, hP⟩ | ⟨hc, hP⟩
          · refine condV_t hc ?_
            refine J_seq ?_
            refine J_region (by kernel_rfl) ?_
            (try simp only [go_sem, Nat.reduceEqDiff, reduceIte, Nat.reduceAdd, Nat.reduceSub, Nat.reduceLT, Nat.reduceMul, reduceCtorEq, Int.reduceToNat, Int.reduceLE, Int.reduceLT, Nat.reduceLeDiff])
            obtain ⟨r14, hr14, hP⟩ := bind_cases hP
            refine call_ok [.view 2 (List.map enc_api_Field l1)] (ref06_length_ok hr14) ⟨argR_m false rfl, trivial⟩ ?_
            (try simp only [go_sem, Nat.reduceEqDiff, reduceIte, Nat.reduceAdd, Nat.reduceSub, Nat.reduceLT, Nat.reduceMul, reduceCtorEq, Int.reduceToNat, Int.reduceLE, Int.reduceLT, Nat.reduceLeDiff])
            refine hold2 (then_n ?_)
            refine J_seq ?_
            refine J_seq ?_
            refine J_region (by kernel_rfl) ?_
            (try simp only [go_sem, Nat.reduceEqDiff, reduceIte, Nat.reduceAdd, Nat.reduceSub, Nat.reduceLT, Nat.reduceMul, reduceCtorEq, Int.reduceToNat, Int.reduceLE, Int.reduceLT, Nat.reduceLeDiff])
            refine hold2 (then_n ?_)
            refine J_condV rfl ?_
            (try simp only [go_sem, Nat.reduceEqDiff, reduceIte, Nat.reduceAdd, Nat.reduceSub, Nat.reduceLT, Nat.reduceMul, reduceCtorEq, Int.reduceToNat, Int.reduceLE, Int.reduceLT, Nat.reduceLeDiff])
            rcases ite_cases hP with ⟨hc, hP⟩ | ⟨hc, hP⟩
            · refine condV_t hc ?_
              refine J_seq ?_
              refine J_region (by kernel_rfl) ?_
              (try simp only [go_sem, Nat.reduceEqDiff, reduceIte, Nat.reduceAdd, Nat.reduceSub, Nat.reduceLT, Nat.reduceMul, reduceCtorEq, Int.reduceToNat, Int.reduceLE, Int.reduceLT, Nat.reduceLeDiff])
              refine hold2 (then_n ?_)
              refine J_ret (then_ret (join_ret (fin_ret ?_)))
              obtain rfl := Option.some.inj hP
              have hP := hQ13
              dsimp only at hP
              obtain rfl := Option.some.inj hP
              (try simp only [go_sem, Nat.reduceEqDiff, reduceIte, Nat.reduceAdd, Nat.reduceSub, Nat.reduceLT, Nat.reduceMul, reduceCtorEq, Int.reduceToNat, Int.reduceLE, Int.reduceLT, Nat.reduceLeDiff])
              refine fin_of [] (by decide) ?_ ?_ <;> first | rfl | simp only [List.length_set, List.length_replicate, ren, ren2, ren1, renH, renO, go_sem, Nat.reduceEqDiff, reduceIte, Nat.reduceAdd, Nat.reduceSub, Nat.reduceLT, Nat.reduceMul, reduceCtorEq, Int.reduceToNat, Int.reduceLE, Int.reduceLT, Nat.reduceLeDiff]
            · refine condV_f hc ?_
              refine J_skip (then_n ?_)
              refine J_region (by kernel_rfl) ?_
              (try simp only [go_sem, Nat.reduceEqDiff, reduceIte, Nat.reduceAdd, Nat.reduceSub, Nat.reduceLT, Nat.reduceMul, reduceCtorEq, Int.reduceToNat, Int.reduceLE, Int.reduceLT, Nat.reduceLeDiff])
              refine hold2 ?_
              exact join_n r14.1 (Option.some.inj hP) (Sub.of _ _ [0] (by decide) (by first | rfl | (simp only [List.length_set, List.length_replicate]; rfl)) (by simp only [List.length_set, List.length_replicate, List.forall_mem_cons, List.not_mem_nil, false_implies, implies_true, and_true, go_sem, Nat.reduceEqDiff, reduceIte, Nat.reduceAdd, Nat.reduceSub, Nat.reduceLT, Nat.reduceMul, reduceCtorEq, Int.reduceToNat, Int.reduceLE, Int.reduceLT, Nat.reduceLeDiff, ren, ren2, ren1]; (try (first | done | rfl | (repeat' apply And.intro) <;> first | rfl | omega))))
          · refine condV_f hc ?_
            refine J_skip ?_
            exact join_n 0 (Option.some.inj hP) (Sub.of _ _ [0] (by decide) (by first | rfl | (simp only [List.length_set, List.length_replicate]; rfl)) (by simp only [List.length_set, List.length_replicate, List.forall_mem_cons, List.not_mem_nil, false_implies, implies_true, and_true, go_sem, Nat.reduceEqDiff, reduceIte, Nat.reduceAdd, Nat.reduceSub, Nat.reduceLT, Nat.reduceMul, reduceCtorEq, Int.reduceToNat, Int.reduceLE, Int.reduceLT, Nat.reduceLeDiff, ren, ren2, ren1]; (try (first | done | rfl | (repeat' apply And.intro) <;> first | rfl | omega))))
        · intro j15 hs
          subst hs
          have hP := hQ13
          dsimp only at hP
          clear hQ13
          refine J_seq ?_
          refine J_block ?_
          refine J_seq ?_
          refine J_region (by kernel_rfl) ?_
          (try simp only [go_sem, Nat.reduceEqDiff, reduceIte, Nat.reduceAdd, Nat.reduceSub, Nat.reduceLT, Nat.reduceMul, reduceCtorEq, Int.reduceToNat, Int.reduceLE, Int.reduceLT, Nat.reduceLeDiff])
          refine hold2 (then_n ?_)
          refine J_condV rfl ?_
          (try simp only [go_sem, Nat.reduceEqDiff, reduceIte, Nat.reduceAdd, Nat.reduceSub, Nat.reduceLT, Nat.reduceMul, reduceCtorEq, Int.reduceToNat, Int.reduceLE, Int.reduceLT, Nat.reduceLeDiff])
          rcases ite_cases hP with ⟨hc, hP⟩ | ⟨hc, hP⟩
          · refine condV_t hc ?_
            refine J_seq ?_
            refine J_region (by kernel_rfl) ?_
            (try simp only [go_sem, Nat.reduceEqDiff, reduceIte, Nat.reduceAdd, Nat.reduceSub, Nat.reduceLT, Nat.reduceMul, reduceCtorEq, Int.reduceToNat, Int.reduceLE, Int.reduceLT, Nat.reduceLeDiff])
            refine hold2 (then_n ?_)
            refine J_ret (block_ret (then_ret (fin_ret ?_)))
            obtain rfl := Option.some.inj hP
            (try simp only [go_sem, Nat.reduceEqDiff, reduceIte, Nat.reduceAdd, Nat.reduceSub, Nat.reduceLT, Nat.reduceMul, reduceCtorEq, Int.reduceToNat, Int.reduceLE, Int.reduceLT, Nat.reduceLeDiff])
            refine fin_of [] (by decide) ?_ ?_ <;> first | rfl | simp only [List.length_set, List.length_replicate, ren, ren2, ren1, renH, renO, go_sem, Nat.reduceEqDiff, reduceIte, Nat.reduceAdd, Nat.reduceSub, Nat.reduceLT, Nat.reduceMul, reduceCtorEq, Int.reduceToNat, Int.reduceLE, Int.reduceLT, Nat.reduceLeDiff]
          · refine condV_f hc ?_
            refine J_seq ?_
            refine J_region (by kernel_rfl) ?_
            (try simp only [go_sem, Nat.reduceEqDiff, reduceIte, Nat.reduceAdd, Nat.reduceSub, Nat.reduceLT, Nat.reduceMul, reduceCtorEq, Int.reduceToNat, Int.reduceLE, Int.reduceLT, Nat.reduceLeDiff])
            refine hold2 (then_n ?_)
            refine J_condV rfl ?_
            (try simp only [go_sem, Nat.reduceEqDiff, reduceIte, Nat.reduceAdd, Nat.reduceSub, Nat.reduceLT, Nat.reduceMul, reduceCtorEq, Int.reduceToNat, Int.reduceLE, Int.reduceLT, Nat.reduceLeDiff])
            rcases ite_cases hP with ⟨hc, hP⟩ | ⟨hc, hP⟩
            · refine condV_t hc ?_
              refine J_seq ?_
              refine J_region (by kernel_rfl) ?_
              (try simp only [go_sem, Nat.reduceEqDiff, reduceIte, Nat.reduceAdd, Nat.reduceSub, Nat.reduceLT, Nat.reduceMul, reduceCtorEq, Int.reduceToNat, Int.reduceLE, Int.reduceLT, Nat.reduceLeDiff])
              refine hold2 (then_n ?_)
              refine J_ret (block_ret (then_ret (fin_ret ?_)))
              obtain rfl := Option.some.inj hP
              (try simp only [go_sem, Nat.reduceEqDiff, reduceIte, Nat.reduceAdd, Nat.reduceSub, Nat.reduceLT, Nat.reduceMul, reduceCtorEq, Int.reduceToNat, Int.reduceLE, Int.reduceLT, Nat.reduceLeDiff])
              refine fin_of [] (by decide) ?_ ?_ <;> first | rfl | simp only [List.length_set, List.length_replicate, ren, ren2, ren1, renH, renO, go_sem, Nat.reduceEqDiff, reduceIte, Nat.reduceAdd, Nat.reduceSub, Nat.reduceLT, Nat.reduceMul, reduceCtorEq, Int.reduceToNat, Int.reduceLE, Int.reduceLT, Nat.reduceLeDiff]
            · refine condV_f hc ?_
              obtain ⟨o16, hP, hQ16⟩ := bind_cases hP
              refine J_join (fun (s : Bool) => envL [(2, .int .i64 open3), (6, .bptr 0 0), (9, .int .i64 ((List.length r5 : Nat) : Int)), (10, .int .i64 j15), (53, .bool s)]) (fun (s : Bool) => [.box 27 [.int .i64 0, .int .i64 0]]) (fun s => s = o16) ?_ ?_
              · clear hQ16
                refine J_region (by kernel_rfl) ?_
                (try simp only [go_sem, Nat.reduceEqDiff, reduceIte, Nat.reduceAdd, Nat.reduceSub, Nat.reduceLT, Nat.reduceMul, reduceCtorEq, Int.reduceToNat, Int.reduceLE, Int.reduceLT, Nat.reduceLeDiff])
                rcases ite_cases hP with ⟨hc, hP⟩ | ⟨hc, hP⟩
                · refine guard_is hc ?_
                  (try simp only [go_sem, Nat.reduceEqDiff, reduceIte, Nat.reduceAdd, Nat.reduceSub, Nat.reduceLT, Nat.reduceMul, reduceCtorEq, Int.reduceToNat, Int.reduceLE, Int.reduceLT, Nat.reduceLeDiff])
                  refine hold2 ?_
                  exact join_n (decide (8192 < j15)) (Option.some.inj hP) (Sub.of _ _ [0] (by decide) (by first | rfl | (simp only [List.length_set, List.length_replicate]; rfl)) (by simp only [List.length_set, List.length_replicate, List.forall_mem_cons, List.not_mem_nil, false_implies, implies_true, and_true, go_sem, Nat.reduceEqDiff, reduceIte, Nat.reduceAdd, Nat.reduceSub, Nat.reduceLT, Nat.reduceMul, reduceCtorEq, Int.reduceToNat, Int.reduceLE, Int.reduceLT, Nat.reduceLeDiff, ren, ren2, ren1]; (try (first | done | rfl | (repeat' apply And.intro) <;> first | rfl | omega))))
                · refine guard_not hc ?_
                  (try simp only [go_sem, Nat.reduceEqDiff, reduceIte, Nat.reduceAdd, Nat.reduceSub, Nat.reduceLT, Nat.reduceMul, reduceCtorEq, Int.reduceToNat, Int.reduceLE, Int.reduceLT, Nat.reduceLeDiff])
                  refine hold2 ?_
                  exact join_n false (Option.some.inj hP) (Sub.of _ _ [0] (by decide) (by first | rfl | (simp only [List.length_set, List.length_replicate]; rfl)) (by simp only [List.length_set, List.length_replicate, List.forall_mem_cons, List.not_mem_nil, false_implies, implies_true, and_true, go_sem, Nat.reduceEqDiff, reduceIte, Nat.reduceAdd, Nat.reduceSub, Nat.reduceLT, Nat.reduceMul, reduceCtorEq, Int.reduceToNat, Int.reduceLE, Int.reduceLT, Nat.reduceLeDiff, ren, ren2, ren1]; (try (first | done | rfl | (repeat' apply And.intro) <;> first | rfl | omega))))
              · intro j17 hs
                subst hs
                have hP := hQ16
                clear hQ16
                refine J_condV rfl ?_
                (try simp only [go_sem, Nat.reduceEqDiff, reduceIte, Nat.reduceAdd, Nat.reduceSub, Nat.reduceLT, Nat.reduceMul, reduceCtorEq, Int.reduceToNat, Int.reduceLE, Int.reduceLT, Nat.reduceLeDiff])
                rcases ite_cases hP with ⟨hc, hP⟩ | ⟨hc, hP⟩
                · refine condV_t hc ?_
                  refine J_seq ?_
                  refine J_region (by kernel_rfl) ?_
                  (try simp only [go_sem, Nat.reduceEqDiff, reduceIte, Nat.reduceAdd, Nat.reduceSub, Nat.reduceLT, Nat.reduceMul, reduceCtorEq, Int.reduceToNat, Int.reduceLE, Int.reduceLT, Nat.reduceLeDiff])
                  refine hold2 (then_n ?_)
                  refine J_ret (block_ret (then_ret (fin_ret ?_)))
                  obtain rfl := Option.some.inj hP
                  (try simp only [go_sem, Nat.reduceEqDiff, reduceIte, Nat.reduceAdd, Nat.reduceSub, Nat.reduceLT, Nat.reduceMul, reduceCtorEq, Int.reduceToNat, Int.reduceLE, Int.reduceLT, Nat.reduceLeDiff])
                  refine fin_of [] (by decide) ?_ ?_ <;> first | rfl | simp only [List.length_set, List.length_replicate, ren, ren2, ren1, renH, renO, go_sem, Nat.reduceEqDiff, reduceIte, Nat.reduceAdd, Nat.reduceSub, Nat.reduceLT, Nat.reduceMul, reduceCtorEq, Int.reduceToNat, Int.reduceLE, Int.reduceLT, Nat.reduceLeDiff]
                · refine condV_f hc ?_
                  refine J_seq ?_
                  refine J_region (by kernel_rfl) ?_
                  (try simp only [go_sem, Nat.reduceEqDiff, reduceIte, Nat.reduceAdd, Nat.reduceSub, Nat.reduceLT, Nat.reduceMul, reduceCtorEq, Int.reduceToNat, Int.reduceLE, Int.reduceLT, Nat.reduceLeDiff])
                  refine hold2 (then_n ?_)
                  refine J_condV rfl ?_
                  (try simp only [go_sem, Nat.reduceEqDiff, reduceIte, Nat.reduceAdd, Nat.reduceSub, Nat.reduceLT, Nat.reduceMul, reduceCtorEq, Int.reduceToNat, Int.reduceLE, Int.reduceLT, Nat.reduceLeDiff])
                  rcases ite_cases hP with ⟨hc, hP⟩ | ⟨hc, hP⟩
                  · refine condV_t hc ?_
                    refine J_seq ?_
                    refine J_region (by kernel_rfl) ?_
                    (try simp only [go_sem, Nat.reduceEqDiff, reduceIte, Nat.reduceAdd, Nat.reduceSub, Nat.reduceLT, Nat.reduceMul, reduceCtorEq, Int.reduceToNat, Int.reduceLE, Int.reduceLT, Nat.reduceLeDiff])
                    refine hold2 (then_n ?_)
                    refine J_ret (block_ret (then_ret (fin_ret ?_)))
                    obtain rfl := Option.some.inj hP
                    (try simp only [go_sem, Nat.reduceEqDiff, reduceIte, Nat.reduceAdd, Nat.reduceSub, Nat.reduceLT, Nat.reduceMul, reduceCtorEq, Int.reduceToNat, Int.reduceLE, Int.reduceLT, Nat.reduceLeDiff])
                    refine fin_of [] (by decide) ?_ ?_ <;> first | rfl | simp only [List.length_set, List.length_replicate, ren, ren2, ren1, renH, renO, go_sem, Nat.reduceEqDiff, reduceIte, Nat.reduceAdd, Nat.reduceSub, Nat.reduceLT, Nat.reduceMul, reduceCtorEq, Int.reduceToNat, Int.reduceLE, Int.reduceLT, Nat.reduceLeDiff]
                  · refine condV_f hc ?_
                    refine J_skip (block_n (then_n ?_))
                    refine J_seq ?_
                    refine J_region (by kernel_rfl) ?_
                    (try simp only [go_sem, Nat.reduceEqDiff, reduceIte, Nat.reduceAdd, Nat.reduceSub, Nat.reduceLT, Nat.reduceMul, reduceCtorEq, Int.reduceToNat, Int.reduceLE, Int.reduceLT, Nat.reduceLeDiff])
                    refine hold2 (then_n ?_)
                    refine J_ret (fin_ret ?_)
                    obtain rfl := Option.some.inj hP
                    (try simp only [go_sem, Nat.reduceEqDiff, reduceIte, Nat.reduceAdd, Nat.reduceSub, Nat.reduceLT, Nat.reduceMul, reduceCtorEq, Int.reduceToNat, Int.reduceLE, Int.reduceLT, Nat.reduceLeDiff])
                    refine fin_of [] (by decide) ?_ ?_ <;> first | rfl | simp only [List.length_set, List.length_replicate, ren, ren2, ren1, renH, renO, go_sem, Nat.reduceEqDiff, reduceIte, Nat.reduceAdd, Nat.reduceSub, Nat.reduceLT, Nat.reduceMul, reduceCtorEq, Int.reduceToNat, Int.reduceLE, Int.reduceLT, Nat.reduceLeDiff]
/-- colander/colanderref06.Request -/
def ref06_Request (q1 : (List UInt8) × (List UInt8) × (List ((List UInt8) × (List UInt8)))) : Option ((Int × Int) × Int) :=
  (ref06_body q1.2.2 false 0).bind fun r2 =>
  some ((r2.1.1, r2.1.2), r2.2)
set_option maxRecDepth 100000 in
set_option maxHeartbeats 40000000 in
theorem ref06_Request_ok {q1 : (List UInt8) × (List UInt8) × (List ((List UInt8) × (List UInt8)))} {r : (Int × Int) × Int} (hP : ref06_Request q1 = some r) : CallOK Tryd.prog 10 [.agg [.str q1.1, .str q1.2.1, .view 2 (List.map enc_api_Field q1.2.2)]] (.tup [.agg [.int .i64 r.1.1, .int .i64 r.1.2], .int .i64 r.2]) [] := by
  unfold ref06_Request at hP
  refine callOK_of (n := 9) (rs := [.cell 2 27, .tmp 3]) Tryd.func10 rfl (by decide) rfl rfl (by simp) rfl (by first | rfl | simp [AV.vf, AV.vfL]) (by first | (intro o ho; simp at ho; done) | (simp [vfO, AV.vf, AV.vfL, encB, encI, encS, encO, enc_api_Field, enc_api_Body]; done) | (simp [vfO, AV.vf, AV.vfL, encB, encI, encS, encO, enc_api_Field, enc_api_Body]; intros; subst_vars; simp [AV.vf, AV.vfL])) ?_
  refine J_seq ?_
  refine J_region (by kernel_rfl) ?_
  (try simp only [go_sem, Nat.reduceEqDiff, reduceIte, Nat.reduceAdd, Nat.reduceSub, Nat.reduceLT, Nat.reduceMul, reduceCtorEq, Int.reduceToNat, Int.reduceLE, Int.reduceLT, Nat.reduceLeDiff])
  refine hold2 (then_n ?_)
  refine J_seq ?_
  refine J_region (by kernel_rfl) ?_
  (try simp only [go_sem, Nat.reduceEqDiff, reduceIte, Nat.reduceAdd, Nat.reduceSub, Nat.reduceLT, Nat.reduceMul, reduceCtorEq, Int.reduceToNat, Int.reduceLE, Int.reduceLT, Nat.reduceLeDiff])
  obtain ⟨r2, hr2, hP⟩ := bind_cases hP
  refine call_ok [.view 2 (List.map enc_api_Field q1.2.2), .bool false, .int .i64 0] (ref06_body_ok hr2) ⟨argR_m false rfl, argR_m false rfl, argR_m false rfl, trivial⟩ ?_
  (try simp only [go_sem, Nat.reduceEqDiff, reduceIte, Nat.reduceAdd, Nat.reduceSub, Nat.reduceLT, Nat.reduceMul, reduceCtorEq, Int.reduceToNat, Int.reduceLE, Int.reduceLT, Nat.reduceLeDiff])
  refine hold2 (then_n ?_)
  refine J_ret (fin_ret ?_)
  obtain rfl := Option.some.inj hP
  (try simp only [go_sem, Nat.reduceEqDiff, reduceIte, Nat.reduceAdd, Nat.reduceSub, Nat.reduceLT, Nat.reduceMul, reduceCtorEq, Int.reduceToNat, Int.reduceLE, Int.reduceLT, Nat.reduceLeDiff])
  refine fin_of [] (by decide) ?_ ?_ <;> first | rfl | simp only [List.length_set, List.length_replicate, ren, ren2, ren1, renH, renO, go_sem, Nat.reduceEqDiff, reduceIte, Nat.reduceAdd, Nat.reduceSub, Nat.reduceLT, Nat.reduceMul, reduceCtorEq, Int.reduceToNat, Int.reduceLE, Int.reduceLT, Nat.reduceLeDiff]
/-- colander/colanderref06.Response -/
def ref06_Response (method1 : List UInt8) (p2 : Int × (List UInt8) × (List ((List UInt8) × (List UInt8)))) : Option ((Int × Int) × Int) :=
  if decide (method1 = [72, 69, 65, 68]) then
    (ref06_body p2.2.2 true 3).bind fun r5 =>
    some ((r5.1.1, r5.1.2), r5.2)
  else
    if decide (p2.1 = 204) then
      (ref06_body p2.2.2 true 3).bind fun r4 =>
      some ((r4.1.1, r4.1.2), r4.2)
    else
      (ref06_body p2.2.2 (decide (p2.1 = 304)) 3).bind fun r3 =>
      some ((r3.1.1, r3.1.2), r3.2)
set_option maxRecDepth 100000 in
set_option maxHeartbeats 40000000 in
theorem ref06_Response_ok {method1 : List UInt8} {p2 : Int × (List UInt8) × (List ((List UInt8) × (List UInt8)))} {r : (Int × Int) × Int} (hP : ref06_Response method1 p2 = some r) : CallOK Tryd.prog 11 [.str method1, .agg [.int .i64 p2.1, .str p2.2.1, .view 2 (List.map enc_api_Field p2.2.2)]] (.tup [.agg [.int .i64 r.1.1, .int .i64 r.1.2], .int .i64 r.2]) [] := by
  unfold ref06_Response at hP
  refine callOK_of (n := 23) (rs := [.cell 4 27, .tmp 5]) Tryd.func11 rfl (by decide) rfl rfl (by simp) rfl (by first | rfl | simp [AV.vf, AV.vfL]) (by first | (intro o ho; simp at ho; done) | (simp [vfO, AV.vf, AV.vfL, encB, encI, encS, encO, enc_api_Field, enc_api_Body]; done) | (simp [vfO, AV.vf, AV.vfL, encB, encI, encS, encO, enc_api_Field, enc_api_Body]; intros; subst_vars; simp [AV.vf, AV.vfL])) ?_
  refine J_seq ?_
  refine J_region (by kernel_rfl) ?_
  (try simp only [go_sem, Nat.reduceEqDiff, reduceIte, Nat.reduceAdd, Nat.reduceSub, Nat.reduceLT, Nat.reduceMul, reduceCtorEq, Int.reduceToNat, Int.reduceLE, Int.reduceLT, Nat.reduceLeDiff])
  refine hold2 (then_n ?_)
  refine J_seq ?_
  refine J_region (by kernel_rfl) ?_
  (try simp only [go_sem, Nat.reduceEqDiff, reduceIte, Nat.reduceAdd, Nat.reduceSub, Nat.reduceLT, Nat.reduceMul, reduceCtorEq, Int.reduceToNat, Int.reduceLE, Int.reduceLT, Nat.reduceLeDiff])
  rcases ite_cases hP with ⟨hc, hP⟩ | ⟨hc, hP⟩
  · refine guard_not hc ?_
    (try simp only [go_sem, Nat.reduceEqDiff, reduceIte, Nat.reduceAdd, Nat.reduceSub, Nat.reduceLT, Nat.reduceMul, reduceCtorEq, Int.reduceToNat, Int.reduceLE, Int.reduceLT, Nat.reduceLeDiff])
    obtain ⟨r5, hr5, hP⟩ := bind_cases hP
    refine call_ok [.view 2 (List.map enc_api_Field p2.2.2), .bool true, .int .i64 3] (ref06_body_ok hr5) ⟨argR_m false rfl, argR_m false rfl, argR_m false rfl, trivial⟩ ?_
    (try simp only [go_sem, Nat.reduceEqDiff, reduceIte, Nat.reduceAdd, Nat.reduceSub, Nat.reduceLT, Nat.reduceMul, reduceCtorEq, Int.reduceToNat, Int.reduceLE, Int.reduceLT, Nat.reduceLeDiff])
    refine hold2 (then_n ?_)
    refine J_ret (fin_ret ?_)
    obtain rfl := Option.some.inj hP
    (try simp only [go_sem, Nat.reduceEqDiff, reduceIte, Nat.reduceAdd, Nat.reduceSub, Nat.reduceLT, Nat.reduceMul, reduceCtorEq, Int.reduceToNat, Int.reduceLE, Int.reduceLT, Nat.reduceLeDiff])
    refine fin_of [] (by decide) ?_ ?_ <;> first | rfl | simp only [List.length_set, List.length_replicate, ren, ren2, ren1, renH, renO, go_sem, Nat.reduceEqDiff, reduceIte, Nat.reduceAdd, Nat.reduceSub, Nat.reduceLT, Nat.reduceMul, reduceCtorEq, Int.reduceToNat, Int.reduceLE, Int.reduceLT, Nat.reduceLeDiff]
  · refine guard_is hc ?_
    (try simp only [go_sem, Nat.reduceEqDiff, reduceIte, Nat.reduceAdd, Nat.reduceSub, Nat.reduceLT, Nat.reduceMul, reduceCtorEq, Int.reduceToNat, Int.reduceLE, Int.reduceLT, Nat.reduceLeDiff])
    rcases ite_cases hP with ⟨hc, hP⟩ | ⟨hc, hP⟩
    · refine guard_not hc ?_
      (try simp only [go_sem, Nat.reduceEqDiff, reduceIte, Nat.reduceAdd, Nat.reduceSub, Nat.reduceLT, Nat.reduceMul, reduceCtorEq, Int.reduceToNat, Int.reduceLE, Int.reduceLT, Nat.reduceLeDiff])
      obtain ⟨r4, hr4, hP⟩ := bind_cases hP
      refine call_ok [.view 2 (List.map enc_api_Field p2.2.2), .bool true, .int .i64 3] (ref06_body_ok hr4) ⟨argR_m false rfl, argR_m false rfl, argR_m false rfl, trivial⟩ ?_
      (try simp only [go_sem, Nat.reduceEqDiff, reduceIte, Nat.reduceAdd, Nat.reduceSub, Nat.reduceLT, Nat.reduceMul, reduceCtorEq, Int.reduceToNat, Int.reduceLE, Int.reduceLT, Nat.reduceLeDiff])
      refine hold2 (then_n ?_)
      refine J_ret (fin_ret ?_)
      obtain rfl := Option.some.inj hP
      (try simp only [go_sem, Nat.reduceEqDiff, reduceIte, Nat.reduceAdd, Nat.reduceSub, Nat.reduceLT, Nat.reduceMul, reduceCtorEq, Int.reduceToNat, Int.reduceLE, Int.reduceLT, Nat.reduceLeDiff])
      refine fin_of [] (by decide) ?_ ?_ <;> first | rfl | simp only [List.length_set, List.length_replicate, ren, ren2, ren1, renH, renO, go_sem, Nat.reduceEqDiff, reduceIte, Nat.reduceAdd, Nat.reduceSub, Nat.reduceLT, Nat.reduceMul, reduceCtorEq, Int.reduceToNat, Int.reduceLE, Int.reduceLT, Nat.reduceLeDiff]
    · refine guard_is hc ?_
      (try simp only [go_sem, Nat.reduceEqDiff, reduceIte, Nat.reduceAdd, Nat.reduceSub, Nat.reduceLT, Nat.reduceMul, reduceCtorEq, Int.reduceToNat, Int.reduceLE, Int.reduceLT, Nat.reduceLeDiff])
      obtain ⟨r3, hr3, hP⟩ := bind_cases hP
      refine call_ok [.view 2 (List.map enc_api_Field p2.2.2), .bool (decide (p2.1 = 304)), .int .i64 3] (ref06_body_ok hr3) ⟨argR_m false rfl, argR_m false rfl, argR_m false rfl, trivial⟩ ?_
      (try simp only [go_sem, Nat.reduceEqDiff, reduceIte, Nat.reduceAdd, Nat.reduceSub, Nat.reduceLT, Nat.reduceMul, reduceCtorEq, Int.reduceToNat, Int.reduceLE, Int.reduceLT, Nat.reduceLeDiff])
      refine hold2 (then_n ?_)
      refine J_ret (fin_ret ?_)
      obtain rfl := Option.some.inj hP
      (try simp only [go_sem, Nat.reduceEqDiff, reduceIte, Nat.reduceAdd, Nat.reduceSub, Nat.reduceLT, Nat.reduceMul, reduceCtorEq, Int.reduceToNat, Int.reduceLE, Int.reduceLT, Nat.reduceLeDiff])
      refine fin_of [] (by decide) ?_ ?_ <;> first | rfl | simp only [List.length_set, List.length_replicate, ren, ren2, ren1, renH, renO, go_sem, Nat.reduceEqDiff, reduceIte, Nat.reduceAdd, Nat.reduceSub, Nat.reduceLT, Nat.reduceMul, reduceCtorEq, Int.reduceToNat, Int.reduceLE, Int.reduceLT, Nat.reduceLeDiff]
end Go.Proofs.YtcikflhenbpdiaaDoor
