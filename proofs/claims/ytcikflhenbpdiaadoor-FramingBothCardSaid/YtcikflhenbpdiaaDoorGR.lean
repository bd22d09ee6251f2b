/- Functions of the program, and pure ones that go the same ways: that the program's return what these compute. -/
import Derived.Test.YtcikflhenbpdiaaDoorLibN
namespace Go.Proofs.YtcikflhenbpdiaaDoor
open Go.Av
set_option linter.unusedVariables false
set_option linter.unusedSimpArgs false
/-- colander/colanderref02.digit -/
def ref02_digit (c1 : UInt8) : Option (Int) :=
  (show Option (Bool) from
    if decide (b2i (bC 48) ≤ b2i c1) then
      some (decide (b2i c1 ≤ b2i (bC 57)))
    else
      some false).bind fun j3 =>
    if j3 then
      some (b2i (c1 - (bC 48)))
    else
      (show Option (Bool) from
        if decide (b2i (bC 97) ≤ b2i c1) then
          some (decide (b2i c1 ≤ b2i (bC 102)))
        else
          some false).bind fun j5 =>
        if j5 then
          some (iadd .i64 (b2i (c1 - (bC 97))) 10)
        else
          (show Option (Bool) from
            if decide (b2i (bC 65) ≤ b2i c1) then
              some (decide (b2i c1 ≤ b2i (bC 70)))
            else
              some false).bind fun j7 =>
            if j7 then
              some (iadd .i64 (b2i (c1 - (bC 65))) 10)
            else
              some 16
set_option maxRecDepth 100000 in
set_option maxHeartbeats 40000000 in
theorem ref02_digit_ok {c1 : UInt8} {r : Int} (hP : ref02_digit c1 = some r) : CallOK Tryd.prog 52 [.int .u8 (b2i c1)] (.int .i64 r) [] := by
  unfold ref02_digit at hP
  refine callOK_of (n := 32) (rs := [.tmp 2]) Tryd.func52 rfl (by decide) rfl rfl (by simp) rfl (by first | rfl | simp [AV.vf, AV.vfL]) (by first | (intro o ho; simp at ho; done) | (simp [vfO, AV.vf, AV.vfL, encB, encI, encS, encO, enc_api_Field, enc_api_Body]; done) | (simp [vfO, AV.vf, AV.vfL, encB, encI, encS, encO, enc_api_Field, enc_api_Body]; intros; subst_vars; simp [AV.vf, AV.vfL])) ?_
  refine J_seq ?_
  refine J_region (by kernel_rfl) ?_
  (try simp only [go_sem, Nat.reduceEqDiff, reduceIte, Nat.reduceAdd, Nat.reduceSub, Nat.reduceLT, Nat.reduceMul, reduceCtorEq, Int.reduceToNat, Int.reduceLE, Int.reduceLT, Nat.reduceLeDiff])
  refine hold2 (then_n ?_)
  refine J_seq ?_
  obtain ⟨o2, hP, hQ2⟩ := bind_cases hP
  refine J_join (fun (s : Bool) => envL [(0, .int .u8 (b2i c1)), (8, .bool s)]) (fun (s : Bool) => []) (fun s => s = o2) ?_ ?_
  · clear hQ2
    refine J_region (by kernel_rfl) ?_
    (try simp only [go_sem, Nat.reduceEqDiff, reduceIte, Nat.reduceAdd, Nat.reduceSub, Nat.reduceLT, Nat.reduceMul, reduceCtorEq, Int.reduceToNat, Int.reduceLE, Int.reduceLT, Nat.reduceLeDiff])
    rcases ite_cases hP with ⟨hc, hP⟩ | ⟨hc, hP⟩
    · refine guard_is hc ?_
      (try simp only [go_sem, Nat.reduceEqDiff, reduceIte, Nat.reduceAdd, Nat.reduceSub, Nat.reduceLT, Nat.reduceMul, reduceCtorEq, Int.reduceToNat, Int.reduceLE, Int.reduceLT, Nat.reduceLeDiff])
      refine hold2 ?_
      exact join_n (decide (b2i c1 ≤ b2i (bC 57))) (Option.some.inj hP) (Sub.of _ _ [] (by decide) (by first | rfl | (simp only [List.length_set, List.length_replicate]; rfl)) (by simp only [List.length_set, List.length_replicate, List.forall_mem_cons, List.not_mem_nil, false_implies, implies_true, and_true, go_sem, Nat.reduceEqDiff, reduceIte, Nat.reduceAdd, Nat.reduceSub, Nat.reduceLT, Nat.reduceMul, reduceCtorEq, Int.reduceToNat, Int.reduceLE, Int.reduceLT, Nat.reduceLeDiff, ren, ren2, ren1]; (try (first | done | rfl | (repeat' apply And.intro) <;> first | rfl | omega))))
    · refine guard_not hc ?_
      (try simp only [go_sem, Nat.reduceEqDiff, reduceIte, Nat.reduceAdd, Nat.reduceSub, Nat.reduceLT, Nat.reduceMul, reduceCtorEq, Int.reduceToNat, Int.reduceLE, Int.reduceLT, Nat.reduceLeDiff])
      refine hold2 ?_
      exact join_n false (Option.some.inj hP) (Sub.of _ _ [] (by decide) (by first | rfl | (simp only [List.length_set, List.length_replicate]; rfl)) (by simp only [List.length_set, List.length_replicate, List.forall_mem_cons, List.not_mem_nil, false_implies, implies_true, and_true, go_sem, Nat.reduceEqDiff, reduceIte, Nat.reduceAdd, Nat.reduceSub, Nat.reduceLT, Nat.reduceMul, reduceCtorEq, Int.reduceToNat, Int.reduceLE, Int.reduceLT, Nat.reduceLeDiff, ren, ren2, ren1]; (try (first | done | rfl | (repeat' apply And.intro) <;> first | rfl | omega))))
  · intro j3 hs
    subst hs
    have hP := hQ2
    clear hQ2
    refine J_condV rfl ?_
    (try simp only [go_sem, Nat.reduceEqDiff, reduceIte, Nat.reduceAdd, Nat.reduceSub, Nat.reduceLT, Nat.reduceMul, reduceCtorEq, Int.reduceToNat, Int.reduceLE, Int.reduceLT, Nat.reduceLeDiff])
    rcases ite_cases hP with ⟨hc, hP⟩ | ⟨hc, hP⟩
    · refine condV_t hc ?_
      refine J_seq ?_
      refine J_region (by kernel_rfl) ?_
      (try simp only [go_sem, Nat.reduceEqDiff, reduceIte, Nat.reduceAdd, Nat.reduceSub, Nat.reduceLT, Nat.reduceMul, reduceCtorEq, Int.reduceToNat, Int.reduceLE, Int.reduceLT, Nat.reduceLeDiff])
      refine hold2 (then_n ?_)
      refine J_ret (then_ret (fin_ret ?_))
      obtain rfl := Option.some.inj hP
      (try simp only [go_sem, Nat.reduceEqDiff, reduceIte, Nat.reduceAdd, Nat.reduceSub, Nat.reduceLT, Nat.reduceMul, reduceCtorEq, Int.reduceToNat, Int.reduceLE, Int.reduceLT, Nat.reduceLeDiff])
      refine fin_of [] (by decide) ?_ ?_ <;> first | rfl | simp only [List.length_set, List.length_replicate, ren, ren2, ren1, renH, renO, go_sem, Nat.reduceEqDiff, reduceIte, Nat.reduceAdd, Nat.reduceSub, Nat.reduceLT, Nat.reduceMul, reduceCtorEq, Int.reduceToNat, Int.reduceLE, Int.reduceLT, Nat.reduceLeDiff]
    · refine condV_f hc ?_
      refine J_skip (then_n ?_)
      refine J_seq ?_
      obtain ⟨o4, hP, hQ4⟩ := bind_cases hP
      refine J_join (fun (s : Bool) => envL [(0, .int .u8 (b2i c1)), (17, .bool s)]) (fun (s : Bool) => []) (fun s => s = o4) ?_ ?_
      · clear hQ4
        refine J_region (by kernel_rfl) ?_
        (try simp only [go_sem, Nat.reduceEqDiff, reduceIte, Nat.reduceAdd, Nat.reduceSub, Nat.reduceLT, Nat.reduceMul, reduceCtorEq, Int.reduceToNat, Int.reduceLE, Int.reduceLT, Nat.reduceLeDiff])
        rcases ite_cases hP with ⟨hc, hP⟩ | ⟨hc, hP⟩
        · refine guard_is hc ?_
          (try simp only [go_sem, Nat.reduceEqDiff, reduceIte, Nat.reduceAdd, Nat.reduceSub, Nat.reduceLT, Nat.reduceMul, reduceCtorEq, Int.reduceToNat, Int.reduceLE, Int.reduceLT, Nat.reduceLeDiff])
          refine hold2 ?_
          exact join_n (decide (b2i c1 ≤ b2i (bC 102))) (Option.some.inj hP) (Sub.of _ _ [] (by decide) (by first | rfl | (simp only [List.length_set, List.length_replicate]; rfl)) (by simp only [List.length_set, List.length_replicate, List.forall_mem_cons, List.not_mem_nil, false_implies, implies_true, and_true, go_sem, Nat.reduceEqDiff, reduceIte, Nat.reduceAdd, Nat.reduceSub, Nat.reduceLT, Nat.reduceMul, reduceCtorEq, Int.reduceToNat, Int.reduceLE, Int.reduceLT, Nat.reduceLeDiff, ren, ren2, ren1]; (try (first | done | rfl | (repeat' apply And.intro) <;> first | rfl | omega))))
        · refine guard_not hc ?_
          (try simp only [go_sem, Nat.reduceEqDiff, reduceIte, Nat.reduceAdd, Nat.reduceSub, Nat.reduceLT, Nat.reduceMul, reduceCtorEq, Int.reduceToNat, Int.reduceLE, Int.reduceLT, Nat.reduceLeDiff])
          refine hold2 ?_
          exact join_n false (Option.some.inj hP) (Sub.of _ _ [] (by decide) (by first | rfl | (simp only [List.length_set, List.length_replicate]; rfl)) (by simp only [List.length_set, List.length_replicate, List.forall_mem_cons, List.not_mem_nil, false_implies, implies_true, and_true, go_sem, Nat.reduceEqDiff, reduceIte, Nat.reduceAdd, Nat.reduceSub, Nat.reduceLT, Nat.reduceMul, reduceCtorEq, Int.reduceToNat, Int.reduceLE, Int.reduceLT, Nat.reduceLeDiff, ren, ren2, ren1]; (try (first | done | rfl | (repeat' apply And.intro) <;> first | rfl | omega))))
      · intro j5 hs
        subst hs
        have hP := hQ4
        clear hQ4
        refine J_condV rfl ?_
        (try simp only [go_sem, Nat.reduceEqDiff, reduceIte, Nat.reduceAdd, Nat.reduceSub, Nat.reduceLT, Nat.reduceMul, reduceCtorEq, Int.reduceToNat, Int.reduceLE, Int.reduceLT, Nat.reduceLeDiff])
        rcases ite_cases hP with ⟨hc, hP⟩ | ⟨hc, hP⟩
        · refine condV_t hc ?_
          refine J_seq ?_
          refine J_region (by kernel_rfl) ?_
          (try simp only [go_sem, Nat.reduceEqDiff, reduceIte, Nat.reduceAdd, Nat.reduceSub, Nat.reduceLT, Nat.reduceMul, reduceCtorEq, Int.reduceToNat, Int.reduceLE, Int.reduceLT, Nat.reduceLeDiff])
          refine hold2 (then_n ?_)
          refine J_ret (then_ret (fin_ret ?_))
          obtain rfl := Option.some.inj hP
          (try simp only [go_sem, Nat.reduceEqDiff, reduceIte, Nat.reduceAdd, Nat.reduceSub, Nat.reduceLT, Nat.reduceMul, reduceCtorEq, Int.reduceToNat, Int.reduceLE, Int.reduceLT, Nat.reduceLeDiff])
          refine fin_of [] (by decide) ?_ ?_ <;> first | rfl | simp only [List.length_set, List.length_replicate, ren, ren2, ren1, renH, renO, go_sem, Nat.reduceEqDiff, reduceIte, Nat.reduceAdd, Nat.reduceSub, Nat.reduceLT, Nat.reduceMul, reduceCtorEq, Int.reduceToNat, Int.reduceLE, Int.reduceLT, Nat.reduceLeDiff]
        · refine condV_f hc ?_
          refine J_skip (then_n ?_)
          refine J_seq ?_
          obtain ⟨o6, hP, hQ6⟩ := bind_cases hP
          refine J_join (fun (s : Bool) => envL [(0, .int .u8 (b2i c1)), (27, .bool s)]) (fun (s : Bool) => []) (fun s => s = o6) ?_ ?_
          · clear hQ6
            refine J_region (by kernel_rfl) ?_
            (try simp only [go_sem, Nat.reduceEqDiff, reduceIte, Nat.reduceAdd, Nat.reduceSub, Nat.reduceLT, Nat.reduceMul, reduceCtorEq, Int.reduceToNat, Int.reduceLE, Int.reduceLT, Nat.reduceLeDiff])
            rcases ite_cases hP with ⟨hc, hP⟩ | ⟨hc, hP⟩
            · refine guard_is hc ?_
              (try simp only [go_sem, Nat.reduceEqDiff, reduceIte, Nat.reduceAdd, Nat.reduceSub, Nat.reduceLT, Nat.reduceMul, reduceCtorEq, Int.reduceToNat, Int.reduceLE, Int.reduceLT, Nat.reduceLeDiff])
              refine hold2 ?_
              exact join_n (decide (b2i c1 ≤ b2i (bC 70))) (Option.some.inj hP) (Sub.of _ _ [] (by decide) (by first | rfl | (simp only [List.length_set, List.length_replicate]; rfl)) (by simp only [List.length_set, List.length_replicate, List.forall_mem_cons, List.not_mem_nil, false_implies, implies_true, and_true, go_sem, Nat.reduceEqDiff, reduceIte, Nat.reduceAdd, Nat.reduceSub, Nat.reduceLT, Nat.reduceMul, reduceCtorEq, Int.reduceToNat, Int.reduceLE, Int.reduceLT, Nat.reduceLeDiff, ren, ren2, ren1]; (try (first | done | rfl | (repeat' apply And.intro) <;> first | rfl | omega))))
            · refine guard_not hc ?_
              (try simp only [go_sem, Nat.reduceEqDiff, reduceIte, Nat.reduceAdd, Nat.reduceSub, Nat.reduceLT, Nat.reduceMul, reduceCtorEq, Int.reduceToNat, Int.reduceLE, Int.reduceLT, Nat.reduceLeDiff])
              refine hold2 ?_
              exact join_n false (Option.some.inj hP) (Sub.of _ _ [] (by decide) (by first | rfl | (simp only [List.length_set, List.length_replicate]; rfl)) (by simp only [List.length_set, List.length_replicate, List.forall_mem_cons, List.not_mem_nil, false_implies, implies_true, and_true, go_sem, Nat.reduceEqDiff, reduceIte, Nat.reduceAdd, Nat.reduceSub, Nat.reduceLT, Nat.reduceMul, reduceCtorEq, Int.reduceToNat, Int.reduceLE, Int.reduceLT, Nat.reduceLeDiff, ren, ren2, ren1]; (try (first | done | rfl | (repeat' apply And.intro) <;> first | rfl | omega))))
          · intro j7 hs
            subst hs
            have hP := hQ6
            clear hQ6
            refine J_condV rfl ?_
            (try simp only [go_sem, Nat.reduceEqDiff, reduceIte, Nat.reduceAdd, Nat.reduceSub, Nat.reduceLT, Nat.reduceMul, reduceCtorEq, Int.reduceToNat, Int.reduceLE, Int.reduceLT, Nat.reduceLeDiff])
            rcases ite_cases hP with ⟨hc, hP⟩ | ⟨hc, hP⟩
            · refine condV_t hc ?_
              refine J_seq ?_
              refine J_region (by kernel_rfl) ?_
              (try simp only [go_sem, Nat.reduceEqDiff, reduceIte, Nat.reduceAdd, Nat.reduceSub, Nat.reduceLT, Nat.reduceMul, reduceCtorEq, Int.reduceToNat, Int.reduceLE, Int.reduceLT, Nat.reduceLeDiff])
              refine hold2 (then_n ?_)
              refine J_ret (then_ret (fin_ret ?_))
              obtain rfl := Option.some.inj hP
              (try simp only [go_sem, Nat.reduceEqDiff, reduceIte, Nat.reduceAdd, Nat.reduceSub, Nat.reduceLT, Nat.reduceMul, reduceCtorEq, Int.reduceToNat, Int.reduceLE, Int.reduceLT, Nat.reduceLeDiff])
              refine fin_of [] (by decide) ?_ ?_ <;> first | rfl | simp only [List.length_set, List.length_replicate, ren, ren2, ren1, renH, renO, go_sem, Nat.reduceEqDiff, reduceIte, Nat.reduceAdd, Nat.reduceSub, Nat.reduceLT, Nat.reduceMul, reduceCtorEq, Int.reduceToNat, Int.reduceLE, Int.reduceLT, Nat.reduceLeDiff]
            · refine condV_f hc ?_
              refine J_skip (then_n ?_)
              refine J_seq ?_
              refine J_region (by kernel_rfl) ?_
              (try simp only [go_sem, Nat.reduceEqDiff, reduceIte, Nat.reduceAdd, Nat.reduceSub, Nat.reduceLT, Nat.reduceMul, reduceCtorEq, Int.reduceToNat, Int.reduceLE, Int.reduceLT, Nat.reduceLeDiff])
              refine hold2 (then_n ?_)
              refine J_ret (fin_ret ?_)
              obtain rfl := Option.some.inj hP
              (try simp only [go_sem, Nat.reduceEqDiff, reduceIte, Nat.reduceAdd, Nat.reduceSub, Nat.reduceLT, Nat.reduceMul, reduceCtorEq, Int.reduceToNat, Int.reduceLE, Int.reduceLT, Nat.reduceLeDiff])
              refine fin_of [] (by decide) ?_ ?_ <;> first | rfl | simp only [List.length_set, List.length_replicate, ren, ren2, ren1, renH, renO, go_sem, Nat.reduceEqDiff, reduceIte, Nat.reduceAdd, Nat.reduceSub, Nat.reduceLT, Nat.reduceMul, reduceCtorEq, Int.reduceToNat, Int.reduceLE, Int.reduceLT, Nat.reduceLeDiff]
/-- colander/colanderref02.number -/
def ref02_number_L9 (s1 : List UInt8) (base2 : Int) : Nat → Int → Option (Sum (Int × Int) (Unit))
  | 0, _ => none
  | k7 + 1, i6 =>
    if decide (i6 < (List.length s1 : Int)) then
      (ixL s1 i6).bind fun c10 =>
      (ref02_digit c10).bind fun r11 =>
      if decide (base2 ≤ r11) then
        some (Sum.inl (0, 2))
      else
        ref02_number_L9 s1 base2 k7 (iadd .i64 i6 1)
    else
      some (Sum.inr ())
def ref02_number_L24 (s1 : List UInt8) (base2 : Int) : Nat → Int → Int → Option (Sum (Int × Int) (Int))
  | 0, _, _ => none
  | k21 + 1, n19, i20 =>
    if decide (i20 < (List.length s1 : Int)) then
      (ixL s1 i20).bind fun c25 =>
      (ref02_digit c25).bind fun r26 =>
      (chk (decide (base2 ≠ 0))).bind fun _ =>
      if decide (iquo .i64 (isub .i64 9223372036854775807 r26) base2 < n19) then
        some (Sum.inl (0, 3))
      else
        ref02_number_L24 s1 base2 k21 (iadd .i64 (imul .i64 n19 base2) r26) (iadd .i64 i20 1)
    else
      some (Sum.inr n19)
def ref02_number (s1 : List UInt8) (base2 : Int) : Option (Int × Int) :=
  if decide (s1 = []) then
    some (0, 2)
  else
    (ref02_number_L9 s1 base2 140737488355328 0).bind fun o12 => match o12 with
    | Sum.inl r => some r
    | Sum.inr j13 =>
      (ref02_number_L24 s1 base2 140737488355328 0 0).bind fun o28 => match o28 with
      | Sum.inl r => some r
      | Sum.inr j29 =>
        some (j29, 0)
set_option maxRecDepth 100000 in
set_option maxHeartbeats 40000000 in
theorem ref02_number_ok {s1 : List UInt8} {base2 : Int} {r : Int × Int} (hP : ref02_number s1 base2 = some r) : CallOK Tryd.prog 38 [.str s1, .int .i64 base2] (.tup [.int .i64 r.1, .int .i64 r.2]) [] := by
  unfold ref02_number at hP
  refine callOK_of (n := 46) (rs := [.tmp 4, .tmp 5]) Tryd.func38 rfl (by decide) rfl rfl (by simp) rfl (by first | rfl | simp [AV.vf, AV.vfL]) (by first | (intro o ho; simp at ho; done) | (simp [vfO, AV.vf, AV.vfL, encB, encI, encS, encO, enc_api_Field, enc_api_Body]; done) | (simp [vfO, AV.vf, AV.vfL, encB, encI, encS, encO, enc_api_Field, enc_api_Body]; intros; subst_vars; simp [AV.vf, AV.vfL])) ?_
  refine J_seq ?_
  refine J_region (by kernel_rfl) ?_
  (try simp only [go_sem, Nat.reduceEqDiff, reduceIte, Nat.reduceAdd, Nat.reduceSub, Nat.reduceLT, Nat.reduceMul, reduceCtorEq, Int.reduceToNat, Int.reduceLE, Int.reduceLT, Nat.reduceLeDiff])
  refine hold2 (then_n ?_)
  refine J_seq ?_
  refine J_seq ?_
  refine J_region (by kernel_rfl) ?_
  (try simp only [go_sem, Nat.reduceEqDiff, reduceIte, Nat.reduceAdd, Nat.reduceSub, Nat.reduceLT, Nat.reduceMul, reduceCtorEq, Int.reduceToNat, Int.reduceLE, Int.reduceLT, Nat.reduceLeDiff])
  refine hold2 (then_n ?_)
  refine J_condV rfl ?_
  (try simp only [go_sem, Nat.reduceEqDiff, reduceIte, Nat.reduceAdd, Nat.reduceSub, Nat.reduceLT, Nat.reduceMul, reduceCtorEq, Int.reduceToNat, Int.reduceLE, Int.reduceLT, Nat.reduceLeDiff])
  rcases ite_cases hP with ⟨hc, hP⟩ | ⟨hc, hP⟩
  · refine condV_t hc ?_
    refine J_seq ?_
    refine J_region (by kernel_rfl) ?_
    (try simp only [go_sem, Nat.reduceEqDiff, reduceIte, Nat.reduceAdd, Nat.reduceSub, Nat.reduceLT, Nat.reduceMul, reduceCtorEq, Int.reduceToNat, Int.reduceLE, Int.reduceLT, Nat.reduceLeDiff])
    refine hold2 (then_n ?_)
    refine J_ret (then_ret (fin_ret ?_))
    obtain rfl := Option.some.inj hP
    (try simp only [go_sem, Nat.reduceEqDiff, reduceIte, Nat.reduceAdd, Nat.reduceSub, Nat.reduceLT, Nat.reduceMul, reduceCtorEq, Int.reduceToNat, Int.reduceLE, Int.reduceLT, Nat.reduceLeDiff])
    refine fin_of [] (by decide) ?_ ?_ <;> first | rfl | simp only [List.length_set, List.length_replicate, ren, ren2, ren1, renH, renO, go_sem, Nat.reduceEqDiff, reduceIte, Nat.reduceAdd, Nat.reduceSub, Nat.reduceLT, Nat.reduceMul, reduceCtorEq, Int.reduceToNat, Int.reduceLE, Int.reduceLT, Nat.reduceLeDiff]
  · refine condV_f hc ?_
    refine J_skip (then_n ?_)
    refine J_seq ?_
    refine J_seq ?_
    refine J_region (by kernel_rfl) ?_
    (try simp only [go_sem, Nat.reduceEqDiff, reduceIte, Nat.reduceAdd, Nat.reduceSub, Nat.reduceLT, Nat.reduceMul, reduceCtorEq, Int.reduceToNat, Int.reduceLE, Int.reduceLT, Nat.reduceLeDiff])
    refine hold2 (then_n ?_)
    obtain ⟨o12, hP, hQ9⟩ := bind_cases hP
    refine J_joinK (fun (s : Unit) => envL [(0, .str s1), (1, .int .i64 base2)]) (fun (s : Unit) => []) (fun s => Sum.inr s = o12) (by repeat (first | exact subC_then | refine subC_block ?_)) ?_ ?_
    · refine J_block ?_
      refine J_loop (σ := Nat × Int) (fun (s : Nat × Int) => envL [(0, .str s1), (1, .int .i64 base2), (6, .int .i64 s.2)]) (fun (s : Nat × Int) => []) (fun s => ref02_number_L9 s1 base2 s.1 s.2 = some o12) (fun s => s.1) (140737488355328, 0) hP (Sub.of _ _ [] (by decide) (by first | rfl | (simp only [List.length_set, List.length_replicate]; rfl)) (by simp only [List.length_set, List.length_replicate, List.forall_mem_cons, List.not_mem_nil, false_implies, implies_true, and_true, go_sem, Nat.reduceEqDiff, reduceIte, Nat.reduceAdd, Nat.reduceSub, Nat.reduceLT, Nat.reduceMul, reduceCtorEq, Int.reduceToNat, Int.reduceLE, Int.reduceLT, Nat.reduceLeDiff, ren, ren2, ren1]; (try (first | done | rfl | (repeat' apply And.intro) <;> first | rfl | omega)))) ?_
      rintro ⟨k7, i6⟩ hP
      dsimp only at hP ⊢
      cases k7 with
      | zero => simp [ref02_number_L9] at hP
      | succ k7 =>
        simp only [ref02_number_L9] at hP
        refine J_seq ?_
        refine J_seq ?_
        refine J_region (by kernel_rfl) ?_
        (try simp only [go_sem, Nat.reduceEqDiff, reduceIte, Nat.reduceAdd, Nat.reduceSub, Nat.reduceLT, Nat.reduceMul, reduceCtorEq, Int.reduceToNat, Int.reduceLE, Int.reduceLT, Nat.reduceLeDiff])
        refine hold2 (then_n ?_)
        refine J_condV rfl ?_
        (try simp only [go_sem, Nat.reduceEqDiff, reduceIte, Nat.reduceAdd, Nat.reduceSub, Nat.reduceLT, Nat.reduceMul, reduceCtorEq, Int.reduceToNat, Int.reduceLE, Int.reduceLT, Nat.reduceLeDiff])
        rcases ite_cases hP with ⟨hc, hP⟩ | ⟨hc, hP⟩
        · refine condV_t hc ?_
          refine J_skip (then_n ?_)
          refine J_seq ?_
          refine J_block ?_
          refine J_seq ?_
          refine J_region (by kernel_rfl) ?_
          (try simp only [go_sem, Nat.reduceEqDiff, reduceIte, Nat.reduceAdd, Nat.reduceSub, Nat.reduceLT, Nat.reduceMul, reduceCtorEq, Int.reduceToNat, Int.reduceLE, Int.reduceLT, Nat.reduceLeDiff])
          obtain ⟨c10, hc10, hP⟩ := bind_cases hP
          refine ixS_of hc10 ?_
          (try simp only [go_sem, Nat.reduceEqDiff, reduceIte, Nat.reduceAdd, Nat.reduceSub, Nat.reduceLT, Nat.reduceMul, reduceCtorEq, Int.reduceToNat, Int.reduceLE, Int.reduceLT, Nat.reduceLeDiff])
          obtain ⟨r11, hr11, hP⟩ := bind_cases hP
          refine call_ok [.int .u8 (b2i c10)] (ref02_digit_ok hr11) ⟨argR_m false rfl, trivial⟩ ?_
          (try simp only [go_sem, Nat.reduceEqDiff, reduceIte, Nat.reduceAdd, Nat.reduceSub, Nat.reduceLT, Nat.reduceMul, reduceCtorEq, Int.reduceToNat, Int.reduceLE, Int.reduceLT, Nat.reduceLeDiff])
          refine hold2 (then_n ?_)
          refine J_condV rfl ?_
          (try simp only [go_sem, Nat.reduceEqDiff, reduceIte, Nat.reduceAdd, Nat.reduceSub, Nat.reduceLT, Nat.reduceMul, reduceCtorEq, Int.reduceToNat, Int.reduceLE, Int.reduceLT, Nat.reduceLeDiff])
          rcases ite_cases hP with ⟨hc, hP⟩ | ⟨hc, hP⟩
          · refine condV_t hc ?_
            refine J_seq ?_
            refine J_region (by kernel_rfl) ?_
            (try simp only [go_sem, Nat.reduceEqDiff, reduceIte, Nat.reduceAdd, Nat.reduceSub, Nat.reduceLT, Nat.reduceMul, reduceCtorEq, Int.reduceToNat, Int.reduceLE, Int.reduceLT, Nat.reduceLeDiff])
            refine hold2 (then_n ?_)
            refine J_ret (block_ret (then_ret (loop_ret (block_ret (join_ret (then_ret (fin_ret ?_)))))))
            obtain rfl := Option.some.inj hP
            have hP := hQ9
            dsimp only at hP
            obtain rfl := Option.some.inj hP
            (try simp only [go_sem, Nat.reduceEqDiff, reduceIte, Nat.reduceAdd, Nat.reduceSub, Nat.reduceLT, Nat.reduceMul, reduceCtorEq, Int.reduceToNat, Int.reduceLE, Int.reduceLT, Nat.reduceLeDiff])
            refine fin_of [] (by decide) ?_ ?_ <;> first | rfl | simp only [List.length_set, List.length_replicate, ren, ren2, ren1, renH, renO, go_sem, Nat.reduceEqDiff, reduceIte, Nat.reduceAdd, Nat.reduceSub, Nat.reduceLT, Nat.reduceMul, reduceCtorEq, Int.reduceToNat, Int.reduceLE, Int.reduceLT, Nat.reduceLeDiff]
          · refine condV_f hc ?_
            refine J_skip (block_n (then_n ?_))
            refine J_region (by kernel_rfl) ?_
            (try simp only [go_sem, Nat.reduceEqDiff, reduceIte, Nat.reduceAdd, Nat.reduceSub, Nat.reduceLT, Nat.reduceMul, reduceCtorEq, Int.reduceToNat, Int.reduceLE, Int.reduceLT, Nat.reduceLeDiff])
            refine hold2 ?_
            exact loop_n (k7, iadd .i64 i6 1) hP (Nat.lt_succ_self _) (Sub.of _ _ [] (by decide) (by first | rfl | (simp only [List.length_set, List.length_replicate]; rfl)) (by simp only [List.length_set, List.length_replicate, List.forall_mem_cons, List.not_mem_nil, false_implies, implies_true, and_true, go_sem, Nat.reduceEqDiff, reduceIte, Nat.reduceAdd, Nat.reduceSub, Nat.reduceLT, Nat.reduceMul, reduceCtorEq, Int.reduceToNat, Int.reduceLE, Int.reduceLT, Nat.reduceLeDiff, ren, ren2, ren1]; (try (first | done | rfl | (repeat' apply And.intro) <;> first | rfl | omega))))
        · refine condV_f hc ?_
          refine J_exit (then_exit (loop_exit (block_eq ?_)))
          exact join_n () (Option.some.inj hP) (Sub.of _ _ [] (by decide) (by first | rfl | (simp only [List.length_set, List.length_replicate]; rfl)) (by simp only [List.length_set, List.length_replicate, List.forall_mem_cons, List.not_mem_nil, false_implies, implies_true, and_true, go_sem, Nat.reduceEqDiff, reduceIte, Nat.reduceAdd, Nat.reduceSub, Nat.reduceLT, Nat.reduceMul, reduceCtorEq, Int.reduceToNat, Int.reduceLE, Int.reduceLT, Nat.reduceLeDiff, ren, ren2, ren1]; (try (first | done | rfl | (repeat' apply And.intro) <;> first | rfl | omega))))
    · intro j13 hs
      subst hs
      have hP := hQ9
      dsimp only at hP
      clear hQ9
      refine then_n ?_
      refine J_seq ?_
      refine J_region (by kernel_rfl) ?_
      (try simp only [go_sem, Nat.reduceEqDiff, reduceIte, Nat.reduceAdd, Nat.reduceSub, Nat.reduceLT, Nat.reduceMul, reduceCtorEq, Int.reduceToNat, Int.reduceLE, Int.reduceLT, Nat.reduceLeDiff])
      refine hold2 (then_n ?_)
      refine J_seq ?_
      refine J_seq ?_
      refine J_region (by kernel_rfl) ?_
      (try simp only [go_sem, Nat.reduceEqDiff, reduceIte, Nat.reduceAdd, Nat.reduceSub, Nat.reduceLT, Nat.reduceMul, reduceCtorEq, Int.reduceToNat, Int.reduceLE, Int.reduceLT, Nat.reduceLeDiff])
      refine hold2 (then_n ?_)
      obtain ⟨o28, hP, hQ24⟩ := bind_cases hP
      refine J_joinK (fun (s : Int) => envL [(7, .int .i64 s)]) (fun (s : Int) => []) (fun s => Sum.inr s = o28) (by repeat (first | exact subC_then | refine subC_block ?_)) ?_ ?_
      · refine J_block ?_
        refine J_loop (σ := Nat × Int × Int) (fun (s : Nat × Int × Int) => envL [(0, .str s1), (1, .int .i64 base2), (7, .int .i64 s.2.1), (8, .int .i64 s.2.2)]) (fun (s : Nat × Int × Int) => []) (fun s => ref02_number_L24 s1 base2 s.1 s.2.1 s.2.2 = some o28) (fun s => s.1) (140737488355328, 0, 0) hP (Sub.of _ _ [] (by decide) (by first | rfl | (simp only [List.length_set, List.length_replicate]; rfl)) (by simp only [List.length_set, List.length_replicate, List.forall_mem_cons, List.not_mem_nil, false_implies, implies_true, and_true, go_sem, Nat.reduceEqDiff, reduceIte, Nat.reduceAdd, Nat.reduceSub, Nat.reduceLT, Nat.reduceMul, reduceCtorEq, Int.reduceToNat, Int.reduceLE, Int.reduceLT, Nat.reduceLeDiff, ren, ren2, ren1]; (try (first | done | rfl | (repeat' apply And.intro) <;> first | rfl | omega)))) ?_
        rintro ⟨k21, n19, i20⟩ hP
        dsimp only at hP ⊢
        cases k21 with
        | zero => simp [ref02_number_L24] at hP
        | succ k21 =>
          simp only [ref02_number_L24] at hP
          refine J_seq ?_
          refine J_seq ?_
          refine J_region (by kernel_rfl) ?_
          (try simp only [go_sem, Nat.reduceEqDiff, reduceIte, Nat.reduceAdd, Nat.reduceSub, Nat.reduceLT, Nat.reduceMul, reduceCtorEq, Int.reduceToNat, Int.reduceLE, Int.reduceLT, Nat.reduceLeDiff])
          refine hold2 (then_n ?_)
          refine J_condV rfl ?_
          (try simp only [go_sem, Nat.reduceEqDiff, reduceIte, Nat.reduceAdd, Nat.reduceSub, Nat.reduceLT, Nat.reduceMul, reduceCtorEq, Int.reduceToNat, Int.reduceLE, Int.reduceLT, Nat.reduceLeDiff])
          rcases ite_cases hP with ⟨hc, hP⟩ | ⟨hc, hP⟩
          · refine condV_t hc ?_
            refine J_skip (then_n ?_)
            refine J_seq ?_
            refine J_block ?_
            refine J_seq ?_
            refine J_region (by kernel_rfl) ?_
            (try simp only [go_sem, Nat.reduceEqDiff, reduceIte, Nat.reduceAdd, Nat.reduceSub, Nat.reduceLT, Nat.reduceMul, reduceCtorEq, Int.reduceToNat, Int.reduceLE, Int.reduceLT, Nat.reduceLeDiff])
            obtain ⟨c25, hc25, hP⟩ := bind_cases hP
            refine ixS_of hc25 ?_
            (try simp only [go_sem, Nat.reduceEqDiff, reduceIte, Nat.reduceAdd, Nat.reduceSub, Nat.reduceLT, Nat.reduceMul, reduceCtorEq, Int.reduceToNat, Int.reduceLE, Int.reduceLT, Nat.reduceLeDiff])
            obtain ⟨r26, hr26, hP⟩ := bind_cases hP
            refine call_ok [.int .u8 (b2i c25)] (ref02_digit_ok hr26) ⟨argR_m false rfl, trivial⟩ ?_
            (try simp only [go_sem, Nat.reduceEqDiff, reduceIte, Nat.reduceAdd, Nat.reduceSub, Nat.reduceLT, Nat.reduceMul, reduceCtorEq, Int.reduceToNat, Int.reduceLE, Int.reduceLT, Nat.reduceLeDiff])
            refine hold2 (then_n ?_)
            refine J_seq ?_
            refine J_seq ?_
            refine J_region (by kernel_rfl) ?_
            (try simp only [go_sem, Nat.reduceEqDiff, reduceIte, Nat.reduceAdd, Nat.reduceSub, Nat.reduceLT, Nat.reduceMul, reduceCtorEq, Int.reduceToNat, Int.reduceLE, Int.reduceLT, Nat.reduceLeDiff])
            obtain ⟨_, hz27, hP⟩ := bind_cases hP
            refine chk_of (chk_prop hz27) ?_
            (try simp only [go_sem, Nat.reduceEqDiff, reduceIte, Nat.reduceAdd, Nat.reduceSub, Nat.reduceLT, Nat.reduceMul, reduceCtorEq, Int.reduceToNat, Int.reduceLE, Int.reduceLT, Nat.reduceLeDiff])
            refine hold2 (then_n ?_)
            refine J_condV rfl ?_
            (try simp only [go_sem, Nat.reduceEqDiff, reduceIte, Nat.reduceAdd, Nat.reduceSub, Nat.reduceLT, Nat.reduceMul, reduceCtorEq, Int.reduceToNat, Int.reduceLE, Int.reduceLT, Nat.reduceLeDiff])
            rcases ite_cases hP with ⟨hc, hP⟩ | ⟨hc, hP⟩
            · refine condV_t hc ?_
              refine J_seq ?_
              refine J_region (by kernel_rfl) ?_
              (try simp only [go_sem, Nat.reduceEqDiff, reduceIte, Nat.reduceAdd, Nat.reduceSub, Nat.reduceLT, Nat.reduceMul, reduceCtorEq, Int.reduceToNat, Int.reduceLE, Int.reduceLT, Nat.reduceLeDiff])
              refine hold2 (then_n ?_)
              refine J_ret (then_ret (block_ret (then_ret (loop_ret (block_ret (join_ret (then_ret (fin_ret ?_))))))))
              obtain rfl := Option.some.inj hP
              have hP := hQ24
              dsimp only at hP
              obtain rfl := Option.some.inj hP
              (try simp only [go_sem, Nat.reduceEqDiff, reduceIte, Nat.reduceAdd, Nat.reduceSub, Nat.reduceLT, Nat.reduceMul, reduceCtorEq, Int.reduceToNat, Int.reduceLE, Int.reduceLT, Nat.reduceLeDiff])
              refine fin_of [] (by decide) ?_ ?_ <;> first | rfl | simp only [List.length_set, List.length_replicate, ren, ren2, ren1, renH, renO, go_sem, Nat.reduceEqDiff, reduceIte, Nat.reduceAdd, Nat.reduceSub, Nat.reduceLT, Nat.reduceMul, reduceCtorEq, Int.reduceToNat, Int.reduceLE, Int.reduceLT, Nat.reduceLeDiff]
            · refine condV_f hc ?_
              refine J_skip (then_n ?_)
              refine J_region (by kernel_rfl) ?_
              (try simp only [go_sem, Nat.reduceEqDiff, reduceIte, Nat.reduceAdd, Nat.reduceSub, Nat.reduceLT, Nat.reduceMul, reduceCtorEq, Int.reduceToNat, Int.reduceLE, Int.reduceLT, Nat.reduceLeDiff])
              refine hold2 (block_n (then_n ?_))
              refine J_region (by kernel_rfl) ?_
              (try simp only [go_sem, Nat.reduceEqDiff, reduceIte, Nat.reduceAdd, Nat.reduceSub, Nat.reduceLT, Nat.reduceMul, reduceCtorEq, Int.reduceToNat, Int.reduceLE, Int.reduceLT, Nat.reduceLeDiff])
              refine hold2 ?_
              exact loop_n (k21, iadd .i64 (imul .i64 n19 base2) r26, iadd .i64 i20 1) hP (Nat.lt_succ_self _) (Sub.of _ _ [] (by decide) (by first | rfl | (simp only [List.length_set, List.length_replicate]; rfl)) (by simp only [List.length_set, List.length_replicate, List.forall_mem_cons, List.not_mem_nil, false_implies, implies_true, and_true, go_sem, Nat.reduceEqDiff, reduceIte, Nat.reduceAdd, Nat.reduceSub, Nat.reduceLT, Nat.reduceMul, reduceCtorEq, Int.reduceToNat, Int.reduceLE, Int.reduceLT, Nat.reduceLeDiff, ren, ren2, ren1]; (try (first | done | rfl | (repeat' apply And.intro) <;> first | rfl | omega))))
          · refine condV_f hc ?_
            refine J_exit (then_exit (loop_exit (block_eq ?_)))
            exact join_n n19 (Option.some.inj hP) (Sub.of _ _ [] (by decide) (by first | rfl | (simp only [List.length_set, List.length_replicate]; rfl)) (by simp only [List.length_set, List.length_replicate, List.forall_mem_cons, List.not_mem_nil, false_implies, implies_true, and_true, go_sem, Nat.reduceEqDiff, reduceIte, Nat.reduceAdd, Nat.reduceSub, Nat.reduceLT, Nat.reduceMul, reduceCtorEq, Int.reduceToNat, Int.reduceLE, Int.reduceLT, Nat.reduceLeDiff, ren, ren2, ren1]; (try (first | done | rfl | (repeat' apply And.intro) <;> first | rfl | omega))))
      · intro j29 hs
        subst hs
        have hP := hQ24
        dsimp only at hP
        clear hQ24
        refine then_n ?_
        refine J_seq ?_
        refine J_region (by kernel_rfl) ?_
        (try simp only [go_sem, Nat.reduceEqDiff, reduceIte, Nat.reduceAdd, Nat.reduceSub, Nat.reduceLT, Nat.reduceMul, reduceCtorEq, Int.reduceToNat, Int.reduceLE, Int.reduceLT, Nat.reduceLeDiff])
        refine hold2 (then_n ?_)
        refine J_ret (fin_ret ?_)
        obtain rfl := Option.some.inj hP
        (try simp only [go_sem, Nat.reduceEqDiff, reduceIte, Nat.reduceAdd, Nat.reduceSub, Nat.reduceLT, Nat.reduceMul, reduceCtorEq, Int.reduceToNat, Int.reduceLE, Int.reduceLT, Nat.reduceLeDiff])
        refine fin_of [] (by decide) ?_ ?_ <;> first | rfl | simp only [List.length_set, List.length_replicate, ren, ren2, ren1, renH, renO, go_sem, Nat.reduceEqDiff, reduceIte, Nat.reduceAdd, Nat.reduceSub, Nat.reduceLT, Nat.reduceMul, reduceCtorEq, Int.reduceToNat, Int.reduceLE, Int.reduceLT, Nat.reduceLeDiff]
/-- colander/colanderref02.Decimal -/
def ref02_Decimal (s1 : List UInt8) : Option (Int × Int) :=
  (ref02_number s1 10).bind fun r2 =>
  some (r2.1, r2.2)
set_option maxRecDepth 100000 in
set_option maxHeartbeats 40000000 in
theorem ref02_Decimal_ok {s1 : List UInt8} {r : Int × Int} (hP : ref02_Decimal s1 = some r) : CallOK Tryd.prog 30 [.str s1] (.tup [.int .i64 r.1, .int .i64 r.2]) [] := by
  unfold ref02_Decimal at hP
  refine callOK_of (n := 8) (rs := [.tmp 2, .tmp 3]) Tryd.func30 rfl (by decide) rfl rfl (by simp) rfl (by first | rfl | simp [AV.vf, AV.vfL]) (by first | (intro o ho; simp at ho; done) | (simp [vfO, AV.vf, AV.vfL, encB, encI, encS, encO, enc_api_Field, enc_api_Body]; done) | (simp [vfO, AV.vf, AV.vfL, encB, encI, encS, encO, enc_api_Field, enc_api_Body]; intros; subst_vars; simp [AV.vf, AV.vfL])) ?_
  refine J_seq ?_
  refine J_region (by kernel_rfl) ?_
  (try simp only [go_sem, Nat.reduceEqDiff, reduceIte, Nat.reduceAdd, Nat.reduceSub, Nat.reduceLT, Nat.reduceMul, reduceCtorEq, Int.reduceToNat, Int.reduceLE, Int.reduceLT, Nat.reduceLeDiff])
  refine hold2 (then_n ?_)
  refine J_seq ?_
  refine J_region (by kernel_rfl) ?_
  (try simp only [go_sem, Nat.reduceEqDiff, reduceIte, Nat.reduceAdd, Nat.reduceSub, Nat.reduceLT, Nat.reduceMul, reduceCtorEq, Int.reduceToNat, Int.reduceLE, Int.reduceLT, Nat.reduceLeDiff])
  obtain ⟨r2, hr2, hP⟩ := bind_cases hP
  refine call_ok [.str s1, .int .i64 10] (ref02_number_ok hr2) ⟨argR_m false rfl, argR_m false rfl, trivial⟩ ?_
  (try simp only [go_sem, Nat.reduceEqDiff, reduceIte, Nat.reduceAdd, Nat.reduceSub, Nat.reduceLT, Nat.reduceMul, reduceCtorEq, Int.reduceToNat, Int.reduceLE, Int.reduceLT, Nat.reduceLeDiff])
  refine hold2 (then_n ?_)
  refine J_ret (fin_ret ?_)
  obtain rfl := Option.some.inj hP
  (try simp only [go_sem, Nat.reduceEqDiff, reduceIte, Nat.reduceAdd, Nat.reduceSub, Nat.reduceLT, Nat.reduceMul, reduceCtorEq, Int.reduceToNat, Int.reduceLE, Int.reduceLT, Nat.reduceLeDiff])
  refine fin_of [] (by decide) ?_ ?_ <;> first | rfl | simp only [List.length_set, List.length_replicate, ren, ren2, ren1, renH, renO, go_sem, Nat.reduceEqDiff, reduceIte, Nat.reduceAdd, Nat.reduceSub, Nat.reduceLT, Nat.reduceMul, reduceCtorEq, Int.reduceToNat, Int.reduceLE, Int.reduceLT, Nat.reduceLeDiff]
end Go.Proofs.YtcikflhenbpdiaaDoor
