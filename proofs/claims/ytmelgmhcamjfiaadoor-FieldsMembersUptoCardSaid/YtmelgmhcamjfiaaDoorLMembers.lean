/- Functions of the program, and pure ones that go the same ways: that the program's return what these compute. -/
import Derived.Test.YtmelgmhcamjfiaaDoorGE
namespace Go.Proofs.YtmelgmhcamjfiaaDoor
open Go.Av
set_option linter.unusedVariables false
set_option linter.unusedSimpArgs false
/-- colander/colanderlaw04.FieldsMembers -/
def law04_FieldsMembers_L26 (r9 : (List (List UInt8))) : Nat → (List UInt8) → Int → Option ((List UInt8))
  | 0, _, _ => none
  | k20 + 1, t18, i19 =>
    if decide (i19 < ((List.length r9 : Nat) : Int)) then
      (show Option ((List UInt8)) from
        if decide (0 < i19) then
          (szC (List.length (t18 ++ [44]))).bind fun _ =>
          some (t18 ++ [44])
        else
          some t18).bind fun j30 =>
        (ixL r9 i19).bind fun x31 =>
        (szC (List.length (j30 ++ x31))).bind fun _ =>
        law04_FieldsMembers_L26 r9 k20 (j30 ++ x31) (iadd .i64 i19 1)
    else
      some t18
def law04_FieldsMembers (l1 : List ((List UInt8) × (List UInt8))) (name2 : List UInt8) : Option (Bool) :=
  (law04_shown).bind fun r3 =>
  (fields_Members l1 name2).bind fun r4 =>
  (ref04_Members l1 name2).bind fun r5 =>
  (ref03_SameList r4.1 r5.1).bind fun r6 =>
  (show Option (Bool) from
    if !r3 then
      some true
    else
      if !decide (r4.2 = r5.2) then
        some true
      else
        some (!r6)).bind fun j8 =>
    if j8 then
      some false
    else
      if !decide (r4.2 = 0) then
        some true
      else
        (fields_All l1 name2).bind fun r9 =>
        (law04_FieldsMembers_L26 r9 1099511627776 [] 0).bind fun j34 =>
          (lex_List j34).bind fun r35 =>
          (ref03_SameList r35.1 r4.1).bind fun r36 =>
          if decide (r35.2 = 0) then
            some r36
          else
            some false
set_option maxRecDepth 100000 in
set_option maxHeartbeats 4000000 in
theorem law04_FieldsMembers_ok {l1 : List ((List UInt8) × (List UInt8))} {name2 : List UInt8} {r : Bool} (hP : law04_FieldsMembers l1 name2 = some r) : CallOK Tryd.prog 5 [.view 2 (List.map enc_api_Field l1), .str name2] (.bool r) [] := by
  unfold law04_FieldsMembers at hP
  refine callOK_of (n := 76) (rs := [.tmp 4]) Tryd.func5 rfl (by decide) rfl rfl (by simp) rfl (by first | rfl | simp [AV.vf, AV.vfL]) (by first | (intro o ho; simp at ho; done) | (simp [vfO, AV.vf, AV.vfL, encB, encI, encS, encO, enc_api_Field]; done) | (simp [vfO, AV.vf, AV.vfL, encB, encI, encS, encO, enc_api_Field]; intros; subst_vars; simp [AV.vf, AV.vfL])) ?_
  refine J_seq ?_
  refine J_region (by kernel_rfl) ?_
  (try simp only [go_sem, Nat.reduceEqDiff, reduceIte, Nat.reduceAdd, Nat.reduceSub, Nat.reduceLT, Nat.reduceMul, reduceCtorEq, Int.reduceToNat, Int.reduceLE, Int.reduceLT, Nat.reduceLeDiff])
  refine hold2 (then_n ?_)
  refine J_seq ?_
  refine J_region (by kernel_rfl) ?_
  (try simp only [go_sem, Nat.reduceEqDiff, reduceIte, Nat.reduceAdd, Nat.reduceSub, Nat.reduceLT, Nat.reduceMul, reduceCtorEq, Int.reduceToNat, Int.reduceLE, Int.reduceLT, Nat.reduceLeDiff])
  obtain ⟨r3, hr3, hP⟩ := bind_cases hP
  refine call_ok [] (law04_shown_ok hr3) trivial ?_
  (try simp only [go_sem, Nat.reduceEqDiff, reduceIte, Nat.reduceAdd, Nat.reduceSub, Nat.reduceLT, Nat.reduceMul, reduceCtorEq, Int.reduceToNat, Int.reduceLE, Int.reduceLT, Nat.reduceLeDiff])
  refine hold2 (then_n ?_)
  refine J_seq ?_
  refine J_region (by kernel_rfl) ?_
  (try simp only [go_sem, Nat.reduceEqDiff, reduceIte, Nat.reduceAdd, Nat.reduceSub, Nat.reduceLT, Nat.reduceMul, reduceCtorEq, Int.reduceToNat, Int.reduceLE, Int.reduceLT, Nat.reduceLeDiff])
  obtain ⟨r4, hr4, hP⟩ := bind_cases hP
  refine call_ok [.view 2 (List.map enc_api_Field l1), .str name2] (fields_Members_ok hr4) ⟨argR_m false rfl, argR_m false rfl, trivial⟩ ?_
  (try simp only [go_sem, Nat.reduceEqDiff, reduceIte, Nat.reduceAdd, Nat.reduceSub, Nat.reduceLT, Nat.reduceMul, reduceCtorEq, Int.reduceToNat, Int.reduceLE, Int.reduceLT, Nat.reduceLeDiff])
  refine hold2 (then_n ?_)
  refine J_seq ?_
  refine J_region (by kernel_rfl) ?_
  (try simp only [go_sem, Nat.reduceEqDiff, reduceIte, Nat.reduceAdd, Nat.reduceSub, Nat.reduceLT, Nat.reduceMul, reduceCtorEq, Int.reduceToNat, Int.reduceLE, Int.reduceLT, Nat.reduceLeDiff])
  obtain ⟨r5, hr5, hP⟩ := bind_cases hP
  refine call_ok [.view 2 (List.map enc_api_Field l1), .str name2] (ref04_Members_ok hr5) ⟨argR_m false rfl, argR_m false rfl, trivial⟩ ?_
  (try simp only [go_sem, Nat.reduceEqDiff, reduceIte, Nat.reduceAdd, Nat.reduceSub, Nat.reduceLT, Nat.reduceMul, reduceCtorEq, Int.reduceToNat, Int.reduceLE, Int.reduceLT, Nat.reduceLeDiff])
  refine hold2 (then_n ?_)
  refine J_seq ?_
  refine J_region (by kernel_rfl) ?_
  (try simp only [go_sem, Nat.reduceEqDiff, reduceIte, Nat.reduceAdd, Nat.reduceSub, Nat.reduceLT, Nat.reduceMul, reduceCtorEq, Int.reduceToNat, Int.reduceLE, Int.reduceLT, Nat.reduceLeDiff])
  obtain ⟨r6, hr6, hP⟩ := bind_cases hP
  refine call_ok [.view 1 (List.map encS r4.1), .view 1 (List.map encS r5.1)] (ref03_SameList_ok hr6) ⟨argR_m false (by simp only [arg, go_sem, Nat.reduceEqDiff, reduceIte, Nat.reduceAdd, Nat.reduceSub, Nat.reduceLT, Nat.reduceMul, reduceCtorEq, Int.reduceToNat, Int.reduceLE, Int.reduceLT, Nat.reduceLeDiff]), argR_m false (by simp only [arg, go_sem, Nat.reduceEqDiff, reduceIte, Nat.reduceAdd, Nat.reduceSub, Nat.reduceLT, Nat.reduceMul, reduceCtorEq, Int.reduceToNat, Int.reduceLE, Int.reduceLT, Nat.reduceLeDiff]), trivial⟩ ?_
  (try simp only [go_sem, Nat.reduceEqDiff, reduceIte, Nat.reduceAdd, Nat.reduceSub, Nat.reduceLT, Nat.reduceMul, reduceCtorEq, Int.reduceToNat, Int.reduceLE, Int.reduceLT, Nat.reduceLeDiff])
  refine hold2 (then_n ?_)
  refine J_seq ?_
  obtain ⟨o7, hP, hQ7⟩ := bind_cases hP
  refine J_join (fun (s : Bool) => envL [(0, .view 2 (List.map enc_api_Field l1)), (1, .str name2), (6, .own 0 0 0 (List.length r4.1)), (7, .int .i64 r4.2), (41, .bool s)]) (fun (s : Bool) => [.slice 0 9 1 (List.map encS r4.1)]) (fun s => s = o7) ?_ ?_
  · clear hQ7
    refine J_region (by kernel_rfl) ?_
    (try simp only [go_sem, Nat.reduceEqDiff, reduceIte, Nat.reduceAdd, Nat.reduceSub, Nat.reduceLT, Nat.reduceMul, reduceCtorEq, Int.reduceToNat, Int.reduceLE, Int.reduceLT, Nat.reduceLeDiff])
    rcases ite_cases hP with ⟨hc, hP⟩ | ⟨hc, hP⟩
    · refine guard_not hc ?_
      (try simp only [go_sem, Nat.reduceEqDiff, reduceIte, Nat.reduceAdd, Nat.reduceSub, Nat.reduceLT, Nat.reduceMul, reduceCtorEq, Int.reduceToNat, Int.reduceLE, Int.reduceLT, Nat.reduceLeDiff])
      refine hold2 ?_
      exact join_n true (Option.some.inj hP) (Sub.of _ _ [0] (by decide) (by first | rfl | (simp only [List.length_set, List.length_replicate]; rfl)) (by simp only [List.length_set, List.length_replicate, List.forall_mem_cons, List.not_mem_nil, false_implies, implies_true, and_true, go_sem, Nat.reduceEqDiff, reduceIte, Nat.reduceAdd, Nat.reduceSub, Nat.reduceLT, Nat.reduceMul, reduceCtorEq, Int.reduceToNat, Int.reduceLE, Int.reduceLT, Nat.reduceLeDiff, ren, ren2, ren1]; (try (first | done | rfl | (repeat' apply And.intro) <;> first | rfl | omega))))
    · refine guard_is hc ?_
      (try simp only [go_sem, Nat.reduceEqDiff, reduceIte, Nat.reduceAdd, Nat.reduceSub, Nat.reduceLT, Nat.reduceMul, reduceCtorEq, Int.reduceToNat, Int.reduceLE, Int.reduceLT, Nat.reduceLeDiff])
      rcases ite_cases hP with ⟨hc, hP⟩ | ⟨hc, hP⟩
      · refine guard_not hc ?_
        (try simp only [go_sem, Nat.reduceEqDiff, reduceIte, Nat.reduceAdd, Nat.reduceSub, Nat.reduceLT, Nat.reduceMul, reduceCtorEq, Int.reduceToNat, Int.reduceLE, Int.reduceLT, Nat.reduceLeDiff])
        refine hold2 ?_
        exact join_n true (Option.some.inj hP) (Sub.of _ _ [0] (by decide) (by first | rfl | (simp only [List.length_set, List.length_replicate]; rfl)) (by simp only [List.length_set, List.length_replicate, List.forall_mem_cons, List.not_mem_nil, false_implies, implies_true, and_true, go_sem, Nat.reduceEqDiff, reduceIte, Nat.reduceAdd, Nat.reduceSub, Nat.reduceLT, Nat.reduceMul, reduceCtorEq, Int.reduceToNat, Int.reduceLE, Int.reduceLT, Nat.reduceLeDiff, ren, ren2, ren1]; (try (first | done | rfl | (repeat' apply And.intro) <;> first | rfl | omega))))
      · refine guard_is hc ?_
        (try simp only [go_sem, Nat.reduceEqDiff, reduceIte, Nat.reduceAdd, Nat.reduceSub, Nat.reduceLT, Nat.reduceMul, reduceCtorEq, Int.reduceToNat, Int.reduceLE, Int.reduceLT, Nat.reduceLeDiff])
        refine hold2 ?_
        exact join_n (!r6) (Option.some.inj hP) (Sub.of _ _ [0] (by decide) (by first | rfl | (simp only [List.length_set, List.length_replicate]; rfl)) (by simp only [List.length_set, List.length_replicate, List.forall_mem_cons, List.not_mem_nil, false_implies, implies_true, and_true, go_sem, Nat.reduceEqDiff, reduceIte, Nat.reduceAdd, Nat.reduceSub, Nat.reduceLT, Nat.reduceMul, reduceCtorEq, Int.reduceToNat, Int.reduceLE, Int.reduceLT, Nat.reduceLeDiff, ren, ren2, ren1]; (try (first | done | rfl | (repeat' apply And.intro) <;> first | rfl | omega))))
  · intro j8 hs
    subst hs
    have hP := hQ7
    clear hQ7
    refine J_condV rfl ?_
    (try simp only [go_sem, Nat.reduceEqDiff, reduceIte, Nat.reduceAdd, Nat.reduceSub, Nat.reduceLT, Nat.reduceMul, reduceCtorEq, Int.reduceToNat, Int.reduceLE, Int.reduceLT, Nat.reduceLeDiff])
    rcases ite_cases hP with ⟨hc, hP⟩ | ⟨hc, hP⟩
    · refine condV_t hc ?_
      refine J_seq ?_
      refine J_region (by kernel_rfl) ?_
      (try simp only [go_sem, Nat.reduceEqDiff, reduceIte, Nat.reduceAdd, Nat.reduceSub, Nat.reduceLT, Nat.reduceMul, reduceCtorEq, Int.reduceToNat, Int.reduceLE, Int.reduceLT, Nat.reduceLeDiff])
      refine hold2 (then_n ?_)
      refine J_ret (then_ret (fin_ret ?_))
      obtain rfl := Option.some.inj hP
      (try simp only [go_sem, Nat.reduceEqDiff, reduceIte, Nat.reduceAdd, Nat.reduceSub, Nat.reduceLT, Nat.reduceMul, reduceCtorEq, Int.reduceToNat, Int.reduceLE, Int.reduceLT, Nat.reduceLeDiff])
      refine fin_of [] (by decide) ?_ ?_ <;> first | rfl | simp only [List.length_set, List.length_replicate, ren, ren2, ren1, renH, renO, go_sem, Nat.reduceEqDiff, reduceIte, Nat.reduceAdd, Nat.reduceSub, Nat.reduceLT, Nat.reduceMul, reduceCtorEq, Int.reduceToNat, Int.reduceLE, Int.reduceLT, Nat.reduceLeDiff]
    · refine condV_f hc ?_
      refine J_skip (then_n ?_)
      refine J_seq ?_
      refine J_seq ?_
      refine J_region (by kernel_rfl) ?_
      (try simp only [go_sem, Nat.reduceEqDiff, reduceIte, Nat.reduceAdd, Nat.reduceSub, Nat.reduceLT, Nat.reduceMul, reduceCtorEq, Int.reduceToNat, Int.reduceLE, Int.reduceLT, Nat.reduceLeDiff])
      refine hold2 (then_n ?_)
      refine J_condV rfl ?_
      (try simp only [go_sem, Nat.reduceEqDiff, reduceIte, Nat.reduceAdd, Nat.reduceSub, Nat.reduceLT, Nat.reduceMul, reduceCtorEq, Int.reduceToNat, Int.reduceLE, Int.reduceLT, Nat.reduceLeDiff])
      rcases ite_cases hP with ⟨hc, hP⟩ | ⟨hc, hP⟩
      · refine condV_t hc ?_
        refine J_seq ?_
        refine J_region (by kernel_rfl) ?_
        (try simp only [go_sem, Nat.reduceEqDiff, reduceIte, Nat.reduceAdd, Nat.reduceSub, Nat.reduceLT, Nat.reduceMul, reduceCtorEq, Int.reduceToNat, Int.reduceLE, Int.reduceLT, Nat.reduceLeDiff])
        refine hold2 (then_n ?_)
        refine J_ret (then_ret (fin_ret ?_))
        obtain rfl := Option.some.inj hP
        (try simp only [go_sem, Nat.reduceEqDiff, reduceIte, Nat.reduceAdd, Nat.reduceSub, Nat.reduceLT, Nat.reduceMul, reduceCtorEq, Int.reduceToNat, Int.reduceLE, Int.reduceLT, Nat.reduceLeDiff])
        refine fin_of [] (by decide) ?_ ?_ <;> first | rfl | simp only [List.length_set, List.length_replicate, ren, ren2, ren1, renH, renO, go_sem, Nat.reduceEqDiff, reduceIte, Nat.reduceAdd, Nat.reduceSub, Nat.reduceLT, Nat.reduceMul, reduceCtorEq, Int.reduceToNat, Int.reduceLE, Int.reduceLT, Nat.reduceLeDiff]
      · refine condV_f hc ?_
        refine J_skip (then_n ?_)
        refine J_seq ?_
        refine J_region (by kernel_rfl) ?_
        (try simp only [go_sem, Nat.reduceEqDiff, reduceIte, Nat.reduceAdd, Nat.reduceSub, Nat.reduceLT, Nat.reduceMul, reduceCtorEq, Int.reduceToNat, Int.reduceLE, Int.reduceLT, Nat.reduceLeDiff])
        obtain ⟨r9, hr9, hP⟩ := bind_cases hP
        refine call_ok [.view 2 (List.map enc_api_Field l1), .str name2] (fields_All_ok hr9) ⟨argR_m false rfl, argR_m false rfl, trivial⟩ ?_
        (try simp only [go_sem, Nat.reduceEqDiff, reduceIte, Nat.reduceAdd, Nat.reduceSub, Nat.reduceLT, Nat.reduceMul, reduceCtorEq, Int.reduceToNat, Int.reduceLE, Int.reduceLT, Nat.reduceLeDiff])
        refine hold2 (then_n ?_)
        refine J_seq ?_
        refine J_region (by kernel_rfl) ?_
        (try simp only [go_sem, Nat.reduceEqDiff, reduceIte, Nat.reduceAdd, Nat.reduceSub, Nat.reduceLT, Nat.reduceMul, reduceCtorEq, Int.reduceToNat, Int.reduceLE, Int.reduceLT, Nat.reduceLeDiff])
        refine hold2 (then_n ?_)
        refine J_seq ?_
        refine J_seq ?_
        refine J_region (by kernel_rfl) ?_
        (try simp only [go_sem, Nat.reduceEqDiff, reduceIte, Nat.reduceAdd, Nat.reduceSub, Nat.reduceLT, Nat.reduceMul, reduceCtorEq, Int.reduceToNat, Int.reduceLE, Int.reduceLT, Nat.reduceLeDiff])
        refine hold2 (then_n ?_)
        obtain ⟨o33, hP, hQ26⟩ := bind_cases hP
        refine J_joinK (fun (s : (List UInt8)) => envL [(6, .own 0 0 0 (List.length r4.1)), (12, .str s)]) (fun (s : (List UInt8)) => [.slice 0 9 1 (List.map encS r4.1)]) (fun s => s = o33) (by repeat (first | exact subC_then | refine subC_block ?_)) ?_ ?_
        · clear hQ26
          refine J_block ?_
          refine J_loop (σ := Nat × (List UInt8) × Int) (fun (s : Nat × (List UInt8) × Int) => envL [(6, .own 0 0 0 (List.length r4.1)), (11, .own 1 0 0 (List.length r9)), (12, .str s.2.1), (13, .int .i64 s.2.2)]) (fun (s : Nat × (List UInt8) × Int) => [.slice 0 9 1 (List.map encS r4.1), .slice 0 9 1 (List.map encS r9)]) (fun s => law04_FieldsMembers_L26 r9 s.1 s.2.1 s.2.2 = some o33) (fun s => s.1) (1099511627776, [], 0) hP (Sub.of _ _ [0, 1] (by decide) (by first | rfl | (simp only [List.length_set, List.length_replicate]; rfl)) (by simp only [List.length_set, List.length_replicate, List.forall_mem_cons, List.not_mem_nil, false_implies, implies_true, and_true, go_sem, Nat.reduceEqDiff, reduceIte, Nat.reduceAdd, Nat.reduceSub, Nat.reduceLT, Nat.reduceMul, reduceCtorEq, Int.reduceToNat, Int.reduceLE, Int.reduceLT, Nat.reduceLeDiff, ren, ren2, ren1]; (try (first | done | rfl | (repeat' apply And.intro) <;> first | rfl | omega)))) ?_
          rintro ⟨k20, t18, i19⟩ hP
          dsimp only at hP ⊢
          cases k20 with
          | zero => simp [law04_FieldsMembers_L26] at hP
          | succ k20 =>
            simp only [law04_FieldsMembers_L26] at hP
            refine J_seq ?_
            refine J_seq ?_
            refine J_region (by kernel_rfl) ?_
            (try simp only [go_sem, Nat.reduceEqDiff, reduceIte, Nat.reduceAdd, Nat.reduceSub, Nat.reduceLT, Nat.reduceMul, reduceCtorEq, Int.reduceToNat, Int.reduceLE, Int.reduceLT, Nat.reduceLeDiff])
            refine hold2 (then_n ?_)
            refine J_condV rfl ?_
            (try simp only [go_sem, Nat.reduceEqDiff, reduceIte, Nat.reduceAdd, Nat.reduceSub, Nat.reduceLT, Nat.reduceMul, reduceCtorEq, Int.reduceToNat, Int.reduceLE, Int.reduceLT, Nat.reduceLeDiff])
            rcases ite_cases hP with ⟨hc, hP⟩ | ⟨hc, hP⟩
            · refine condV_t hc ?_
              refine J_skip (then_n ?_)
              refine J_seq ?_
              refine J_block ?_
              obtain ⟨o28, hP, hQ28⟩ := bind_cases hP
              refine J_join (fun (s : (List UInt8)) => envL [(6, .own 0 0 0 (List.length r4.1)), (11, .own 1 0 0 (List.length r9)), (12, .str s), (13, .int .i64 i19)]) (fun (s : (List UInt8)) => [.slice 0 9 1 (List.map encS r4.1), .slice 0 9 1 (List.map encS r9)]) (fun s => s = o28) ?_ ?_
              · clear hQ28
                refine J_seq ?_
                refine J_region (by kernel_rfl) ?_
                (try simp only [go_sem, Nat.reduceEqDiff, reduceIte, Nat.reduceAdd, Nat.reduceSub, Nat.reduceLT, Nat.reduceMul, reduceCtorEq, Int.reduceToNat, Int.reduceLE, Int.reduceLT, Nat.reduceLeDiff])
                refine hold2 (then_n ?_)
                refine J_condV rfl ?_
                (try simp only [go_sem, Nat.reduceEqDiff, reduceIte, Nat.reduceAdd, Nat.reduceSub, Nat.reduceLT, Nat.reduceMul, reduceCtorEq, Int.reduceToNat, Int.reduceLE, Int.reduceLT, Nat.reduceLeDiff])
                rcases ite_cases hP with ⟨hc, hP⟩ | ⟨hc, hP⟩
                · refine condV_t hc ?_
                  refine J_region (by kernel_rfl) ?_
                  (try simp only [go_sem, Nat.reduceEqDiff, reduceIte, Nat.reduceAdd, Nat.reduceSub, Nat.reduceLT, Nat.reduceMul, reduceCtorEq, Int.reduceToNat, Int.reduceLE, Int.reduceLT, Nat.reduceLeDiff])
                  obtain ⟨_, hz29, hP⟩ := bind_cases hP
                  refine chk_of (by first | exact szC_63 hz29 | (have q := szC_63 hz29; simp only [List.length_append, List.length_cons, List.length_nil] at q ⊢; omega)) ?_
                  (try simp only [go_sem, Nat.reduceEqDiff, reduceIte, Nat.reduceAdd, Nat.reduceSub, Nat.reduceLT, Nat.reduceMul, reduceCtorEq, Int.reduceToNat, Int.reduceLE, Int.reduceLT, Nat.reduceLeDiff])
                  refine hold2 ?_
                  exact join_n (t18 ++ [44]) (Option.some.inj hP) (Sub.of _ _ [0, 1] (by decide) (by first | rfl | (simp only [List.length_set, List.length_replicate]; rfl)) (by simp only [List.length_set, List.length_replicate, List.forall_mem_cons, List.not_mem_nil, false_implies, implies_true, and_true, go_sem, Nat.reduceEqDiff, reduceIte, Nat.reduceAdd, Nat.reduceSub, Nat.reduceLT, Nat.reduceMul, reduceCtorEq, Int.reduceToNat, Int.reduceLE, Int.reduceLT, Nat.reduceLeDiff, ren, ren2, ren1]; (try (first | done | rfl | (repeat' apply And.intro) <;> first | rfl | omega))))
                · refine condV_f hc ?_
                  refine J_skip ?_
                  exact join_n t18 (Option.some.inj hP) (Sub.of _ _ [0, 1] (by decide) (by first | rfl | (simp only [List.length_set, List.length_replicate]; rfl)) (by simp only [List.length_set, List.length_replicate, List.forall_mem_cons, List.not_mem_nil, false_implies, implies_true, and_true, go_sem, Nat.reduceEqDiff, reduceIte, Nat.reduceAdd, Nat.reduceSub, Nat.reduceLT, Nat.reduceMul, reduceCtorEq, Int.reduceToNat, Int.reduceLE, Int.reduceLT, Nat.reduceLeDiff, ren, ren2, ren1]; (try (first | done | rfl | (repeat' apply And.intro) <;> first | rfl | omega))))
              · intro j30 hs
                subst hs
                have hP := hQ28
                clear hQ28
                refine J_region (by kernel_rfl) ?_
                (try simp only [go_sem, Nat.reduceEqDiff, reduceIte, Nat.reduceAdd, Nat.reduceSub, Nat.reduceLT, Nat.reduceMul, reduceCtorEq, Int.reduceToNat, Int.reduceLE, Int.reduceLT, Nat.reduceLeDiff])
                obtain ⟨x31, hx31, hP⟩ := bind_cases hP
                refine ixO_of hx31 ?_
                (try simp only [go_sem, Nat.reduceEqDiff, reduceIte, Nat.reduceAdd, Nat.reduceSub, Nat.reduceLT, Nat.reduceMul, reduceCtorEq, Int.reduceToNat, Int.reduceLE, Int.reduceLT, Nat.reduceLeDiff])
                refine getK_of hx31 ?_
                (try simp only [go_sem, Nat.reduceEqDiff, reduceIte, Nat.reduceAdd, Nat.reduceSub, Nat.reduceLT, Nat.reduceMul, reduceCtorEq, Int.reduceToNat, Int.reduceLE, Int.reduceLT, Nat.reduceLeDiff])
                obtain ⟨_, hz32, hP⟩ := bind_cases hP
                refine chk_of (by first | exact szC_63 hz32 | (have q := szC_63 hz32; simp only [List.length_append, List.length_cons, List.length_nil] at q ⊢; omega)) ?_
                (try simp only [go_sem, Nat.reduceEqDiff, reduceIte, Nat.reduceAdd, Nat.reduceSub, Nat.reduceLT, Nat.reduceMul, reduceCtorEq, Int.reduceToNat, Int.reduceLE, Int.reduceLT, Nat.reduceLeDiff])
                refine hold2 (block_n (then_n ?_))
                refine J_region (by kernel_rfl) ?_
                (try simp only [go_sem, Nat.reduceEqDiff, reduceIte, Nat.reduceAdd, Nat.reduceSub, Nat.reduceLT, Nat.reduceMul, reduceCtorEq, Int.reduceToNat, Int.reduceLE, Int.reduceLT, Nat.reduceLeDiff])
                refine hold2 ?_
                exact loop_n (k20, (j30 ++ x31), iadd .i64 i19 1) hP (Nat.lt_succ_self _) (Sub.of _ _ [0, 1] (by decide) (by first | rfl | (simp only [List.length_set, List.length_replicate]; rfl)) (by simp only [List.length_set, List.length_replicate, List.forall_mem_cons, List.not_mem_nil, false_implies, implies_true, and_true, go_sem, Nat.reduceEqDiff, reduceIte, Nat.reduceAdd, Nat.reduceSub, Nat.reduceLT, Nat.reduceMul, reduceCtorEq, Int.reduceToNat, Int.reduceLE, Int.reduceLT, Nat.reduceLeDiff, ren, ren2, ren1]; (try (first | done | rfl | (repeat' apply And.intro) <;> first | rfl | omega))))
            · refine condV_f hc ?_
              refine J_exit (then_exit (loop_exit (block_eq ?_)))
              exact join_n t18 (Option.some.inj hP) (Sub.of _ _ [0] (by decide) (by first | rfl | (simp only [List.length_set, List.length_replicate]; rfl)) (by simp only [List.length_set, List.length_replicate, List.forall_mem_cons, List.not_mem_nil, false_implies, implies_true, and_true, go_sem, Nat.reduceEqDiff, reduceIte, Nat.reduceAdd, Nat.reduceSub, Nat.reduceLT, Nat.reduceMul, reduceCtorEq, Int.reduceToNat, Int.reduceLE, Int.reduceLT, Nat.reduceLeDiff, ren, ren2, ren1]; (try (first | done | rfl | (repeat' apply And.intro) <;> first | rfl | omega))))
        · intro j34 hs
          subst hs
          have hP := hQ26
          clear hQ26
          refine then_n ?_
          refine J_seq ?_
          refine J_region (by kernel_rfl) ?_
          (try simp only [go_sem, Nat.reduceEqDiff, reduceIte, Nat.reduceAdd, Nat.reduceSub, Nat.reduceLT, Nat.reduceMul, reduceCtorEq, Int.reduceToNat, Int.reduceLE, Int.reduceLT, Nat.reduceLeDiff])
          obtain ⟨r35, hr35, hP⟩ := bind_cases hP
          refine call_ok [.str j34] (lex_List_ok hr35) ⟨argR_m false rfl, trivial⟩ ?_
          (try simp only [go_sem, Nat.reduceEqDiff, reduceIte, Nat.reduceAdd, Nat.reduceSub, Nat.reduceLT, Nat.reduceMul, reduceCtorEq, Int.reduceToNat, Int.reduceLE, Int.reduceLT, Nat.reduceLeDiff])
          refine hold2 (then_n ?_)
          refine J_seq ?_
          refine J_region (by kernel_rfl) ?_
          (try simp only [go_sem, Nat.reduceEqDiff, reduceIte, Nat.reduceAdd, Nat.reduceSub, Nat.reduceLT, Nat.reduceMul, reduceCtorEq, Int.reduceToNat, Int.reduceLE, Int.reduceLT, Nat.reduceLeDiff])
          obtain ⟨r36, hr36, hP⟩ := bind_cases hP
          refine call_ok [.view 1 (List.map encS r35.1), .view 1 (List.map encS r4.1)] (ref03_SameList_ok hr36) ⟨argR_m false (by simp only [arg, go_sem, Nat.reduceEqDiff, reduceIte, Nat.reduceAdd, Nat.reduceSub, Nat.reduceLT, Nat.reduceMul, reduceCtorEq, Int.reduceToNat, Int.reduceLE, Int.reduceLT, Nat.reduceLeDiff]), argR_m false (by simp only [arg, go_sem, Nat.reduceEqDiff, reduceIte, Nat.reduceAdd, Nat.reduceSub, Nat.reduceLT, Nat.reduceMul, reduceCtorEq, Int.reduceToNat, Int.reduceLE, Int.reduceLT, Nat.reduceLeDiff]), trivial⟩ ?_
          (try simp only [go_sem, Nat.reduceEqDiff, reduceIte, Nat.reduceAdd, Nat.reduceSub, Nat.reduceLT, Nat.reduceMul, reduceCtorEq, Int.reduceToNat, Int.reduceLE, Int.reduceLT, Nat.reduceLeDiff])
          refine hold2 (then_n ?_)
          refine J_seq ?_
          refine J_region (by kernel_rfl) ?_
          (try simp only [go_sem, Nat.reduceEqDiff, reduceIte, Nat.reduceAdd, Nat.reduceSub, Nat.reduceLT, Nat.reduceMul, reduceCtorEq, Int.reduceToNat, Int.reduceLE, Int.reduceLT, Nat.reduceLeDiff])
          rcases ite_cases hP with ⟨hc, hP⟩ | ⟨hc, hP⟩
          · refine guard_is hc ?_
            (try simp only [go_sem, Nat.reduceEqDiff, reduceIte, Nat.reduceAdd, Nat.reduceSub, Nat.reduceLT, Nat.reduceMul, reduceCtorEq, Int.reduceToNat, Int.reduceLE, Int.reduceLT, Nat.reduceLeDiff])
            refine hold2 (then_n ?_)
            refine J_ret (fin_ret ?_)
            obtain rfl := Option.some.inj hP
            (try simp only [go_sem, Nat.reduceEqDiff, reduceIte, Nat.reduceAdd, Nat.reduceSub, Nat.reduceLT, Nat.reduceMul, reduceCtorEq, Int.reduceToNat, Int.reduceLE, Int.reduceLT, Nat.reduceLeDiff])
            refine fin_of [] (by decide) ?_ ?_ <;> first | rfl | simp only [List.length_set, List.length_replicate, ren, ren2, ren1, renH, renO, go_sem, Nat.reduceEqDiff, reduceIte, Nat.reduceAdd, Nat.reduceSub, Nat.reduceLT, Nat.reduceMul, reduceCtorEq, Int.reduceToNat, Int.reduceLE, Int.reduceLT, Nat.reduceLeDiff]
          · refine guard_not hc ?_
            (try simp only [go_sem, Nat.reduceEqDiff, reduceIte, Nat.reduceAdd, Nat.reduceSub, Nat.reduceLT, Nat.reduceMul, reduceCtorEq, Int.reduceToNat, Int.reduceLE, Int.reduceLT, Nat.reduceLeDiff])
            refine hold2 (then_n ?_)
            refine J_ret (fin_ret ?_)
            obtain rfl := Option.some.inj hP
            (try simp only [go_sem, Nat.reduceEqDiff, reduceIte, Nat.reduceAdd, Nat.reduceSub, Nat.reduceLT, Nat.reduceMul, reduceCtorEq, Int.reduceToNat, Int.reduceLE, Int.reduceLT, Nat.reduceLeDiff])
            refine fin_of [] (by decide) ?_ ?_ <;> first | rfl | simp only [List.length_set, List.length_replicate, ren, ren2, ren1, renH, renO, go_sem, Nat.reduceEqDiff, reduceIte, Nat.reduceAdd, Nat.reduceSub, Nat.reduceLT, Nat.reduceMul, reduceCtorEq, Int.reduceToNat, Int.reduceLE, Int.reduceLT, Nat.reduceLeDiff]
end Go.Proofs.YtmelgmhcamjfiaaDoor
