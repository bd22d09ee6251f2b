/- Functions of the program, and pure ones that go the same ways: that the program's return what these compute. -/
import Derived.Test.YtcikflhenbpdiaaDoorGB
namespace Go.Proofs.YtcikflhenbpdiaaDoor
open Go.Av
set_option linter.unusedVariables false
set_option linter.unusedSimpArgs false
/-- colander/fields.All -/
def fields_All_L17 (l1 : List ((List UInt8) × (List UInt8))) (name2 : List UInt8) : Nat → Int → (List (List UInt8)) → Option ((List (List UInt8)))
  | 0, _, _ => none
  | k14 + 1, v12, l13 =>
    if decide (v12 < (List.length l1 : Int)) then
      (ixL l1 v12).bind fun x18 =>
      (lex_Same x18.1 name2).bind fun r19 =>
      if r19 then
        (szC (16 * List.length (l13 ++ [x18.2] : List (List UInt8)))).bind fun _ =>
        fields_All_L17 l1 name2 k14 (iadd .i64 v12 1) (l13 ++ [x18.2])
      else
        fields_All_L17 l1 name2 k14 (iadd .i64 v12 1) l13
    else
      some l13
def fields_All (l1 : List ((List UInt8) × (List UInt8))) (name2 : List UInt8) : Option ((List (List UInt8))) :=
  (fields_All_L17 l1 name2 140737488355328 0 ([] : List (List UInt8))).bind fun j22 =>
    some j22
set_option maxRecDepth 100000 in
set_option maxHeartbeats 40000000 in
theorem fields_All_ok {l1 : List ((List UInt8) × (List UInt8))} {name2 : List UInt8} {r : (List (List UInt8))} (hP : fields_All l1 name2 = some r) : CallOK Tryd.prog 16 [.view 2 (List.map enc_api_Field l1), .str name2] (.own 0 0 0 (List.length r)) [.slice 0 9 1 (List.map encS r)] := by
  unfold fields_All at hP
  refine callOK_of (n := 25) (rs := [.tmp 4]) Tryd.func16 rfl (by decide) rfl rfl (by simp) rfl (by first | rfl | simp [AV.vf, AV.vfL]) (by first | (intro o ho; simp at ho; done) | (simp [vfO, AV.vf, AV.vfL, encB, encI, encS, encO, enc_api_Field, enc_api_Body]; done) | (simp [vfO, AV.vf, AV.vfL, encB, encI, encS, encO, enc_api_Field, enc_api_Body]; intros; subst_vars; simp [AV.vf, AV.vfL])) ?_
  refine J_seq ?_
  refine J_region (by kernel_rfl) ?_
  (try simp only [go_sem, Nat.reduceEqDiff, reduceIte, Nat.reduceAdd, Nat.reduceSub, Nat.reduceLT, Nat.reduceMul, reduceCtorEq, Int.reduceToNat, Int.reduceLE, Int.reduceLT, Nat.reduceLeDiff])
  refine hold2 (then_n ?_)
  refine J_seq ?_
  refine J_region (by kernel_rfl) ?_
  (try simp only [go_sem, Nat.reduceEqDiff, reduceIte, Nat.reduceAdd, Nat.reduceSub, Nat.reduceLT, Nat.reduceMul, reduceCtorEq, Int.reduceToNat, Int.reduceLE, Int.reduceLT, Nat.reduceLeDiff])
  refine hold2 (then_n ?_)
  refine J_seq ?_
  refine J_seq ?_
  refine J_region (by kernel_rfl) ?_
  (try simp only [go_sem, Nat.reduceEqDiff, reduceIte, Nat.reduceAdd, Nat.reduceSub, Nat.reduceLT, Nat.reduceMul, reduceCtorEq, Int.reduceToNat, Int.reduceLE, Int.reduceLT, Nat.reduceLeDiff])
  refine hold2 (then_n ?_)
  obtain ⟨o21, hP, hQ17⟩ := bind_cases hP
  refine J_joinK (fun (s : (List (List UInt8))) => envL [(5, .own 0 0 0 (List.length s))]) (fun (s : (List (List UInt8))) => [.slice 0 9 1 (List.map encS s)]) (fun s => s = o21) (by repeat (first | exact subC_then | refine subC_block ?_)) ?_ ?_
  · clear hQ17
    refine J_block ?_
    refine J_loop (σ := Nat × Int × (List (List UInt8))) (fun (s : Nat × Int × (List (List UInt8))) => envL [(1, .str name2), (5, .own 0 0 0 (List.length s.2.2)), (8, .view 2 (List.map enc_api_Field l1)), (9, .int .i64 (List.length l1 : Int)), (10, .int .i64 s.2.1)]) (fun (s : Nat × Int × (List (List UInt8))) => [.slice 0 9 1 (List.map encS s.2.2)]) (fun s => fields_All_L17 l1 name2 s.1 s.2.1 s.2.2 = some o21) (fun s => s.1) (140737488355328, 0, ([] : List (List UInt8))) hP (Sub.of _ _ [1] (by decide) (by first | rfl | (simp only [List.length_set, List.length_replicate]; rfl)) (by simp only [List.length_set, List.length_replicate, List.forall_mem_cons, List.not_mem_nil, false_implies, implies_true, and_true, go_sem, Nat.reduceEqDiff, reduceIte, Nat.reduceAdd, Nat.reduceSub, Nat.reduceLT, Nat.reduceMul, reduceCtorEq, Int.reduceToNat, Int.reduceLE, Int.reduceLT, Nat.reduceLeDiff, ren, ren2, ren1]; (try (first | done | rfl | (repeat' apply And.intro) <;> first | rfl | omega)))) ?_
    rintro ⟨k14, v12, l13⟩ hP
    dsimp only at hP ⊢
    cases k14 with
    | zero => simp [fields_All_L17] at hP
    | succ k14 =>
      simp only [fields_All_L17] at hP
      refine J_seq ?_
      refine J_region (by kernel_rfl) ?_
      (try simp only [go_sem, Nat.reduceEqDiff, reduceIte, Nat.reduceAdd, Nat.reduceSub, Nat.reduceLT, Nat.reduceMul, reduceCtorEq, Int.reduceToNat, Int.reduceLE, Int.reduceLT, Nat.reduceLeDiff])
      refine hold2 (then_n ?_)
      refine J_seq ?_
      refine J_condV rfl ?_
      (try simp only [go_sem, Nat.reduceEqDiff, reduceIte, Nat.reduceAdd, Nat.reduceSub, Nat.reduceLT, Nat.reduceMul, reduceCtorEq, Int.reduceToNat, Int.reduceLE, Int.reduceLT, Nat.reduceLeDiff])
      rcases ite_cases hP with ⟨hc, hP⟩ | ⟨hc, hP⟩
      · refine condV_t hc ?_
        refine J_skip (then_n ?_)
        refine J_seq ?_
        refine J_block ?_
        refine J_seq ?_
        refine J_region (by kernel_rfl) ?_
        (try simp only [go_sem, Nat.reduceEqDiff, reduceIte, Nat.reduceAdd, Nat.reduceSub, Nat.reduceLT, Nat.reduceMul, reduceCtorEq, Int.reduceToNat, Int.reduceLE, Int.reduceLT, Nat.reduceLeDiff])
        obtain ⟨x18, hx18, hP⟩ := bind_cases hP
        refine ixV_of hx18 ?_
        (try simp only [go_sem, Nat.reduceEqDiff, reduceIte, Nat.reduceAdd, Nat.reduceSub, Nat.reduceLT, Nat.reduceMul, reduceCtorEq, Int.reduceToNat, Int.reduceLE, Int.reduceLT, Nat.reduceLeDiff])
        refine hold2 (then_n ?_)
        refine J_seq ?_
        refine J_region (by kernel_rfl) ?_
        (try simp only [go_sem, Nat.reduceEqDiff, reduceIte, Nat.reduceAdd, Nat.reduceSub, Nat.reduceLT, Nat.reduceMul, reduceCtorEq, Int.reduceToNat, Int.reduceLE, Int.reduceLT, Nat.reduceLeDiff])
        obtain ⟨r19, hr19, hP⟩ := bind_cases hP
        refine call_ok [.str x18.1, .str name2] (lex_Same_ok hr19) ⟨argR_m false rfl, argR_m false rfl, trivial⟩ ?_
        (try simp only [go_sem, Nat.reduceEqDiff, reduceIte, Nat.reduceAdd, Nat.reduceSub, Nat.reduceLT, Nat.reduceMul, reduceCtorEq, Int.reduceToNat, Int.reduceLE, Int.reduceLT, Nat.reduceLeDiff])
        refine hold2 (then_n ?_)
        refine J_condV rfl ?_
        (try simp only [go_sem, Nat.reduceEqDiff, reduceIte, Nat.reduceAdd, Nat.reduceSub, Nat.reduceLT, Nat.reduceMul, reduceCtorEq, Int.reduceToNat, Int.reduceLE, Int.reduceLT, Nat.reduceLeDiff])
        rcases ite_cases hP with ⟨hc, hP⟩ | ⟨hc, hP⟩
        · refine condV_t hc ?_
          refine J_region (by kernel_rfl) ?_
          (try simp only [go_sem, Nat.reduceEqDiff, reduceIte, Nat.reduceAdd, Nat.reduceSub, Nat.reduceLT, Nat.reduceMul, reduceCtorEq, Int.reduceToNat, Int.reduceLE, Int.reduceLT, Nat.reduceLeDiff])
          obtain ⟨_, hz20, hP⟩ := bind_cases hP
          refine app_ownW (f := encS) (l13 : List (List UInt8)) ([x18.2] : List (List UInt8)) rfl tyS_44 (by decide) (by simp only [go_sem, Nat.reduceEqDiff, reduceIte, Nat.reduceAdd, Nat.reduceSub, Nat.reduceLT, Nat.reduceMul, reduceCtorEq, Int.reduceToNat, Int.reduceLE, Int.reduceLT, Nat.reduceLeDiff]; first | done | rfl | exact ⟨rfl, rfl⟩) hz20 ?_
          (try simp only [go_sem, Nat.reduceEqDiff, reduceIte, Nat.reduceAdd, Nat.reduceSub, Nat.reduceLT, Nat.reduceMul, reduceCtorEq, Int.reduceToNat, Int.reduceLE, Int.reduceLT, Nat.reduceLeDiff])
          refine hold2 (block_n (then_n ?_))
          refine J_region (by kernel_rfl) ?_
          (try simp only [go_sem, Nat.reduceEqDiff, reduceIte, Nat.reduceAdd, Nat.reduceSub, Nat.reduceLT, Nat.reduceMul, reduceCtorEq, Int.reduceToNat, Int.reduceLE, Int.reduceLT, Nat.reduceLeDiff])
          refine hold2 ?_
          exact loop_n (k14, iadd .i64 v12 1, l13 ++ [x18.2]) hP (Nat.lt_succ_self _) (Sub.of _ _ [0] (by decide) (by first | rfl | (simp only [List.length_set, List.length_replicate]; rfl)) (by simp only [List.length_set, List.length_replicate, List.forall_mem_cons, List.not_mem_nil, false_implies, implies_true, and_true, go_sem, Nat.reduceEqDiff, reduceIte, Nat.reduceAdd, Nat.reduceSub, Nat.reduceLT, Nat.reduceMul, reduceCtorEq, Int.reduceToNat, Int.reduceLE, Int.reduceLT, Nat.reduceLeDiff, ren, ren2, ren1]; (try (first | done | rfl | (repeat' apply And.intro) <;> first | rfl | omega))))
        · refine condV_f hc ?_
          refine J_skip (block_n (then_n ?_))
          refine J_region (by kernel_rfl) ?_
          (try simp only [go_sem, Nat.reduceEqDiff, reduceIte, Nat.reduceAdd, Nat.reduceSub, Nat.reduceLT, Nat.reduceMul, reduceCtorEq, Int.reduceToNat, Int.reduceLE, Int.reduceLT, Nat.reduceLeDiff])
          refine hold2 ?_
          exact loop_n (k14, iadd .i64 v12 1, l13) hP (Nat.lt_succ_self _) (Sub.of _ _ [0] (by decide) (by first | rfl | (simp only [List.length_set, List.length_replicate]; rfl)) (by simp only [List.length_set, List.length_replicate, List.forall_mem_cons, List.not_mem_nil, false_implies, implies_true, and_true, go_sem, Nat.reduceEqDiff, reduceIte, Nat.reduceAdd, Nat.reduceSub, Nat.reduceLT, Nat.reduceMul, reduceCtorEq, Int.reduceToNat, Int.reduceLE, Int.reduceLT, Nat.reduceLeDiff, ren, ren2, ren1]; (try (first | done | rfl | (repeat' apply And.intro) <;> first | rfl | omega))))
      · refine condV_f hc ?_
        refine J_exit (then_exit (loop_exit (block_eq ?_)))
        exact join_n l13 (Option.some.inj hP) (Sub.of _ _ [0] (by decide) (by first | rfl | (simp only [List.length_set, List.length_replicate]; rfl)) (by simp only [List.length_set, List.length_replicate, List.forall_mem_cons, List.not_mem_nil, false_implies, implies_true, and_true, go_sem, Nat.reduceEqDiff, reduceIte, Nat.reduceAdd, Nat.reduceSub, Nat.reduceLT, Nat.reduceMul, reduceCtorEq, Int.reduceToNat, Int.reduceLE, Int.reduceLT, Nat.reduceLeDiff, ren, ren2, ren1]; (try (first | done | rfl | (repeat' apply And.intro) <;> first | rfl | omega))))
  · intro j22 hs
    subst hs
    have hP := hQ17
    clear hQ17
    refine then_n ?_
    refine J_seq ?_
    refine J_region (by kernel_rfl) ?_
    (try simp only [go_sem, Nat.reduceEqDiff, reduceIte, Nat.reduceAdd, Nat.reduceSub, Nat.reduceLT, Nat.reduceMul, reduceCtorEq, Int.reduceToNat, Int.reduceLE, Int.reduceLT, Nat.reduceLeDiff])
    refine hold2 (then_n ?_)
    refine J_ret (fin_ret ?_)
    obtain rfl := Option.some.inj hP
    (try simp only [go_sem, Nat.reduceEqDiff, reduceIte, Nat.reduceAdd, Nat.reduceSub, Nat.reduceLT, Nat.reduceMul, reduceCtorEq, Int.reduceToNat, Int.reduceLE, Int.reduceLT, Nat.reduceLeDiff])
    refine fin_of [0] (by decide) ?_ ?_ <;> first | rfl | simp only [List.length_set, List.length_replicate, ren, ren2, ren1, renH, renO, go_sem, Nat.reduceEqDiff, reduceIte, Nat.reduceAdd, Nat.reduceSub, Nat.reduceLT, Nat.reduceMul, reduceCtorEq, Int.reduceToNat, Int.reduceLE, Int.reduceLT, Nat.reduceLeDiff]
/-- colander/fields.Count -/
def fields_Count (l1 : List ((List UInt8) × (List UInt8))) (name2 : List UInt8) : Option (Int) :=
  (fields_All l1 name2).bind fun r3 =>
  some ((List.length r3 : Nat) : Int)
set_option maxRecDepth 100000 in
set_option maxHeartbeats 40000000 in
theorem fields_Count_ok {l1 : List ((List UInt8) × (List UInt8))} {name2 : List UInt8} {r : Int} (hP : fields_Count l1 name2 = some r) : CallOK Tryd.prog 12 [.view 2 (List.map enc_api_Field l1), .str name2] (.int .i64 r) [] := by
  unfold fields_Count at hP
  refine callOK_of (n := 9) (rs := [.tmp 4]) Tryd.func12 rfl (by decide) rfl rfl (by simp) rfl (by first | rfl | simp [AV.vf, AV.vfL]) (by first | (intro o ho; simp at ho; done) | (simp [vfO, AV.vf, AV.vfL, encB, encI, encS, encO, enc_api_Field, enc_api_Body]; done) | (simp [vfO, AV.vf, AV.vfL, encB, encI, encS, encO, enc_api_Field, enc_api_Body]; intros; subst_vars; simp [AV.vf, AV.vfL])) ?_
  refine J_seq ?_
  refine J_region (by kernel_rfl) ?_
  (try simp only [go_sem, Nat.reduceEqDiff, reduceIte, Nat.reduceAdd, Nat.reduceSub, Nat.reduceLT, Nat.reduceMul, reduceCtorEq, Int.reduceToNat, Int.reduceLE, Int.reduceLT, Nat.reduceLeDiff])
  refine hold2 (then_n ?_)
  refine J_seq ?_
  refine J_region (by kernel_rfl) ?_
  (try simp only [go_sem, Nat.reduceEqDiff, reduceIte, Nat.reduceAdd, Nat.reduceSub, Nat.reduceLT, Nat.reduceMul, reduceCtorEq, Int.reduceToNat, Int.reduceLE, Int.reduceLT, Nat.reduceLeDiff])
  obtain ⟨r3, hr3, hP⟩ := bind_cases hP
  refine call_ok [.view 2 (List.map enc_api_Field l1), .str name2] (fields_All_ok hr3) ⟨argR_m false rfl, argR_m false rfl, trivial⟩ ?_
  (try simp only [go_sem, Nat.reduceEqDiff, reduceIte, Nat.reduceAdd, Nat.reduceSub, Nat.reduceLT, Nat.reduceMul, reduceCtorEq, Int.reduceToNat, Int.reduceLE, Int.reduceLT, Nat.reduceLeDiff])
  refine hold2 (then_n ?_)
  refine J_ret (fin_ret ?_)
  obtain rfl := Option.some.inj hP
  (try simp only [go_sem, Nat.reduceEqDiff, reduceIte, Nat.reduceAdd, Nat.reduceSub, Nat.reduceLT, Nat.reduceMul, reduceCtorEq, Int.reduceToNat, Int.reduceLE, Int.reduceLT, Nat.reduceLeDiff])
  refine fin_of [] (by decide) ?_ ?_ <;> first | rfl | simp only [List.length_set, List.length_replicate, ren, ren2, ren1, renH, renO, go_sem, Nat.reduceEqDiff, reduceIte, Nat.reduceAdd, Nat.reduceSub, Nat.reduceLT, Nat.reduceMul, reduceCtorEq, Int.reduceToNat, Int.reduceLE, Int.reduceLT, Nat.reduceLeDiff]
/-- colander/fields.Members -/
def fields_Members_L18 (r3 : (List (List UInt8))) : Nat → Int → (List (List UInt8)) → Option (Sum ((List (List UInt8)) × Int) ((List (List UInt8))))
  | 0, _, _ => none
  | k15 + 1, v13, l14 =>
    if decide (v13 < ((List.length r3 : Nat) : Int)) then
      (ixL r3 v13).bind fun x19 =>
      (lex_List x19).bind fun r20 =>
      if !decide (r20.2 = 0) then
        some (Sum.inl (([] : List (List UInt8)), r20.2))
      else
        (szC (16 * List.length (l14 ++ r20.1 : List (List UInt8)))).bind fun _ =>
        fields_Members_L18 r3 k15 (iadd .i64 v13 1) (l14 ++ r20.1)
    else
      some (Sum.inr l14)
def fields_Members (l1 : List ((List UInt8) × (List UInt8))) (name2 : List UInt8) : Option ((List (List UInt8)) × Int) :=
  (fields_All l1 name2).bind fun r3 =>
  (fields_Members_L18 r3 140737488355328 0 ([] : List (List UInt8))).bind fun o22 => match o22 with
  | Sum.inl r => some r
  | Sum.inr j23 =>
    some (j23, 0)
set_option maxRecDepth 100000 in
set_option maxHeartbeats 40000000 in
theorem fields_Members_ok {l1 : List ((List UInt8) × (List UInt8))} {name2 : List UInt8} {r : (List (List UInt8)) × Int} (hP : fields_Members l1 name2 = some r) : CallOK Tryd.prog 18 [.view 2 (List.map enc_api_Field l1), .str name2] (.tup [.own 0 0 0 (List.length r.1), .int .i64 r.2]) [.slice 0 9 1 (List.map encS r.1)] := by
  unfold fields_Members at hP
  refine callOK_of (n := 32) (rs := [.tmp 4, .tmp 5]) Tryd.func18 rfl (by decide) rfl rfl (by simp) rfl (by first | rfl | simp [AV.vf, AV.vfL]) (by first | (intro o ho; simp at ho; done) | (simp [vfO, AV.vf, AV.vfL, encB, encI, encS, encO, enc_api_Field, enc_api_Body]; done) | (simp [vfO, AV.vf, AV.vfL, encB, encI, encS, encO, enc_api_Field, enc_api_Body]; intros; subst_vars; simp [AV.vf, AV.vfL])) ?_
  refine J_seq ?_
  refine J_region (by kernel_rfl) ?_
  (try simp only [go_sem, Nat.reduceEqDiff, reduceIte, Nat.reduceAdd, Nat.reduceSub, Nat.reduceLT, Nat.reduceMul, reduceCtorEq, Int.reduceToNat, Int.reduceLE, Int.reduceLT, Nat.reduceLeDiff])
  refine hold2 (then_n ?_)
  refine J_seq ?_
  refine J_region (by kernel_rfl) ?_
  (try simp only [go_sem, Nat.reduceEqDiff, reduceIte, Nat.reduceAdd, Nat.reduceSub, Nat.reduceLT, Nat.reduceMul, reduceCtorEq, Int.reduceToNat, Int.reduceLE, Int.reduceLT, Nat.reduceLeDiff])
  refine hold2 (then_n ?_)
  refine J_seq ?_
  refine J_seq ?_
  refine J_region (by kernel_rfl) ?_
  (try simp only [go_sem, Nat.reduceEqDiff, reduceIte, Nat.reduceAdd, Nat.reduceSub, Nat.reduceLT, Nat.reduceMul, reduceCtorEq, Int.reduceToNat, Int.reduceLE, Int.reduceLT, Nat.reduceLeDiff])
  obtain ⟨r3, hr3, hP⟩ := bind_cases hP
  refine call_ok [.view 2 (List.map enc_api_Field l1), .str name2] (fields_All_ok hr3) ⟨argR_m false rfl, argR_m false rfl, trivial⟩ ?_
  (try simp only [go_sem, Nat.reduceEqDiff, reduceIte, Nat.reduceAdd, Nat.reduceSub, Nat.reduceLT, Nat.reduceMul, reduceCtorEq, Int.reduceToNat, Int.reduceLE, Int.reduceLT, Nat.reduceLeDiff])
  refine hold2 (then_n ?_)
  obtain ⟨o22, hP, hQ18⟩ := bind_cases hP
  refine J_joinK (fun (s : (List (List UInt8))) => envL [(6, .own 0 0 0 (List.length s))]) (fun (s : (List (List UInt8))) => [.slice 0 9 1 (List.map encS s)]) (fun s => Sum.inr s = o22) (by repeat (first | exact subC_then | refine subC_block ?_)) ?_ ?_
  · refine J_block ?_
    refine J_loop (σ := Nat × Int × (List (List UInt8))) (fun (s : Nat × Int × (List (List UInt8))) => envL [(6, .own 0 0 0 (List.length s.2.2)), (13, .own 1 0 0 (List.length r3)), (14, .int .i64 ((List.length r3 : Nat) : Int)), (15, .int .i64 s.2.1)]) (fun (s : Nat × Int × (List (List UInt8))) => [.slice 0 9 1 (List.map encS s.2.2), .slice 0 9 1 (List.map encS r3)]) (fun s => fields_Members_L18 r3 s.1 s.2.1 s.2.2 = some o22) (fun s => s.1) (140737488355328, 0, ([] : List (List UInt8))) hP (Sub.of _ _ [1, 2] (by decide) (by first | rfl | (simp only [List.length_set, List.length_replicate]; rfl)) (by simp only [List.length_set, List.length_replicate, List.forall_mem_cons, List.not_mem_nil, false_implies, implies_true, and_true, go_sem, Nat.reduceEqDiff, reduceIte, Nat.reduceAdd, Nat.reduceSub, Nat.reduceLT, Nat.reduceMul, reduceCtorEq, Int.reduceToNat, Int.reduceLE, Int.reduceLT, Nat.reduceLeDiff, ren, ren2, ren1]; (try (first | done | rfl | (repeat' apply And.intro) <;> first | rfl | omega)))) ?_
    rintro ⟨k15, v13, l14⟩ hP
    dsimp only at hP ⊢
    cases k15 with
    | zero => simp [fields_Members_L18] at hP
    | succ k15 =>
      simp only [fields_Members_L18] at hP
      refine J_seq ?_
      refine J_region (by kernel_rfl) ?_
      (try simp only [go_sem, Nat.reduceEqDiff, reduceIte, Nat.reduceAdd, Nat.reduceSub, Nat.reduceLT, Nat.reduceMul, reduceCtorEq, Int.reduceToNat, Int.reduceLE, Int.reduceLT, Nat.reduceLeDiff])
      refine hold2 (then_n ?_)
      refine J_seq ?_
      refine J_condV rfl ?_
      (try simp only [go_sem, Nat.reduceEqDiff, reduceIte, Nat.reduceAdd, Nat.reduceSub, Nat.reduceLT, Nat.reduceMul, reduceCtorEq, Int.reduceToNat, Int.reduceLE, Int.reduceLT, Nat.reduceLeDiff])
      rcases ite_cases hP with ⟨hc, hP⟩ | ⟨hc, hP⟩
      · refine condV_t hc ?_
        refine J_skip (then_n ?_)
        refine J_seq ?_
        refine J_block ?_
        refine J_seq ?_
        refine J_region (by kernel_rfl) ?_
        (try simp only [go_sem, Nat.reduceEqDiff, reduceIte, Nat.reduceAdd, Nat.reduceSub, Nat.reduceLT, Nat.reduceMul, reduceCtorEq, Int.reduceToNat, Int.reduceLE, Int.reduceLT, Nat.reduceLeDiff])
        obtain ⟨x19, hx19, hP⟩ := bind_cases hP
        refine ixO_of hx19 ?_
        (try simp only [go_sem, Nat.reduceEqDiff, reduceIte, Nat.reduceAdd, Nat.reduceSub, Nat.reduceLT, Nat.reduceMul, reduceCtorEq, Int.reduceToNat, Int.reduceLE, Int.reduceLT, Nat.reduceLeDiff])
        refine getK_of hx19 ?_
        (try simp only [go_sem, Nat.reduceEqDiff, reduceIte, Nat.reduceAdd, Nat.reduceSub, Nat.reduceLT, Nat.reduceMul, reduceCtorEq, Int.reduceToNat, Int.reduceLE, Int.reduceLT, Nat.reduceLeDiff])
        refine hold2 (then_n ?_)
        refine J_seq ?_
        refine J_region (by kernel_rfl) ?_
        (try simp only [go_sem, Nat.reduceEqDiff, reduceIte, Nat.reduceAdd, Nat.reduceSub, Nat.reduceLT, Nat.reduceMul, reduceCtorEq, Int.reduceToNat, Int.reduceLE, Int.reduceLT, Nat.reduceLeDiff])
        obtain ⟨r20, hr20, hP⟩ := bind_cases hP
        refine call_ok [.str x19] (lex_List_ok hr20) ⟨argR_m false rfl, trivial⟩ ?_
        (try simp only [go_sem, Nat.reduceEqDiff, reduceIte, Nat.reduceAdd, Nat.reduceSub, Nat.reduceLT, Nat.reduceMul, reduceCtorEq, Int.reduceToNat, Int.reduceLE, Int.reduceLT, Nat.reduceLeDiff])
        refine hold2 (then_n ?_)
        refine J_seq ?_
        refine J_seq ?_
        refine J_region (by kernel_rfl) ?_
        (try simp only [go_sem, Nat.reduceEqDiff, reduceIte, Nat.reduceAdd, Nat.reduceSub, Nat.reduceLT, Nat.reduceMul, reduceCtorEq, Int.reduceToNat, Int.reduceLE, Int.reduceLT, Nat.reduceLeDiff])
        refine hold2 (then_n ?_)
        refine J_condV rfl ?_
        (try simp only [go_sem, Nat.reduceEqDiff, reduceIte, Nat.reduceAdd, Nat.reduceSub, Nat.reduceLT, Nat.reduceMul, reduceCtorEq, Int.reduceToNat, Int.reduceLE, Int.reduceLT, Nat.reduceLeDiff])
        rcases ite_cases hP with ⟨hc, hP⟩ | ⟨hc, hP⟩
        · refine condV_t hc ?_
          refine J_seq ?_
          refine J_region (by kernel_rfl) ?_
          (try simp only [go_sem, Nat.reduceEqDiff, reduceIte, Nat.reduceAdd, Nat.reduceSub, Nat.reduceLT, Nat.reduceMul, reduceCtorEq, Int.reduceToNat, Int.reduceLE, Int.reduceLT, Nat.reduceLeDiff])
          refine hold2 (then_n ?_)
          refine J_ret (then_ret (block_ret (then_ret (loop_ret (block_ret (join_ret (then_ret (fin_ret ?_))))))))
          obtain rfl := Option.some.inj hP
          have hP := hQ18
          dsimp only at hP
          obtain rfl := Option.some.inj hP
          (try simp only [go_sem, Nat.reduceEqDiff, reduceIte, Nat.reduceAdd, Nat.reduceSub, Nat.reduceLT, Nat.reduceMul, reduceCtorEq, Int.reduceToNat, Int.reduceLE, Int.reduceLT, Nat.reduceLeDiff])
          refine fin_of [3] (by decide) ?_ ?_ <;> first | rfl | simp only [List.length_set, List.length_replicate, ren, ren2, ren1, renH, renO, go_sem, Nat.reduceEqDiff, reduceIte, Nat.reduceAdd, Nat.reduceSub, Nat.reduceLT, Nat.reduceMul, reduceCtorEq, Int.reduceToNat, Int.reduceLE, Int.reduceLT, Nat.reduceLeDiff]
        · refine condV_f hc ?_
          refine J_skip (then_n ?_)
          refine J_region (by kernel_rfl) ?_
          (try simp only [go_sem, Nat.reduceEqDiff, reduceIte, Nat.reduceAdd, Nat.reduceSub, Nat.reduceLT, Nat.reduceMul, reduceCtorEq, Int.reduceToNat, Int.reduceLE, Int.reduceLT, Nat.reduceLeDiff])
          obtain ⟨_, hz21, hP⟩ := bind_cases hP
          refine app_ownW (f := encS) (l14 : List (List UInt8)) (r20.1 : List (List UInt8)) rfl tyS_44 (by decide) (by simp only [go_sem, Nat.reduceEqDiff, reduceIte, Nat.reduceAdd, Nat.reduceSub, Nat.reduceLT, Nat.reduceMul, reduceCtorEq, Int.reduceToNat, Int.reduceLE, Int.reduceLT, Nat.reduceLeDiff]; first | done | rfl | exact ⟨rfl, rfl⟩) hz21 ?_
          (try simp only [go_sem, Nat.reduceEqDiff, reduceIte, Nat.reduceAdd, Nat.reduceSub, Nat.reduceLT, Nat.reduceMul, reduceCtorEq, Int.reduceToNat, Int.reduceLE, Int.reduceLT, Nat.reduceLeDiff])
          refine hold2 (block_n (then_n ?_))
          refine J_region (by kernel_rfl) ?_
          (try simp only [go_sem, Nat.reduceEqDiff, reduceIte, Nat.reduceAdd, Nat.reduceSub, Nat.reduceLT, Nat.reduceMul, reduceCtorEq, Int.reduceToNat, Int.reduceLE, Int.reduceLT, Nat.reduceLeDiff])
          refine hold2 ?_
          exact loop_n (k15, iadd .i64 v13 1, l14 ++ r20.1) hP (Nat.lt_succ_self _) (Sub.of _ _ [0, 1] (by decide) (by first | rfl | (simp only [List.length_set, List.length_replicate]; rfl)) (by simp only [List.length_set, List.length_replicate, List.forall_mem_cons, List.not_mem_nil, false_implies, implies_true, and_true, go_sem, Nat.reduceEqDiff, reduceIte, Nat.reduceAdd, Nat.reduceSub, Nat.reduceLT, Nat.reduceMul, reduceCtorEq, Int.reduceToNat, Int.reduceLE, Int.reduceLT, Nat.reduceLeDiff, ren, ren2, ren1]; (try (first | done | rfl | (repeat' apply And.intro) <;> first | rfl | omega))))
      · refine condV_f hc ?_
        refine J_exit (then_exit (loop_exit (block_eq ?_)))
        exact join_n l14 (Option.some.inj hP) (Sub.of _ _ [0] (by decide) (by first | rfl | (simp only [List.length_set, List.length_replicate]; rfl)) (by simp only [List.length_set, List.length_replicate, List.forall_mem_cons, List.not_mem_nil, false_implies, implies_true, and_true, go_sem, Nat.reduceEqDiff, reduceIte, Nat.reduceAdd, Nat.reduceSub, Nat.reduceLT, Nat.reduceMul, reduceCtorEq, Int.reduceToNat, Int.reduceLE, Int.reduceLT, Nat.reduceLeDiff, ren, ren2, ren1]; (try (first | done | rfl | (repeat' apply And.intro) <;> first | rfl | omega))))
  · intro j23 hs
    subst hs
    have hP := hQ18
    dsimp only at hP
    clear hQ18
    refine then_n ?_
    refine J_seq ?_
    refine J_region (by kernel_rfl) ?_
    (try simp only [go_sem, Nat.reduceEqDiff, reduceIte, Nat.reduceAdd, Nat.reduceSub, Nat.reduceLT, Nat.reduceMul, reduceCtorEq, Int.reduceToNat, Int.reduceLE, Int.reduceLT, Nat.reduceLeDiff])
    refine hold2 (then_n ?_)
    refine J_ret (fin_ret ?_)
    obtain rfl := Option.some.inj hP
    (try simp only [go_sem, Nat.reduceEqDiff, reduceIte, Nat.reduceAdd, Nat.reduceSub, Nat.reduceLT, Nat.reduceMul, reduceCtorEq, Int.reduceToNat, Int.reduceLE, Int.reduceLT, Nat.reduceLeDiff])
    refine fin_of [0] (by decide) ?_ ?_ <;> first | rfl | simp only [List.length_set, List.length_replicate, ren, ren2, ren1, renH, renO, go_sem, Nat.reduceEqDiff, reduceIte, Nat.reduceAdd, Nat.reduceSub, Nat.reduceLT, Nat.reduceMul, reduceCtorEq, Int.reduceToNat, Int.reduceLE, Int.reduceLT, Nat.reduceLeDiff]
end Go.Proofs.YtcikflhenbpdiaaDoor
