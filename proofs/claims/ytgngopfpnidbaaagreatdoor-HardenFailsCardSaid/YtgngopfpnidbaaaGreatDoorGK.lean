/- Functions of the program, and pure ones that go the same ways: that the program's return what these compute. -/
import Derived.Test.YtgngopfpnidbaaaGreatDoorGCa
import Derived.Test.YtgngopfpnidbaaaGreatDoorAvY
import Derived.Test.YtgngopfpnidbaaaGreatDoorAvJ
namespace Go.Proofs.YtgngopfpnidbaaaGreatDoor
open Go.Av
set_option linter.unusedVariables false
set_option linter.unusedSimpArgs false
/-- colander/harden.hop -/
def harden_hop_L19 (r4 : (List (List UInt8)) × Int) : Nat → Int → (List (List UInt8)) → Option ((List (List UInt8)))
  | 0, _, _ => none
  | k16 + 1, v14, l15 =>
    if decide (v14 < ((List.length r4.1 : Nat) : Int)) then
      (ixL r4.1 v14).bind fun x20 =>
      (lex_Same x20 [104, 111, 115, 116]).bind fun r21 =>
      if !r21 then
        (szC (List.length (l15 ++ [x20] : List (List UInt8)))).bind fun _ =>
        harden_hop_L19 r4 k16 (iadd .i64 v14 1) (l15 ++ [x20])
      else
        harden_hop_L19 r4 k16 (iadd .i64 v14 1) l15
    else
      some l15
def harden_hop (l1 : List ((List UInt8) × (List UInt8))) (more2 : List (List UInt8)) : Option ((List (List UInt8))) :=
  (szC (List.length ([[67, 111, 110, 110, 101, 99, 116, 105, 111, 110], [75, 101, 101, 112, 45, 65, 108, 105, 118, 101], [80, 114, 111, 120, 121, 45, 67, 111, 110, 110, 101, 99, 116, 105, 111, 110], [84, 69], [84, 114, 97, 105, 108, 101, 114], [84, 114, 97, 110, 115, 102, 101, 114, 45, 69, 110, 99, 111, 100, 105, 110, 103], [85, 112, 103, 114, 97, 100, 101], [67, 111, 110, 116, 101, 110, 116, 45, 76, 101, 110, 103, 116, 104]] ++ more2 : List (List UInt8)))).bind fun _ =>
  (fields_Members l1 [99, 111, 110, 110, 101, 99, 116, 105, 111, 110]).bind fun r4 =>
  (harden_hop_L19 r4 1099511627776 0 ([[67, 111, 110, 110, 101, 99, 116, 105, 111, 110], [75, 101, 101, 112, 45, 65, 108, 105, 118, 101], [80, 114, 111, 120, 121, 45, 67, 111, 110, 110, 101, 99, 116, 105, 111, 110], [84, 69], [84, 114, 97, 105, 108, 101, 114], [84, 114, 97, 110, 115, 102, 101, 114, 45, 69, 110, 99, 111, 100, 105, 110, 103], [85, 112, 103, 114, 97, 100, 101], [67, 111, 110, 116, 101, 110, 116, 45, 76, 101, 110, 103, 116, 104]] ++ more2)).bind fun j24 =>
    some j24
set_option maxRecDepth 100000 in
set_option maxHeartbeats 40000000 in
theorem harden_hop_ok {l1 : List ((List UInt8) × (List UInt8))} {more2 : List (List UInt8)} {r : (List (List UInt8))} (hP : harden_hop l1 more2 = some r) : CallOK Tryz.prog 48 [.view 2 (List.map enc_api_Field l1), .view 1 (List.map encS more2)] (.own 0 0 0 (List.length r)) [.slice 0 9 1 (List.map encS r)] := by
  unfold harden_hop at hP
  refine co 33 [.tmp 4] Tryz.func48 ?_
  refine J_seq ?_
  refine J_region (by kernel_rfl) ?_
  (try simp only [go_sem, Nat.reduceEqDiff, reduceIte])
  refine hold2 (then_n ?_)
  refine J_seq ?_
  refine J_region (by kernel_rfl) ?_
  (try simp only [go_sem, Nat.reduceEqDiff, reduceIte])
  obtain ⟨_, hz3, hP⟩ := bind_cases hP
  refine app_own (f := encS) ([[67, 111, 110, 110, 101, 99, 116, 105, 111, 110], [75, 101, 101, 112, 45, 65, 108, 105, 118, 101], [80, 114, 111, 120, 121, 45, 67, 111, 110, 110, 101, 99, 116, 105, 111, 110], [84, 69], [84, 114, 97, 105, 108, 101, 114], [84, 114, 97, 110, 115, 102, 101, 114, 45, 69, 110, 99, 111, 100, 105, 110, 103], [85, 112, 103, 114, 97, 100, 101], [67, 111, 110, 116, 101, 110, 116, 45, 76, 101, 110, 103, 116, 104]] : List (List UInt8)) (more2 : List (List UInt8)) rfl tyS_61 (by decide) (by simp only [go_sem, Nat.reduceEqDiff, reduceIte]; first | done | rfl | exact ⟨rfl, rfl⟩) hz3 ?_
  (try simp only [go_sem, Nat.reduceEqDiff, reduceIte])
  refine hold2 (then_n ?_)
  refine J_seq ?_
  refine J_region (by kernel_rfl) ?_
  (try simp only [go_sem, Nat.reduceEqDiff, reduceIte])
  obtain ⟨r4, hr4, hP⟩ := bind_cases hP
  refine call_ok [.view 2 (List.map enc_api_Field l1), .str [99, 111, 110, 110, 101, 99, 116, 105, 111, 110]] (fields_Members_ok hr4) ⟨argR_m false rfl, argR_m false rfl, trivial⟩ ?_
  (try simp only [go_sem, Nat.reduceEqDiff, reduceIte])
  refine hold2 (then_n ?_)
  refine J_seq ?_
  refine J_seq ?_
  refine J_region (by kernel_rfl) ?_
  (try simp only [go_sem, Nat.reduceEqDiff, reduceIte])
  refine hold2 (then_n ?_)
  obtain ⟨o23, hP, hQ19⟩ := bind_cases hP
  refine J_joinK (fun (s : (List (List UInt8))) => envL [(5, .own 0 0 0 (List.length s))]) (fun (s : (List (List UInt8))) => [.slice 0 9 1 (List.map encS s)]) (fun s => s = o23) (by repeat (first | exact subC_then | refine subC_block ?_)) ?_ ?_
  · clear hQ19
    refine J_block ?_
    refine J_loop (σ := Nat × Int × (List (List UInt8))) (fun (s : Nat × Int × (List (List UInt8))) => envL [(5, .own 0 0 0 (List.length s.2.2)), (18, .own 1 0 0 (List.length r4.1)), (19, .int .i64 ((List.length r4.1 : Nat) : Int)), (20, .int .i64 s.2.1)]) (fun (s : Nat × Int × (List (List UInt8))) => [.slice 0 9 1 (List.map encS s.2.2), .slice 0 9 1 (List.map encS r4.1)]) (fun s => harden_hop_L19 r4 s.1 s.2.1 s.2.2 = some o23) (fun s => s.1) (1099511627776, 0, [[67, 111, 110, 110, 101, 99, 116, 105, 111, 110], [75, 101, 101, 112, 45, 65, 108, 105, 118, 101], [80, 114, 111, 120, 121, 45, 67, 111, 110, 110, 101, 99, 116, 105, 111, 110], [84, 69], [84, 114, 97, 105, 108, 101, 114], [84, 114, 97, 110, 115, 102, 101, 114, 45, 69, 110, 99, 111, 100, 105, 110, 103], [85, 112, 103, 114, 97, 100, 101], [67, 111, 110, 116, 101, 110, 116, 45, 76, 101, 110, 103, 116, 104]] ++ more2) hP (so [1, 2]) ?_
    rintro ⟨k16, v14, l15⟩ hP
    dsimp only at hP ⊢
    cases k16 with
    | zero => simp [harden_hop_L19] at hP
    | succ k16 =>
      simp only [harden_hop_L19] at hP
      refine J_seq ?_
      refine J_region (by kernel_rfl) ?_
      (try simp only [go_sem, Nat.reduceEqDiff, reduceIte])
      refine hold2 (then_n ?_)
      refine J_seq ?_
      refine J_condV rfl ?_
      (try simp only [go_sem, Nat.reduceEqDiff, reduceIte])
      rcases ite_cases hP with ⟨hc, hP⟩ | ⟨hc, hP⟩
      · refine condV_t hc ?_
        refine J_skip (then_n ?_)
        refine J_seq ?_
        refine J_block ?_
        refine J_seq ?_
        refine J_region (by kernel_rfl) ?_
        (try simp only [go_sem, Nat.reduceEqDiff, reduceIte])
        obtain ⟨x20, hx20, hP⟩ := bind_cases hP
        refine ixO_of hx20 ?_
        (try simp only [go_sem, Nat.reduceEqDiff, reduceIte])
        refine getK_of (f := encS) hx20 ?_
        (try simp only [go_sem, Nat.reduceEqDiff, reduceIte])
        refine hold2 (then_n ?_)
        refine J_seq ?_
        refine J_region (by kernel_rfl) ?_
        (try simp only [go_sem, Nat.reduceEqDiff, reduceIte])
        obtain ⟨r21, hr21, hP⟩ := bind_cases hP
        refine call_ok [.str x20, .str [104, 111, 115, 116]] (lex_Same_ok hr21) ⟨argR_m false rfl, argR_m false rfl, trivial⟩ ?_
        (try simp only [go_sem, Nat.reduceEqDiff, reduceIte])
        refine hold2 (then_n ?_)
        refine J_condV rfl ?_
        (try simp only [go_sem, Nat.reduceEqDiff, reduceIte])
        rcases ite_cases hP with ⟨hc, hP⟩ | ⟨hc, hP⟩
        · refine condV_t hc ?_
          refine J_region (by kernel_rfl) ?_
          (try simp only [go_sem, Nat.reduceEqDiff, reduceIte])
          obtain ⟨_, hz22, hP⟩ := bind_cases hP
          refine app_own (f := encS) (l15 : List (List UInt8)) ([x20] : List (List UInt8)) rfl tyS_61 (by decide) (by simp only [go_sem, Nat.reduceEqDiff, reduceIte]; first | done | rfl | exact ⟨rfl, rfl⟩) hz22 ?_
          (try simp only [go_sem, Nat.reduceEqDiff, reduceIte])
          refine hold2 (block_n (then_n ?_))
          refine J_region (by kernel_rfl) ?_
          (try simp only [go_sem, Nat.reduceEqDiff, reduceIte])
          refine hold2 ?_
          exact loop_n (k16, iadd .i64 v14 1, l15 ++ [x20]) hP (Nat.lt_succ_self _) (so [0, 1])
        · refine condV_f hc ?_
          refine J_skip (block_n (then_n ?_))
          refine J_region (by kernel_rfl) ?_
          (try simp only [go_sem, Nat.reduceEqDiff, reduceIte])
          refine hold2 ?_
          exact loop_n (k16, iadd .i64 v14 1, l15) hP (Nat.lt_succ_self _) (so [0, 1])
      · refine condV_f hc ?_
        refine J_exit (then_exit (loop_exit (block_eq ?_)))
        exact join_n l15 (Option.some.inj hP) (so [0])
  · intro j24 hs
    subst hs
    have hP := hQ19
    clear hQ19
    refine then_n ?_
    refine J_seq ?_
    refine J_region (by kernel_rfl) ?_
    (try simp only [go_sem, Nat.reduceEqDiff, reduceIte])
    refine hold2 (then_n ?_)
    refine J_ret (fin_ret ?_)
    obtain rfl := Option.some.inj hP
    (try simp only [go_sem, Nat.reduceEqDiff, reduceIte])
    exact fo [0]
/-- colander/harden.length -/
def harden_length (n1 : Int) : Option ((List ((List UInt8) × (List UInt8)))) :=
  if decide (n1 < 0) then
    some ([] : List ((List UInt8) × (List UInt8)))
  else
    (num_Digits n1).bind fun r2 =>
    some [([67, 111, 110, 116, 101, 110, 116, 45, 76, 101, 110, 103, 116, 104], r2)]
set_option maxRecDepth 100000 in
set_option maxHeartbeats 40000000 in
theorem harden_length_ok {n1 : Int} {r : (List ((List UInt8) × (List UInt8)))} (hP : harden_length n1 = some r) : CallOK Tryz.prog 49 [.int .i64 n1] (.own 0 0 0 (List.length r)) [.slice 0 37 2 (List.map enc_api_Field r)] := by
  unfold harden_length at hP
  refine co (hvo := (by first | (intro o ho; simp at ho; done) | (simp [vfO, AV.vf, AV.vfL, encB, encI, encS, encO, enc_api_Field, enc_api_Body, enc_api_Param, enc_api_Fault, enc_head_text]; done) | (simp [vfO, AV.vf, AV.vfL, encB, encI, encS, encO, enc_api_Field, enc_api_Body, enc_api_Param, enc_api_Fault, enc_head_text]; intros; subst_vars; simp [AV.vf, AV.vfL]))) 9 [.tmp 2] Tryz.func49 ?_
  refine J_seq ?_
  refine J_region (by kernel_rfl) ?_
  (try simp only [go_sem, Nat.reduceEqDiff, reduceIte])
  refine hold2 (then_n ?_)
  refine J_seq ?_
  refine J_seq ?_
  refine J_region (by kernel_rfl) ?_
  (try simp only [go_sem, Nat.reduceEqDiff, reduceIte])
  refine hold2 (then_n ?_)
  refine J_condV rfl ?_
  (try simp only [go_sem, Nat.reduceEqDiff, reduceIte])
  rcases ite_cases hP with ⟨hc, hP⟩ | ⟨hc, hP⟩
  · refine condV_t hc ?_
    refine J_seq ?_
    refine J_region (by kernel_rfl) ?_
    (try simp only [go_sem, Nat.reduceEqDiff, reduceIte])
    refine hold2 (then_n ?_)
    refine J_ret (then_ret (fin_ret ?_))
    obtain rfl := Option.some.inj hP
    (try simp only [go_sem, Nat.reduceEqDiff, reduceIte])
    exact fo [1]
  · refine condV_f hc ?_
    refine J_skip (then_n ?_)
    refine J_seq ?_
    refine J_region (by kernel_rfl) ?_
    (try simp only [go_sem, Nat.reduceEqDiff, reduceIte])
    obtain ⟨r2, hr2, hP⟩ := bind_cases hP
    refine call_ok [.int .i64 n1] (num_Digits_ok hr2) ⟨argR_m false rfl, trivial⟩ ?_
    (try simp only [go_sem, Nat.reduceEqDiff, reduceIte, Nat.reduceAdd, Nat.reduceSub, Nat.reduceLT, Nat.reduceMul, reduceCtorEq, Int.reduceToNat, Int.reduceLE, Int.reduceLT, Nat.reduceLeDiff])
    refine hold2 (then_n ?_)
    refine J_ret (fin_ret ?_)
    obtain rfl := Option.some.inj hP
    (try simp only [go_sem, Nat.reduceEqDiff, reduceIte])
    exact fo [1]
/-- colander/harden.Forward -/
def harden_Forward (q1 : (List UInt8) × (List UInt8) × (List ((List UInt8) × (List UInt8)))) (n2 : Int) : Option (((List UInt8) × (List UInt8) × (List ((List UInt8) × (List UInt8))))) :=
  (harden_hop q1.2.2 [[65, 99, 99, 101, 112, 116, 45, 69, 110, 99, 111, 100, 105, 110, 103], [69, 120, 112, 101, 99, 116]]).bind fun r3 =>
  (fields_Without q1.2.2 r3).bind fun r4 =>
  (harden_length n2).bind fun r5 =>
  (szC (List.length (r4 ++ r5 : List ((List UInt8) × (List UInt8))))).bind fun _ =>
  some (q1.1, q1.2.1, r4 ++ r5)
set_option maxRecDepth 100000 in
set_option maxHeartbeats 40000000 in
theorem harden_Forward_ok {q1 : (List UInt8) × (List UInt8) × (List ((List UInt8) × (List UInt8)))} {n2 : Int} {r : ((List UInt8) × (List UInt8) × (List ((List UInt8) × (List UInt8))))} (hP : harden_Forward q1 n2 = some r) : CallOK Tryz.prog 13 [.agg [.str q1.1, .str q1.2.1, .view 2 (List.map enc_api_Field q1.2.2)], .int .i64 n2] (.agg [.str r.1, .str r.2.1, .own 0 0 0 (List.length r.2.2)]) [.slice 0 37 2 (List.map enc_api_Field r.2.2)] := by
  unfold harden_Forward at hP
  refine co (hvo := (by first | (intro o ho; simp at ho; done) | (simp [vfO, AV.vf, AV.vfL, encB, encI, encS, encO, enc_api_Field, enc_api_Body, enc_api_Param, enc_api_Fault, enc_head_text]; done) | (simp [vfO, AV.vf, AV.vfL, encB, encI, encS, encO, enc_api_Field, enc_api_Body, enc_api_Param, enc_api_Fault, enc_head_text]; intros; subst_vars; simp [AV.vf, AV.vfL]))) 17 [.cell 4 31] Tryz.func13 ?_
  refine J_seq ?_
  refine J_region (by kernel_rfl) ?_
  (try simp only [go_sem, Nat.reduceEqDiff, reduceIte])
  refine hold2 (then_n ?_)
  refine J_prom 37 2 (by decide) 1 2 _ _ rfl rfl ?_
  (try simp only [go_sem, Nat.reduceEqDiff, reduceIte])
  refine J_seq ?_
  refine J_regionT [(0, none), (2, none), (7, none), (1, some [6, 8, 9, 10, 11]), (3, some [5, 6, 8, 9, 10, 11])] (.early 4 (.early 5 (.early 6 (.early 8 (.step 9 (.pure 10 (.step 11 (.done)))))))) [9, 11] [5, 6, 7, 8, 9, 10, 11, 12, 13, 14, 15] follows_mixed (by kernel_rfl) (by kernel_rfl) (by kernel_rfl) (by kernel_rfl) (by kernel_rfl) (by kernel_rfl) ?_
  simp only [pickT_cons, pickT_nil, go_sem, Nat.reduceEqDiff, reduceIte]
  (try simp only [go_sem, Nat.reduceEqDiff, reduceIte])
  obtain ⟨r3, hr3, hP⟩ := bind_cases hP
  refine callE_ok [.view 2 (List.map enc_api_Field q1.2.2), .view 1 (List.map encS [[65, 99, 99, 101, 112, 116, 45, 69, 110, 99, 111, 100, 105, 110, 103], [69, 120, 112, 101, 99, 116]])] (harden_hop_ok hr3) ⟨argR_m false rfl, argR_m false (by simp only [arg, go_sem, Nat.reduceEqDiff, reduceIte]), trivial⟩ ?_
  (try simp only [go_sem, Nat.reduceEqDiff, reduceIte])
  obtain ⟨r4, hr4, hP⟩ := bind_cases hP
  refine callE_ok [.view 2 (List.map enc_api_Field q1.2.2), .view 1 (List.map encS r3)] (fields_Without_ok hr4) ⟨argR_m false rfl, argR_m false (by simp only [arg, go_sem, Nat.reduceEqDiff, reduceIte]), trivial⟩ ?_
  (try simp only [go_sem, Nat.reduceEqDiff, reduceIte])
  obtain ⟨r5, hr5, hP⟩ := bind_cases hP
  refine callE_ok [.int .i64 n2] (harden_length_ok hr5) ⟨argR_m false rfl, trivial⟩ ?_
  (try simp only [go_sem, Nat.reduceEqDiff, reduceIte])
  obtain ⟨_, hz6, hP⟩ := bind_cases hP
  refine app_own (f := enc_api_Field) (r4 : List ((List UInt8) × (List UInt8))) (r5 : List ((List UInt8) × (List UInt8))) rfl tyS_22 (by decide) (by simp only [go_sem, Nat.reduceEqDiff, reduceIte]; first | done | rfl | exact ⟨rfl, rfl⟩) hz6 ?_
  (try simp only [go_sem, Nat.reduceEqDiff, reduceIte])
  refine hold2 (then_n ?_)
  refine J_seq ?_
  refine J_region (by kernel_rfl) ?_
  (try simp only [go_sem, Nat.reduceEqDiff, reduceIte])
  refine hold2 (then_n ?_)
  refine J_ret (fin_ret ?_)
  obtain rfl := Option.some.inj hP
  (try simp only [go_sem, Nat.reduceEqDiff, reduceIte])
  exact fo [5]
/-- colander/harden.Kind$1 -/
def harden_Kind_1 (s1 : List UInt8) : Option (Bool) :=
  (lex_Same s1 [105, 100, 101, 110, 116, 105, 116, 121]).bind fun r2 =>
  some (!r2)
set_option maxRecDepth 100000 in
set_option maxHeartbeats 40000000 in
theorem harden_Kind_1_ok {s1 : List UInt8} {r : Bool} (hP : harden_Kind_1 s1 = some r) : CallOK Tryz.prog 36 [.str s1] (.bool r) [] := by
  unfold harden_Kind_1 at hP
  refine co 6 [.tmp 2] Tryz.func36 ?_
  refine J_seq ?_
  refine J_region (by kernel_rfl) ?_
  (try simp only [go_sem, Nat.reduceEqDiff, reduceIte])
  refine hold2 (then_n ?_)
  refine J_seq ?_
  refine J_region (by kernel_rfl) ?_
  (try simp only [go_sem, Nat.reduceEqDiff, reduceIte])
  obtain ⟨r2, hr2, hP⟩ := bind_cases hP
  refine call_ok [.str s1, .str [105, 100, 101, 110, 116, 105, 116, 121]] (lex_Same_ok hr2) ⟨argR_m false rfl, argR_m false rfl, trivial⟩ ?_
  (try simp only [go_sem, Nat.reduceEqDiff, reduceIte])
  refine hold2 (then_n ?_)
  refine J_ret (fin_ret ?_)
  obtain rfl := Option.some.inj hP
  (try simp only [go_sem, Nat.reduceEqDiff, reduceIte])
  exact fo []
/-- colander/harden.Kind$2 -/
def harden_Kind_2 (x1 : (List UInt8) × (List UInt8)) : Option (Bool) :=
  some (decide (x1.1 = [99, 104, 97, 114, 115, 101, 116]))
set_option maxRecDepth 100000 in
set_option maxHeartbeats 40000000 in
theorem harden_Kind_2_ok {x1 : (List UInt8) × (List UInt8)} {r : Bool} (hP : harden_Kind_2 x1 = some r) : CallOK Tryz.prog 39 [.agg [.str x1.1, .str x1.2]] (.bool r) [] := by
  unfold harden_Kind_2 at hP
  refine co 6 [.tmp 2] Tryz.func39 ?_
  refine J_seq ?_
  refine J_region (by kernel_rfl) ?_
  (try simp only [go_sem, Nat.reduceEqDiff, reduceIte])
  refine hold2 (then_n ?_)
  refine J_seq ?_
  refine J_region (by kernel_rfl) ?_
  (try simp only [go_sem, Nat.reduceEqDiff, reduceIte])
  refine hold2 (then_n ?_)
  refine J_ret (fin_ret ?_)
  obtain rfl := Option.some.inj hP
  (try simp only [go_sem, Nat.reduceEqDiff, reduceIte])
  exact fo []
/-- colander/harden.Kind -/
def slices_IndexFunc_string_string_L104 (r11 : (List (List UInt8)) × Int) : Nat → Int → Option (Sum (Int) (Unit))
  | 0, _ => none
  | k102 + 1, v101 =>
    if decide (v101 < ((List.length r11.1 : Nat) : Int)) then
      (ixL r11.1 v101).bind fun x105 =>
      (harden_Kind_1 x105).bind fun r106 =>
      if r106 then
        some (Sum.inl v101)
      else
        slices_IndexFunc_string_string_L104 r11 k102 (iadd .i64 v101 1)
    else
      some (Sum.inr ())
def slices_IndexFunc_api_Param_api_Param_L131 (r4 : ((List UInt8) × (List UInt8) × (List ((List UInt8) × (List UInt8)))) × Int) : Nat → Int → Option (Sum (Int) (Unit))
  | 0, _ => none
  | k129 + 1, v128 =>
    if decide (v128 < ((List.length r4.1.2.2 : Nat) : Int)) then
      (ixL r4.1.2.2 v128).bind fun x132 =>
      (harden_Kind_2 (x132.1, x132.2)).bind fun r133 =>
      if r133 then
        some (Sum.inl v128)
      else
        slices_IndexFunc_api_Param_api_Param_L131 r4 k129 (iadd .i64 v128 1)
    else
      some (Sum.inr ())
def harden_Kind (p1 : Int × (List UInt8) × (List ((List UInt8) × (List UInt8)))) : Option (Bool × (List UInt8) × Int) :=
  (fields_All p1.2.2 [99, 111, 110, 116, 101, 110, 116, 45, 116, 121, 112, 101]).bind fun r2 =>
  if decide (((List.length r2 : Nat) : Int) = 0) then
    some (false, [], 0)
  else
    (ixL r2 0).bind fun x3 =>
    (lex_Media x3).bind fun r4 =>
    (show Option (Bool) from
      if decide (1 < ((List.length r2 : Nat) : Int)) then
        some true
      else
        if !decide (r4.2 = 0) then
          some true
        else
          if decide (r4.1.2.1 = [120, 109, 108]) then
            some true
          else
            (strings_HasSuffix r4.1.2.1 [43, 120, 109, 108]).bind fun r7 =>
            some r7).bind fun j8 =>
      if j8 then
        some (false, [], 6)
      else
        (show Option (Bool) from
          if !decide (r4.1.1 = [116, 101, 120, 116]) then
            some true
          else
            some (!decide (r4.1.2.1 = [104, 116, 109, 108]))).bind fun j10 =>
          if j10 then
            some (false, [], 0)
          else
            (fields_Members p1.2.2 [99, 111, 110, 116, 101, 110, 116, 45, 101, 110, 99, 111, 100, 105, 110, 103]).bind fun r11 =>
            (show Option (Bool) from
              if !decide (r11.2 = 0) then
                some true
              else
                (show Option (Bool) from
                  (show Option (Int) from
                    (slices_IndexFunc_string_string_L104 r11 1099511627776 0).bind fun o107 => match o107 with
                    | Sum.inl r => some r
                    | Sum.inr j108 =>
                      some (-1)).bind fun a109 =>
                    some (decide (0 ≤ a109))).bind fun a111 =>
                  some a111).bind fun j113 =>
              if j113 then
                some (false, [], 25)
              else
                (show Option (Int) from
                  (slices_IndexFunc_api_Param_api_Param_L131 r4 1099511627776 0).bind fun o134 => match o134 with
                  | Sum.inl r => some r
                  | Sum.inr j135 =>
                    some (-1)).bind fun a136 =>
                  if decide (0 ≤ a136) then
                    (ixL r4.1.2.2 a136).bind fun x138 =>
                    some (true, x138.2, 0)
                  else
                    some (true, [], 0)
set_option maxRecDepth 100000 in
set_option maxHeartbeats 40000000 in
theorem harden_Kind_ok {p1 : Int × (List UInt8) × (List ((List UInt8) × (List UInt8)))} {r : Bool × (List UInt8) × Int} (hP : harden_Kind p1 = some r) : CallOK Tryz.prog 9 [.agg [.int .i64 p1.1, .str p1.2.1, .view 2 (List.map enc_api_Field p1.2.2)]] (.tup [.bool r.1, .str r.2.1, .int .i64 r.2.2]) [] := by
  unfold harden_Kind at hP
  refine co 71 [.tmp 2, .tmp 3, .tmp 4] Tryz.func9 ?_
  refine J_seq ?_
  refine J_region (by kernel_rfl) ?_
  (try simp only [go_sem, Nat.reduceEqDiff, reduceIte])
  refine hold2 (then_n ?_)
  refine J_seq ?_
  refine J_region (by kernel_rfl) ?_
  (try simp only [go_sem, Nat.reduceEqDiff, reduceIte])
  obtain ⟨r2, hr2, hP⟩ := bind_cases hP
  refine call_ok [.view 2 (List.map enc_api_Field p1.2.2), .str [99, 111, 110, 116, 101, 110, 116, 45, 116, 121, 112, 101]] (fields_All_ok hr2) ⟨argR_m false rfl, argR_m false rfl, trivial⟩ ?_
  (try simp only [go_sem, Nat.reduceEqDiff, reduceIte])
  refine hold2 (then_n ?_)
  refine J_seq ?_
  refine J_seq ?_
  refine J_region (by kernel_rfl) ?_
  (try simp only [go_sem, Nat.reduceEqDiff, reduceIte])
  refine hold2 (then_n ?_)
  refine J_condV rfl ?_
  (try simp only [go_sem, Nat.reduceEqDiff, reduceIte])
  rcases ite_cases hP with ⟨hc, hP⟩ | ⟨hc, hP⟩
  · refine condV_t hc ?_
    refine J_seq ?_
    refine J_region (by kernel_rfl) ?_
    (try simp only [go_sem, Nat.reduceEqDiff, reduceIte])
    refine hold2 (then_n ?_)
    refine J_ret (then_ret (fin_ret ?_))
    obtain rfl := Option.some.inj hP
    (try simp only [go_sem, Nat.reduceEqDiff, reduceIte])
    exact fo []
  · refine condV_f hc ?_
    refine J_skip (then_n ?_)
    refine J_seq ?_
    refine J_region (by kernel_rfl) ?_
    (try simp only [go_sem, Nat.reduceEqDiff, reduceIte])
    obtain ⟨x3, hx3, hP⟩ := bind_cases hP
    refine ixO_of hx3 ?_
    (try simp only [go_sem, Nat.reduceEqDiff, reduceIte])
    refine getK_of (f := encS) hx3 ?_
    (try simp only [go_sem, Nat.reduceEqDiff, reduceIte])
    obtain ⟨r4, hr4, hP⟩ := bind_cases hP
    refine call_ok [.str x3] (lex_Media_ok hr4) ⟨argR_m false rfl, trivial⟩ ?_
    (try simp only [go_sem, Nat.reduceEqDiff, reduceIte])
    refine hold2 (then_n ?_)
    refine J_seq ?_
    obtain ⟨o6, hP, hQ6⟩ := bind_cases hP
    refine J_join (fun (s : Bool) => envL [(1, .bptr 0 0), (6, .bptr 1 0), (39, .bool s)]) (fun (s : Bool) => [.box 24 [.int .i64 p1.1, .str p1.2.1, .view 2 (List.map enc_api_Field p1.2.2)], .box 65 [.str r4.1.1, .str r4.1.2.1, .own 2 0 0 (List.length r4.1.2.2)], .slice 0 74 2 (List.map enc_api_Param r4.1.2.2)]) (fun s => s = o6) ?_ ?_
    · clear hQ6
      refine J_region (by kernel_rfl) ?_
      (try simp only [go_sem, Nat.reduceEqDiff, reduceIte])
      rcases ite_cases hP with ⟨hc, hP⟩ | ⟨hc, hP⟩
      · refine guard_not hc ?_
        (try simp only [go_sem, Nat.reduceEqDiff, reduceIte])
        refine hold2 ?_
        exact join_n true (Option.some.inj hP) (so [0, 3, 2])
      · refine guard_is hc ?_
        (try simp only [go_sem, Nat.reduceEqDiff, reduceIte])
        rcases ite_cases hP with ⟨hc, hP⟩ | ⟨hc, hP⟩
        · refine guard_not hc ?_
          (try simp only [go_sem, Nat.reduceEqDiff, reduceIte])
          refine hold2 ?_
          exact join_n true (Option.some.inj hP) (so [0, 3, 2])
        · refine guard_is hc ?_
          (try simp only [go_sem, Nat.reduceEqDiff, reduceIte])
          rcases ite_cases hP with ⟨hc, hP⟩ | ⟨hc, hP⟩
          · refine guard_not hc ?_
            (try simp only [go_sem, Nat.reduceEqDiff, reduceIte])
            refine hold2 ?_
            exact join_n true (Option.some.inj hP) (so [0, 3, 2])
          · refine guard_is hc ?_
            (try simp only [go_sem, Nat.reduceEqDiff, reduceIte])
            obtain ⟨r7, hr7, hP⟩ := bind_cases hP
            refine call_ok [.str r4.1.2.1, .str [43, 120, 109, 108]] (strings_HasSuffix_ok hr7) ⟨argR_m false rfl, argR_m false rfl, trivial⟩ ?_
            (try simp only [go_sem, Nat.reduceEqDiff, reduceIte])
            refine hold2 ?_
            exact join_n r7 (Option.some.inj hP) (so [0, 3, 2])
    · intro j8 hs
      subst hs
      have hP := hQ6
      clear hQ6
      refine J_condV rfl ?_
      (try simp only [go_sem, Nat.reduceEqDiff, reduceIte])
      rcases ite_cases hP with ⟨hc, hP⟩ | ⟨hc, hP⟩
      · refine condV_t hc ?_
        refine J_seq ?_
        refine J_region (by kernel_rfl) ?_
        (try simp only [go_sem, Nat.reduceEqDiff, reduceIte])
        refine hold2 (then_n ?_)
        refine J_ret (then_ret (fin_ret ?_))
        obtain rfl := Option.some.inj hP
        (try simp only [go_sem, Nat.reduceEqDiff, reduceIte])
        exact fo []
      · refine condV_f hc ?_
        refine J_skip (then_n ?_)
        refine J_seq ?_
        obtain ⟨o9, hP, hQ9⟩ := bind_cases hP
        refine J_join (fun (s : Bool) => envL [(1, .bptr 0 0), (6, .bptr 1 0), (47, .bool s)]) (fun (s : Bool) => [.box 24 [.int .i64 p1.1, .str p1.2.1, .view 2 (List.map enc_api_Field p1.2.2)], .box 65 [.str r4.1.1, .str r4.1.2.1, .own 2 0 0 (List.length r4.1.2.2)], .slice 0 74 2 (List.map enc_api_Param r4.1.2.2)]) (fun s => s = o9) ?_ ?_
        · clear hQ9
          refine J_region (by kernel_rfl) ?_
          (try simp only [go_sem, Nat.reduceEqDiff, reduceIte])
          rcases ite_cases hP with ⟨hc, hP⟩ | ⟨hc, hP⟩
          · refine guard_not hc ?_
            (try simp only [go_sem, Nat.reduceEqDiff, reduceIte])
            refine hold2 ?_
            exact join_n true (Option.some.inj hP) (so [0, 1, 2])
          · refine guard_is hc ?_
            (try simp only [go_sem, Nat.reduceEqDiff, reduceIte])
            refine hold2 ?_
            exact join_n (!decide (r4.1.2.1 = [104, 116, 109, 108])) (Option.some.inj hP) (so [0, 1, 2])
        · intro j10 hs
          subst hs
          have hP := hQ9
          clear hQ9
          refine J_condV rfl ?_
          (try simp only [go_sem, Nat.reduceEqDiff, reduceIte])
          rcases ite_cases hP with ⟨hc, hP⟩ | ⟨hc, hP⟩
          · refine condV_t hc ?_
            refine J_seq ?_
            refine J_region (by kernel_rfl) ?_
            (try simp only [go_sem, Nat.reduceEqDiff, reduceIte])
            refine hold2 (then_n ?_)
            refine J_ret (then_ret (fin_ret ?_))
            obtain rfl := Option.some.inj hP
            (try simp only [go_sem, Nat.reduceEqDiff, reduceIte])
            exact fo []
          · refine condV_f hc ?_
            refine J_skip (then_n ?_)
            refine J_seq ?_
            refine J_region (by kernel_rfl) ?_
            (try simp only [go_sem, Nat.reduceEqDiff, reduceIte])
            obtain ⟨r11, hr11, hP⟩ := bind_cases hP
            refine call_ok [.view 2 (List.map enc_api_Field p1.2.2), .str [99, 111, 110, 116, 101, 110, 116, 45, 101, 110, 99, 111, 100, 105, 110, 103]] (fields_Members_ok hr11) ⟨argR_m false rfl, argR_m false rfl, trivial⟩ ?_
            (try simp only [go_sem, Nat.reduceEqDiff, reduceIte])
            refine hold2 (then_n ?_)
            refine J_seq ?_
            obtain ⟨o62, hP, hQ62⟩ := bind_cases hP
            refine J_join (fun (s : Bool) => envL [(6, .bptr 0 0), (59, .bool s)]) (fun (s : Bool) => [.box 65 [.str r4.1.1, .str r4.1.2.1, .own 1 0 0 (List.length r4.1.2.2)], .slice 0 74 2 (List.map enc_api_Param r4.1.2.2)]) (fun s => s = o62) ?_ ?_
            · clear hQ62
              refine J_region (by kernel_rfl) ?_
              (try simp only [go_sem, Nat.reduceEqDiff, reduceIte])
              rcases ite_cases hP with ⟨hc, hP⟩ | ⟨hc, hP⟩
              · refine guard_not hc ?_
                (try simp only [go_sem, Nat.reduceEqDiff, reduceIte])
                refine hold2 ?_
                exact join_n true (Option.some.inj hP) (so [1, 2])
              · refine guard_is hc ?_
                (try simp only [go_sem, Nat.reduceEqDiff, reduceIte])
                obtain ⟨o112, hP, hQ111⟩ := bind_cases hP
                refine call_join (fun (s : Bool) => .bool s) (fun (s : Bool) => envL [(6, .bptr 0 0), (56, .bool false)]) (fun (s : Bool) => [.box 65 [.str r4.1.1, .str r4.1.2.1, .own 1 0 0 (List.length r4.1.2.2)], .slice 0 74 2 (List.map enc_api_Param r4.1.2.2)]) (fun s => s = o112) (callI_of (n := 9) (rs := [.tmp 4]) Tryz.func35 rfl (by decide) rfl rfl (by simp) rfl ?_) ?_
                · clear hQ111
                  refine J_seq ?_
                  refine J_region (by kernel_rfl) ?_
                  (try simp only [go_sem, Nat.reduceEqDiff, reduceIte])
                  refine hold2 (then_n ?_)
                  refine J_seq ?_
                  refine J_region (by kernel_rfl) ?_
                  (try simp only [go_sem, Nat.reduceEqDiff, reduceIte])
                  obtain ⟨o110, hP, hQ109⟩ := bind_cases hP
                  refine call_join (fun (s : Int) => .int .i64 s) (fun (s : Int) => envL [(4, .bool false), (15, .bptr 0 0), (65, .bool false)]) (fun (s : Int) => [.box 65 [.str r4.1.1, .str r4.1.2.1, .own 1 0 0 (List.length r4.1.2.2)], .slice 0 74 2 (List.map enc_api_Param r4.1.2.2)]) (fun s => s = o110) (callI_of (n := 19) (rs := [.tmp 4]) Tryz.func84 rfl (by decide) rfl rfl (by simp) rfl ?_) ?_
                  · clear hQ109
                    refine J_seq ?_
                    refine J_region (by kernel_rfl) ?_
                    (try simp only [go_sem, Nat.reduceEqDiff, reduceIte])
                    refine hold2 (then_n ?_)
                    refine J_seq ?_
                    refine J_seq ?_
                    refine J_region (by kernel_rfl) ?_
                    (try simp only [go_sem, Nat.reduceEqDiff, reduceIte, Nat.reduceAdd, Nat.reduceSub, Nat.reduceLT, Nat.reduceMul, reduceCtorEq, Int.reduceToNat, Int.reduceLE, Int.reduceLT, Nat.reduceLeDiff])
                    refine hold2 (then_n ?_)
                    obtain ⟨o107, hP, hQ104⟩ := bind_cases hP
                    refine J_joinK (fun (s : Unit) => envL [(23, .bool false), (34, .bptr 0 0), (84, .bool false)]) (fun (s : Unit) => [.box 65 [.str r4.1.1, .str r4.1.2.1, .own 1 0 0 (List.length r4.1.2.2)], .slice 0 74 2 (List.map enc_api_Param r4.1.2.2)]) (fun s => Sum.inr s = o107) (by repeat (first | exact subC_then | refine subC_block ?_)) ?_ ?_
                    · refine J_block ?_
                      refine J_loop (σ := Nat × Int) (fun (s : Nat × Int) => envL [(0, .own 0 0 0 (List.length r11.1)), (1, .fn 36 []), (7, .int .i64 ((List.length r11.1 : Nat) : Int)), (8, .int .i64 s.2), (23, .bool false), (34, .bptr 1 0), (84, .bool false)]) (fun (s : Nat × Int) => [.slice 0 9 1 (List.map encS r11.1), .box 65 [.str r4.1.1, .str r4.1.2.1, .own 2 0 0 (List.length r4.1.2.2)], .slice 0 74 2 (List.map enc_api_Param r4.1.2.2)]) (fun s => slices_IndexFunc_string_string_L104 r11 s.1 s.2 = some o107) (fun s => s.1) (1099511627776, 0) hP (so [3, 1, 2]) ?_
                      rintro ⟨k102, v101⟩ hP
                      dsimp only at hP ⊢
                      cases k102 with
                      | zero => simp [slices_IndexFunc_string_string_L104] at hP
                      | succ k102 =>
                        simp only [slices_IndexFunc_string_string_L104] at hP
                        refine J_seq ?_
                        refine J_region (by kernel_rfl) ?_
                        (try simp only [go_sem, Nat.reduceEqDiff, reduceIte])
                        refine hold2 (then_n ?_)
                        refine J_seq ?_
                        refine J_condV rfl ?_
                        (try simp only [go_sem, Nat.reduceEqDiff, reduceIte])
                        rcases ite_cases hP with ⟨hc, hP⟩ | ⟨hc, hP⟩
                        · refine condV_t hc ?_
                          refine J_skip (then_n ?_)
                          refine J_seq ?_
                          refine J_block ?_
                          refine J_seq ?_
                          refine J_region (by kernel_rfl) ?_
                          (try simp only [go_sem, Nat.reduceEqDiff, reduceIte])
                          refine hold2 (then_n ?_)
                          refine J_seq ?_
                          refine J_region (by kernel_rfl) ?_
                          (try simp only [go_sem, Nat.reduceEqDiff, reduceIte])
                          obtain ⟨x105, hx105, hP⟩ := bind_cases hP
                          refine ixO_of hx105 ?_
                          (try simp only [go_sem, Nat.reduceEqDiff, reduceIte])
                          refine getK_of (f := encS) hx105 ?_
                          (try simp only [go_sem, Nat.reduceEqDiff, reduceIte])
                          obtain ⟨r106, hr106, hP⟩ := bind_cases hP
                          refine call_ok [.str x105] (harden_Kind_1_ok hr106) ⟨argR_m false rfl, trivial⟩ ?_
                          (try simp only [go_sem, Nat.reduceEqDiff, reduceIte])
                          refine hold2 (then_n ?_)
                          refine J_condV rfl ?_
                          (try simp only [go_sem, Nat.reduceEqDiff, reduceIte])
                          rcases ite_cases hP with ⟨hc, hP⟩ | ⟨hc, hP⟩
                          · refine condV_t hc ?_
                            refine J_seq ?_
                            refine J_region (by kernel_rfl) ?_
                            (try simp only [go_sem, Nat.reduceEqDiff, reduceIte])
                            refine hold2 (then_n ?_)
                            refine J_ret (block_ret (then_ret (loop_ret (block_ret (join_ret (then_ret (finI_ret ?_)))))))
                            obtain rfl := Option.some.inj hP
                            have hP := hQ104
                            dsimp only at hP
                            exact told_of ⟨v101, Option.some.inj hP, sr [1, 2]⟩
                          · refine condV_f hc ?_
                            refine J_skip (block_n (then_n ?_))
                            refine J_region (by kernel_rfl) ?_
                            (try simp only [go_sem, Nat.reduceEqDiff, reduceIte])
                            refine hold2 ?_
                            exact loop_n (k102, iadd .i64 v101 1) hP (Nat.lt_succ_self _) (so [0, 1, 2])
                        · refine condV_f hc ?_
                          refine J_exit (then_exit (loop_exit (block_eq ?_)))
                          exact join_n () (Option.some.inj hP) (so [1, 2])
                    · intro j108 hs
                      subst hs
                      have hP := hQ104
                      dsimp only at hP
                      clear hQ104
                      refine then_n ?_
                      refine J_seq ?_
                      refine J_region (by kernel_rfl) ?_
                      (try simp only [go_sem, Nat.reduceEqDiff, reduceIte])
                      refine hold2 (then_n ?_)
                      refine J_ret (finI_ret ?_)
                      exact told_of ⟨(-1), Option.some.inj hP, sr [0, 1]⟩
                  · intro a109 hs
                    subst hs
                    have hP := hQ109
                    clear hQ109
                    (try simp only [go_sem, Nat.reduceEqDiff, reduceIte])
                    refine hold2 (then_n ?_)
                    refine J_ret (finI_ret ?_)
                    exact told_of ⟨(decide (0 ≤ a109)), Option.some.inj hP, sr [0, 1]⟩
                · intro a111 hs
                  subst hs
                  have hP := hQ111
                  clear hQ111
                  (try simp only [go_sem, Nat.reduceEqDiff, reduceIte])
                  refine hold2 ?_
                  exact join_n a111 (Option.some.inj hP) (so [0, 1])
            · intro j113 hs
              subst hs
              have hP := hQ62
              clear hQ62
              refine J_condV rfl ?_
              (try simp only [go_sem, Nat.reduceEqDiff, reduceIte])
              rcases ite_cases hP with ⟨hc, hP⟩ | ⟨hc, hP⟩
              · refine condV_t hc ?_
                refine J_seq ?_
                refine J_region (by kernel_rfl) ?_
                (try simp only [go_sem, Nat.reduceEqDiff, reduceIte])
                refine hold2 (then_n ?_)
                refine J_ret (then_ret (fin_ret ?_))
                obtain rfl := Option.some.inj hP
                (try simp only [go_sem, Nat.reduceEqDiff, reduceIte])
                exact fo []
              · refine condV_f hc ?_
                refine J_skip (then_n ?_)
                refine J_seq ?_
                refine J_seq ?_
                refine J_region (by kernel_rfl) ?_
                (try simp only [go_sem, Nat.reduceEqDiff, reduceIte])
                obtain ⟨o137, hP, hQ136⟩ := bind_cases hP
                refine call_join (fun (s : Int) => .int .i64 s) (fun (s : Int) => envL [(6, .bptr 0 0)]) (fun (s : Int) => [.box 65 [.str r4.1.1, .str r4.1.2.1, .own 1 0 0 (List.length r4.1.2.2)], .slice 0 74 2 (List.map enc_api_Param r4.1.2.2)]) (fun s => s = o137) (callI_of (n := 19) (rs := [.tmp 4]) Tryz.func38 rfl (by decide) rfl rfl (by simp) rfl ?_) ?_
                · clear hQ136
                  refine J_seq ?_
                  refine J_region (by kernel_rfl) ?_
                  (try simp only [go_sem, Nat.reduceEqDiff, reduceIte])
                  refine hold2 (then_n ?_)
                  refine J_seq ?_
                  refine J_seq ?_
                  refine J_region (by kernel_rfl) ?_
                  (try simp only [go_sem, Nat.reduceEqDiff, reduceIte, Nat.reduceAdd, Nat.reduceSub, Nat.reduceLT, Nat.reduceMul, reduceCtorEq, Int.reduceToNat, Int.reduceLE, Int.reduceLT, Nat.reduceLeDiff])
                  refine hold2 (then_n ?_)
                  obtain ⟨o134, hP, hQ131⟩ := bind_cases hP
                  refine J_joinK (fun (s : Unit) => envL [(25, .bptr 0 0)]) (fun (s : Unit) => [.box 65 [.str r4.1.1, .str r4.1.2.1, .own 1 0 0 (List.length r4.1.2.2)], .slice 0 74 2 (List.map enc_api_Param r4.1.2.2)]) (fun s => Sum.inr s = o134) (by repeat (first | exact subC_then | refine subC_block ?_)) ?_ ?_
                  · refine J_block ?_
                    refine J_loop (σ := Nat × Int) (fun (s : Nat × Int) => envL [(0, .own 0 0 0 (List.length r4.1.2.2)), (1, .fn 39 []), (7, .int .i64 ((List.length r4.1.2.2 : Nat) : Int)), (8, .int .i64 s.2), (25, .bptr 1 0)]) (fun (s : Nat × Int) => [.slice 0 74 2 (List.map enc_api_Param r4.1.2.2), .box 65 [.str r4.1.1, .str r4.1.2.1, .own 0 0 0 (List.length r4.1.2.2)]]) (fun s => slices_IndexFunc_api_Param_api_Param_L131 r4 s.1 s.2 = some o134) (fun s => s.1) (1099511627776, 0) hP (so [1, 0]) ?_
                    rintro ⟨k129, v128⟩ hP
                    dsimp only at hP ⊢
                    cases k129 with
                    | zero => simp [slices_IndexFunc_api_Param_api_Param_L131] at hP
                    | succ k129 =>
                      simp only [slices_IndexFunc_api_Param_api_Param_L131] at hP
                      refine J_seq ?_
                      refine J_region (by kernel_rfl) ?_
                      (try simp only [go_sem, Nat.reduceEqDiff, reduceIte])
                      refine hold2 (then_n ?_)
                      refine J_seq ?_
                      refine J_condV rfl ?_
                      (try simp only [go_sem, Nat.reduceEqDiff, reduceIte])
                      rcases ite_cases hP with ⟨hc, hP⟩ | ⟨hc, hP⟩
                      · refine condV_t hc ?_
                        refine J_skip (then_n ?_)
                        refine J_seq ?_
                        refine J_block ?_
                        refine J_seq ?_
                        refine J_region (by kernel_rfl) ?_
                        (try simp only [go_sem, Nat.reduceEqDiff, reduceIte])
                        refine hold2 (then_n ?_)
                        refine J_seq ?_
                        refine J_region (by kernel_rfl) ?_
                        (try simp only [go_sem, Nat.reduceEqDiff, reduceIte])
                        obtain ⟨x132, hx132, hP⟩ := bind_cases hP
                        refine ixO_of hx132 ?_
                        (try simp only [go_sem, Nat.reduceEqDiff, reduceIte])
                        refine getK_of (f := enc_api_Param) hx132 ?_
                        (try simp only [go_sem, Nat.reduceEqDiff, reduceIte])
                        obtain ⟨r133, hr133, hP⟩ := bind_cases hP
                        refine call_ok [.agg [.str x132.1, .str x132.2]] (harden_Kind_2_ok hr133) ⟨argR_m false rfl, trivial⟩ ?_
                        (try simp only [go_sem, Nat.reduceEqDiff, reduceIte])
                        refine hold2 (then_n ?_)
                        refine J_condV rfl ?_
                        (try simp only [go_sem, Nat.reduceEqDiff, reduceIte])
                        rcases ite_cases hP with ⟨hc, hP⟩ | ⟨hc, hP⟩
                        · refine condV_t hc ?_
                          refine J_seq ?_
                          refine J_region (by kernel_rfl) ?_
                          (try simp only [go_sem, Nat.reduceEqDiff, reduceIte])
                          refine hold2 (then_n ?_)
                          refine J_ret (block_ret (then_ret (loop_ret (block_ret (join_ret (then_ret (finI_ret ?_)))))))
                          obtain rfl := Option.some.inj hP
                          have hP := hQ131
                          dsimp only at hP
                          exact told_of ⟨v128, Option.some.inj hP, sr [1, 0]⟩
                        · refine condV_f hc ?_
                          refine J_skip (block_n (then_n ?_))
                          refine J_region (by kernel_rfl) ?_
                          (try simp only [go_sem, Nat.reduceEqDiff, reduceIte])
                          refine hold2 ?_
                          exact loop_n (k129, iadd .i64 v128 1) hP (Nat.lt_succ_self _) (so [0, 1])
                      · refine condV_f hc ?_
                        refine J_exit (then_exit (loop_exit (block_eq ?_)))
                        exact join_n () (Option.some.inj hP) (so [1, 0])
                  · intro j135 hs
                    subst hs
                    have hP := hQ131
                    dsimp only at hP
                    clear hQ131
                    refine then_n ?_
                    refine J_seq ?_
                    refine J_region (by kernel_rfl) ?_
                    (try simp only [go_sem, Nat.reduceEqDiff, reduceIte])
                    refine hold2 (then_n ?_)
                    refine J_ret (finI_ret ?_)
                    exact told_of ⟨(-1), Option.some.inj hP, sr [0, 1]⟩
                · intro a136 hs
                  subst hs
                  have hP := hQ136
                  clear hQ136
                  (try simp only [go_sem, Nat.reduceEqDiff, reduceIte])
                  refine hold2 (then_n ?_)
                  refine J_seq ?_
                  refine J_region (by kernel_rfl) ?_
                  (try simp only [go_sem, Nat.reduceEqDiff, reduceIte])
                  refine hold2 (then_n ?_)
                  refine J_condV rfl ?_
                  (try simp only [go_sem, Nat.reduceEqDiff, reduceIte])
                  rcases ite_cases hP with ⟨hc, hP⟩ | ⟨hc, hP⟩
                  · refine condV_t hc ?_
                    refine J_seq ?_
                    refine J_regionq follows_mixed (by kernel_rfl) (by kernel_rfl) ?_
                    (try simp only [go_sem, Nat.reduceEqDiff, reduceIte])
                    obtain ⟨x138, hx138, hP⟩ := bind_cases hP
                    refine ixO_of hx138 ?_
                    (try simp only [go_sem, Nat.reduceEqDiff, reduceIte])
                    refine getK_of (f := enc_api_Param) hx138 ?_
                    (try simp only [go_sem, Nat.reduceEqDiff, reduceIte])
                    refine getK_of (f := enc_api_Param) hx138 ?_
                    (try simp only [go_sem, Nat.reduceEqDiff, reduceIte])
                    refine hold2 (then_n ?_)
                    refine J_ret (then_ret (fin_ret ?_))
                    obtain rfl := Option.some.inj hP
                    (try simp only [go_sem, Nat.reduceEqDiff, reduceIte])
                    exact fo []
                  · refine condV_f hc ?_
                    refine J_skip (then_n ?_)
                    refine J_seq ?_
                    refine J_region (by kernel_rfl) ?_
                    (try simp only [go_sem, Nat.reduceEqDiff, reduceIte])
                    refine hold2 (then_n ?_)
                    refine J_ret (fin_ret ?_)
                    obtain rfl := Option.some.inj hP
                    (try simp only [go_sem, Nat.reduceEqDiff, reduceIte])
                    exact fo []
/-- colander/harden.closing -/
def harden_closing (last1 : Bool) : Option ((List ((List UInt8) × (List UInt8)))) :=
  if !last1 then
    some ([] : List ((List UInt8) × (List UInt8)))
  else
    some [([67, 111, 110, 110, 101, 99, 116, 105, 111, 110], [99, 108, 111, 115, 101])]
set_option maxRecDepth 100000 in
set_option maxHeartbeats 40000000 in
theorem harden_closing_ok {last1 : Bool} {r : (List ((List UInt8) × (List UInt8)))} (hP : harden_closing last1 = some r) : CallOK Tryz.prog 53 [.bool last1] (.own 0 0 0 (List.length r)) [.slice 0 37 2 (List.map enc_api_Field r)] := by
  unfold harden_closing at hP
  refine co (hvo := (by first | (intro o ho; simp at ho; done) | (simp [vfO, AV.vf, AV.vfL, encB, encI, encS, encO, enc_api_Field, enc_api_Body, enc_api_Param, enc_api_Fault, enc_head_text]; done) | (simp [vfO, AV.vf, AV.vfL, encB, encI, encS, encO, enc_api_Field, enc_api_Body, enc_api_Param, enc_api_Fault, enc_head_text]; intros; subst_vars; simp [AV.vf, AV.vfL]))) 7 [.tmp 2] Tryz.func53 ?_
  refine J_seq ?_
  refine J_region (by kernel_rfl) ?_
  (try simp only [go_sem, Nat.reduceEqDiff, reduceIte])
  refine hold2 (then_n ?_)
  refine J_seq ?_
  refine J_seq ?_
  refine J_region (by kernel_rfl) ?_
  (try simp only [go_sem, Nat.reduceEqDiff, reduceIte])
  refine hold2 (then_n ?_)
  refine J_condV rfl ?_
  (try simp only [go_sem, Nat.reduceEqDiff, reduceIte])
  rcases ite_cases hP with ⟨hc, hP⟩ | ⟨hc, hP⟩
  · refine condV_t hc ?_
    refine J_seq ?_
    refine J_region (by kernel_rfl) ?_
    (try simp only [go_sem, Nat.reduceEqDiff, reduceIte])
    refine hold2 (then_n ?_)
    refine J_ret (then_ret (fin_ret ?_))
    obtain rfl := Option.some.inj hP
    (try simp only [go_sem, Nat.reduceEqDiff, reduceIte])
    exact fo [1]
  · refine condV_f hc ?_
    refine J_skip (then_n ?_)
    refine J_seq ?_
    refine J_region (by kernel_rfl) ?_
    (try simp only [go_sem, Nat.reduceEqDiff, reduceIte, Nat.reduceAdd, Nat.reduceSub, Nat.reduceLT, Nat.reduceMul, reduceCtorEq, Int.reduceToNat, Int.reduceLE, Int.reduceLT, Nat.reduceLeDiff])
    refine hold2 (then_n ?_)
    refine J_ret (fin_ret ?_)
    obtain rfl := Option.some.inj hP
    (try simp only [go_sem, Nat.reduceEqDiff, reduceIte])
    exact fo [1]
/-- colander/harden.Fail -/
def harden_Fail (status1 : Int) (bare2 : Bool) : Option ((List (UInt8))) :=
  (show Option (Sum ((List (UInt8))) ((List UInt8))) from
    if decide (status1 = 400) then
      some (Sum.inr [66, 97, 100, 32, 82, 101, 113, 117, 101, 115, 116])
    else
      if decide (status1 = 408) then
        some (Sum.inr [82, 101, 113, 117, 101, 115, 116, 32, 84, 105, 109, 101, 111, 117, 116])
      else
        if decide (status1 = 413) then
          some (Sum.inr [67, 111, 110, 116, 101, 110, 116, 32, 84, 111, 111, 32, 76, 97, 114, 103, 101])
        else
          if decide (status1 = 502) then
            some (Sum.inr [66, 97, 100, 32, 71, 97, 116, 101, 119, 97, 121])
          else
            if decide (status1 = 504) then
              some (Sum.inr [71, 97, 116, 101, 119, 97, 121, 32, 84, 105, 109, 101, 111, 117, 116])
            else
              some (Sum.inl ([] : List UInt8))).bind fun o3 => match o3 with
  | Sum.inl r => some r
  | Sum.inr j4 =>
    (harden_length (iadd .i64 (List.length j4 : Int) 1)).bind fun r5 =>
    (szC (List.length ([([67, 111, 110, 116, 101, 110, 116, 45, 84, 121, 112, 101], [116, 101, 120, 116, 47, 112, 108, 97, 105, 110, 59, 32, 99, 104, 97, 114, 115, 101, 116, 61, 117, 116, 102, 45, 56]), ([88, 45, 67, 111, 110, 116, 101, 110, 116, 45, 84, 121, 112, 101, 45, 79, 112, 116, 105, 111, 110, 115], [110, 111, 115, 110, 105, 102, 102])] ++ r5 : List ((List UInt8) × (List UInt8))))).bind fun _ =>
    (harden_closing true).bind fun r7 =>
    (szC (List.length (([([67, 111, 110, 116, 101, 110, 116, 45, 84, 121, 112, 101], [116, 101, 120, 116, 47, 112, 108, 97, 105, 110, 59, 32, 99, 104, 97, 114, 115, 101, 116, 61, 117, 116, 102, 45, 56]), ([88, 45, 67, 111, 110, 116, 101, 110, 116, 45, 84, 121, 112, 101, 45, 79, 112, 116, 105, 111, 110, 115], [110, 111, 115, 110, 105, 102, 102])] ++ r5) ++ r7 : List ((List UInt8) × (List UInt8))))).bind fun _ =>
    (head_ResponseText (status1, j4, ([([67, 111, 110, 116, 101, 110, 116, 45, 84, 121, 112, 101], [116, 101, 120, 116, 47, 112, 108, 97, 105, 110, 59, 32, 99, 104, 97, 114, 115, 101, 116, 61, 117, 116, 102, 45, 56]), ([88, 45, 67, 111, 110, 116, 101, 110, 116, 45, 84, 121, 112, 101, 45, 79, 112, 116, 105, 111, 110, 115], [110, 111, 115, 110, 105, 102, 102])] ++ r5) ++ r7)).bind fun r9 =>
    if !bare2 then
      (szC (List.length (j4 ++ [10]))).bind fun _ =>
      (szC (List.length (r9 ++ (j4 ++ [10])))).bind fun _ =>
      (szC (List.length (r9 ++ (j4 ++ [10])))).bind fun _ =>
      some (r9 ++ (j4 ++ [10]))
    else
      (szC (List.length r9)).bind fun _ =>
      some r9
set_option maxRecDepth 100000 in
set_option maxHeartbeats 40000000 in
theorem harden_Fail_ok {status1 : Int} {bare2 : Bool} {r : (List (UInt8))} (hP : harden_Fail status1 bare2 = some r) : CallOK Tryz.prog 23 [.int .i64 status1, .bool bare2] (.own 0 0 0 (List.length r)) [.slice 0 5 1 (List.map encB r)] := by
  unfold harden_Fail at hP
  refine co 42 [.tmp 4] Tryz.func23 ?_
  refine J_seq ?_
  refine J_region (by kernel_rfl) ?_
  (try simp only [go_sem, Nat.reduceEqDiff, reduceIte])
  refine hold2 (then_n ?_)
  refine J_seq ?_
  refine J_region (by kernel_rfl) ?_
  (try simp only [go_sem, Nat.reduceEqDiff, reduceIte])
  refine hold2 (then_n ?_)
  obtain ⟨o3, hP, hQ3⟩ := bind_cases hP
  refine J_join (fun (s : (List UInt8)) => envL [(0, .int .i64 status1), (1, .bool bare2), (5, .str s)]) (fun (s : (List UInt8)) => []) (fun s => Sum.inr s = o3) ?_ ?_
  · refine J_seq ?_
    refine J_region (by kernel_rfl) ?_
    (try simp only [go_sem, Nat.reduceEqDiff, reduceIte])
    refine hold2 (then_n ?_)
    refine J_block ?_
    refine J_seq ?_
    refine J_region (by kernel_rfl) ?_
    (try simp only [go_sem, Nat.reduceEqDiff, reduceIte])
    refine hold2 (then_n ?_)
    refine J_condV rfl ?_
    (try simp only [go_sem, Nat.reduceEqDiff, reduceIte])
    rcases ite_cases hP with ⟨hc, hP⟩ | ⟨hc, hP⟩
    · refine condV_t hc ?_
      refine J_region (by kernel_rfl) ?_
      (try simp only [go_sem, Nat.reduceEqDiff, reduceIte])
      refine hold2 (block_n ?_)
      exact join_n [66, 97, 100, 32, 82, 101, 113, 117, 101, 115, 116] (Option.some.inj hP) (so [])
    · refine condV_f hc ?_
      refine J_seq ?_
      refine J_region (by kernel_rfl) ?_
      (try simp only [go_sem, Nat.reduceEqDiff, reduceIte])
      refine hold2 (then_n ?_)
      refine J_condV rfl ?_
      (try simp only [go_sem, Nat.reduceEqDiff, reduceIte])
      rcases ite_cases hP with ⟨hc, hP⟩ | ⟨hc, hP⟩
      · refine condV_t hc ?_
        refine J_region (by kernel_rfl) ?_
        (try simp only [go_sem, Nat.reduceEqDiff, reduceIte])
        refine hold2 (block_n ?_)
        exact join_n [82, 101, 113, 117, 101, 115, 116, 32, 84, 105, 109, 101, 111, 117, 116] (Option.some.inj hP) (so [])
      · refine condV_f hc ?_
        refine J_seq ?_
        refine J_region (by kernel_rfl) ?_
        (try simp only [go_sem, Nat.reduceEqDiff, reduceIte])
        refine hold2 (then_n ?_)
        refine J_condV rfl ?_
        (try simp only [go_sem, Nat.reduceEqDiff, reduceIte])
        rcases ite_cases hP with ⟨hc, hP⟩ | ⟨hc, hP⟩
        · refine condV_t hc ?_
          refine J_region (by kernel_rfl) ?_
          (try simp only [go_sem, Nat.reduceEqDiff, reduceIte])
          refine hold2 (block_n ?_)
          exact join_n [67, 111, 110, 116, 101, 110, 116, 32, 84, 111, 111, 32, 76, 97, 114, 103, 101] (Option.some.inj hP) (so [])
        · refine condV_f hc ?_
          refine J_seq ?_
          refine J_region (by kernel_rfl) ?_
          (try simp only [go_sem, Nat.reduceEqDiff, reduceIte])
          refine hold2 (then_n ?_)
          refine J_condV rfl ?_
          (try simp only [go_sem, Nat.reduceEqDiff, reduceIte])
          rcases ite_cases hP with ⟨hc, hP⟩ | ⟨hc, hP⟩
          · refine condV_t hc ?_
            refine J_region (by kernel_rfl) ?_
            (try simp only [go_sem, Nat.reduceEqDiff, reduceIte])
            refine hold2 (block_n ?_)
            exact join_n [66, 97, 100, 32, 71, 97, 116, 101, 119, 97, 121] (Option.some.inj hP) (so [])
          · refine condV_f hc ?_
            refine J_seq ?_
            refine J_region (by kernel_rfl) ?_
            (try simp only [go_sem, Nat.reduceEqDiff, reduceIte])
            refine hold2 (then_n ?_)
            refine J_condV rfl ?_
            (try simp only [go_sem, Nat.reduceEqDiff, reduceIte])
            rcases ite_cases hP with ⟨hc, hP⟩ | ⟨hc, hP⟩
            · refine condV_t hc ?_
              refine J_region (by kernel_rfl) ?_
              (try simp only [go_sem, Nat.reduceEqDiff, reduceIte])
              refine hold2 (block_n ?_)
              exact join_n [71, 97, 116, 101, 119, 97, 121, 32, 84, 105, 109, 101, 111, 117, 116] (Option.some.inj hP) (so [])
            · refine condV_f hc ?_
              refine J_seq ?_
              refine J_region (by kernel_rfl) ?_
              (try simp only [go_sem, Nat.reduceEqDiff, reduceIte])
              refine hold2 (then_n ?_)
              refine J_ret (block_ret (join_ret (fin_ret ?_)))
              obtain rfl := Option.some.inj hP
              have hP := hQ3
              dsimp only at hP
              obtain rfl := Option.some.inj hP
              (try simp only [go_sem, Nat.reduceEqDiff, reduceIte])
              exact fo [1]
  · intro j4 hs
    subst hs
    have hP := hQ3
    dsimp only at hP
    clear hQ3
    refine J_seq ?_
    refine J_region (by kernel_rfl) ?_
    (try simp only [go_sem, Nat.reduceEqDiff, reduceIte, Nat.reduceAdd, Nat.reduceSub, Nat.reduceLT, Nat.reduceMul, reduceCtorEq, Int.reduceToNat, Int.reduceLE, Int.reduceLT, Nat.reduceLeDiff])
    obtain ⟨r5, hr5, hP⟩ := bind_cases hP
    refine call_ok [.int .i64 (iadd .i64 (List.length j4 : Int) 1)] (harden_length_ok hr5) ⟨argR_m false rfl, trivial⟩ ?_
    (try simp only [go_sem, Nat.reduceEqDiff, reduceIte])
    obtain ⟨_, hz6, hP⟩ := bind_cases hP
    refine app_own (f := enc_api_Field) ([([67, 111, 110, 116, 101, 110, 116, 45, 84, 121, 112, 101], [116, 101, 120, 116, 47, 112, 108, 97, 105, 110, 59, 32, 99, 104, 97, 114, 115, 101, 116, 61, 117, 116, 102, 45, 56]), ([88, 45, 67, 111, 110, 116, 101, 110, 116, 45, 84, 121, 112, 101, 45, 79, 112, 116, 105, 111, 110, 115], [110, 111, 115, 110, 105, 102, 102])] : List ((List UInt8) × (List UInt8))) (r5 : List ((List UInt8) × (List UInt8))) rfl tyS_22 (by decide) (by simp only [go_sem, Nat.reduceEqDiff, reduceIte]; first | done | rfl | exact ⟨rfl, rfl⟩) hz6 ?_
    (try simp only [go_sem, Nat.reduceEqDiff, reduceIte])
    refine hold2 (then_n ?_)
    refine J_seq ?_
    refine J_region (by kernel_rfl) ?_
    (try simp only [go_sem, Nat.reduceEqDiff, reduceIte])
    obtain ⟨r7, hr7, hP⟩ := bind_cases hP
    refine call_ok [.bool true] (harden_closing_ok hr7) ⟨argR_m false rfl, trivial⟩ ?_
    (try simp only [go_sem, Nat.reduceEqDiff, reduceIte])
    obtain ⟨_, hz8, hP⟩ := bind_cases hP
    refine app_own (f := enc_api_Field) ([([67, 111, 110, 116, 101, 110, 116, 45, 84, 121, 112, 101], [116, 101, 120, 116, 47, 112, 108, 97, 105, 110, 59, 32, 99, 104, 97, 114, 115, 101, 116, 61, 117, 116, 102, 45, 56]), ([88, 45, 67, 111, 110, 116, 101, 110, 116, 45, 84, 121, 112, 101, 45, 79, 112, 116, 105, 111, 110, 115], [110, 111, 115, 110, 105, 102, 102])] ++ r5 : List ((List UInt8) × (List UInt8))) (r7 : List ((List UInt8) × (List UInt8))) rfl tyS_22 (by decide) (by simp only [go_sem, Nat.reduceEqDiff, reduceIte]; first | done | rfl | exact ⟨rfl, rfl⟩) hz8 ?_
    (try simp only [go_sem, Nat.reduceEqDiff, reduceIte])
    obtain ⟨r9, hr9, hP⟩ := bind_cases hP
    refine call_ok [.agg [.int .i64 status1, .str j4, .view 2 (List.map enc_api_Field (([([67, 111, 110, 116, 101, 110, 116, 45, 84, 121, 112, 101], [116, 101, 120, 116, 47, 112, 108, 97, 105, 110, 59, 32, 99, 104, 97, 114, 115, 101, 116, 61, 117, 116, 102, 45, 56]), ([88, 45, 67, 111, 110, 116, 101, 110, 116, 45, 84, 121, 112, 101, 45, 79, 112, 116, 105, 111, 110, 115], [110, 111, 115, 110, 105, 102, 102])] ++ r5) ++ r7))]] (head_ResponseText_ok hr9) ⟨argR_agg ⟨argC_m false rfl, argC_m false rfl, argC_m false (by simp only [arg, go_sem, Nat.reduceEqDiff, reduceIte]), trivial⟩, trivial⟩ ?_
    (try simp only [go_sem, Nat.reduceEqDiff, reduceIte])
    refine hold2 (then_n ?_)
    refine J_seq ?_
    refine J_seq ?_
    refine J_region (by kernel_rfl) ?_
    (try simp only [go_sem, Nat.reduceEqDiff, reduceIte])
    refine hold2 (then_n ?_)
    refine J_condV rfl ?_
    (try simp only [go_sem, Nat.reduceEqDiff, reduceIte])
    rcases ite_cases hP with ⟨hc, hP⟩ | ⟨hc, hP⟩
    · refine condV_t hc ?_
      refine J_region (by kernel_rfl) ?_
      (try simp only [go_sem, Nat.reduceEqDiff, reduceIte])
      obtain ⟨_, hz10, hP⟩ := bind_cases hP
      refine chk_of (by first | exact szC_63 hz10 | (have q := szC_63 hz10; simp only [List.length_append, List.length_cons, List.length_nil] at q ⊢; omega)) ?_
      (try simp only [go_sem, Nat.reduceEqDiff, reduceIte])
      obtain ⟨_, hz11, hP⟩ := bind_cases hP
      refine chk_of (by first | exact szC_63 hz11 | (have q := szC_63 hz11; simp only [List.length_append, List.length_cons, List.length_nil] at q ⊢; omega)) ?_
      (try simp only [go_sem, Nat.reduceEqDiff, reduceIte])
      refine hold2 (then_n ?_)
      refine J_seq ?_
      refine J_region (by kernel_rfl) ?_
      (try simp only [go_sem, Nat.reduceEqDiff, reduceIte])
      obtain ⟨_, hz12, hP⟩ := bind_cases hP
      refine chk_of (szC_63 hz12) ?_
      (try simp only [go_sem, Nat.reduceEqDiff, reduceIte])
      refine hold2 (then_n ?_)
      refine J_ret (fin_ret ?_)
      obtain rfl := Option.some.inj hP
      (try simp only [go_sem, Nat.reduceEqDiff, reduceIte])
      exact fo [3]
    · refine condV_f hc ?_
      refine J_skip (then_n ?_)
      refine J_seq ?_
      refine J_region (by kernel_rfl) ?_
      (try simp only [go_sem, Nat.reduceEqDiff, reduceIte])
      obtain ⟨_, hz13, hP⟩ := bind_cases hP
      refine chk_of (szC_63 hz13) ?_
      (try simp only [go_sem, Nat.reduceEqDiff, reduceIte])
      refine hold2 (then_n ?_)
      refine J_ret (fin_ret ?_)
      obtain rfl := Option.some.inj hP
      (try simp only [go_sem, Nat.reduceEqDiff, reduceIte])
      exact fo [3]
/-- colander/harden.Keeps$1 -/
def harden_Keeps_1 (s1 : List UInt8) : Option (Bool) :=
  (lex_Same s1 [99, 108, 111, 115, 101]).bind fun r2 =>
  some r2
set_option maxRecDepth 100000 in
set_option maxHeartbeats 40000000 in
theorem harden_Keeps_1_ok {s1 : List UInt8} {r : Bool} (hP : harden_Keeps_1 s1 = some r) : CallOK Tryz.prog 51 [.str s1] (.bool r) [] := by
  unfold harden_Keeps_1 at hP
  refine co 5 [.tmp 2] Tryz.func51 ?_
  refine J_seq ?_
  refine J_region (by kernel_rfl) ?_
  (try simp only [go_sem, Nat.reduceEqDiff, reduceIte])
  refine hold2 (then_n ?_)
  refine J_seq ?_
  refine J_region (by kernel_rfl) ?_
  (try simp only [go_sem, Nat.reduceEqDiff, reduceIte])
  obtain ⟨r2, hr2, hP⟩ := bind_cases hP
  refine call_ok [.str s1, .str [99, 108, 111, 115, 101]] (lex_Same_ok hr2) ⟨argR_m false rfl, argR_m false rfl, trivial⟩ ?_
  (try simp only [go_sem, Nat.reduceEqDiff, reduceIte])
  refine hold2 (then_n ?_)
  refine J_ret (fin_ret ?_)
  obtain rfl := Option.some.inj hP
  (try simp only [go_sem, Nat.reduceEqDiff, reduceIte])
  exact fo []
/-- colander/harden.Keeps -/
def slices_IndexFunc_string_string_L44 (r2 : (List (List UInt8)) × Int) : Nat → Int → Option (Sum (Int) (Unit))
  | 0, _ => none
  | k42 + 1, v41 =>
    if decide (v41 < ((List.length r2.1 : Nat) : Int)) then
      (ixL r2.1 v41).bind fun x45 =>
      (harden_Keeps_1 x45).bind fun r46 =>
      if r46 then
        some (Sum.inl v41)
      else
        slices_IndexFunc_string_string_L44 r2 k42 (iadd .i64 v41 1)
    else
      some (Sum.inr ())
def harden_Keeps (l1 : List ((List UInt8) × (List UInt8))) : Option (Bool) :=
  (fields_Members l1 [99, 111, 110, 110, 101, 99, 116, 105, 111, 110]).bind fun r2 =>
  if decide (r2.2 = 0) then
    (show Option (Bool) from
      (show Option (Int) from
        (slices_IndexFunc_string_string_L44 r2 1099511627776 0).bind fun o47 => match o47 with
        | Sum.inl r => some r
        | Sum.inr j48 =>
          some (-1)).bind fun a49 =>
        some (decide (0 ≤ a49))).bind fun a51 =>
      some (!a51)
  else
    some false
set_option maxRecDepth 100000 in
set_option maxHeartbeats 40000000 in
theorem harden_Keeps_ok {l1 : List ((List UInt8) × (List UInt8))} {r : Bool} (hP : harden_Keeps l1 = some r) : CallOK Tryz.prog 15 [.view 2 (List.map enc_api_Field l1)] (.bool r) [] := by
  unfold harden_Keeps at hP
  refine co 17 [.tmp 2] Tryz.func15 ?_
  refine J_seq ?_
  refine J_region (by kernel_rfl) ?_
  (try simp only [go_sem, Nat.reduceEqDiff, reduceIte])
  refine hold2 (then_n ?_)
  refine J_seq ?_
  refine J_region (by kernel_rfl) ?_
  (try simp only [go_sem, Nat.reduceEqDiff, reduceIte])
  obtain ⟨r2, hr2, hP⟩ := bind_cases hP
  refine call_ok [.view 2 (List.map enc_api_Field l1), .str [99, 111, 110, 110, 101, 99, 116, 105, 111, 110]] (fields_Members_ok hr2) ⟨argR_m false rfl, argR_m false rfl, trivial⟩ ?_
  (try simp only [go_sem, Nat.reduceEqDiff, reduceIte])
  refine hold2 (then_n ?_)
  refine J_seq ?_
  refine J_region (by kernel_rfl) ?_
  (try simp only [go_sem, Nat.reduceEqDiff, reduceIte])
  rcases ite_cases hP with ⟨hc, hP⟩ | ⟨hc, hP⟩
  · refine guard_is hc ?_
    (try simp only [go_sem, Nat.reduceEqDiff, reduceIte])
    obtain ⟨o52, hP, hQ51⟩ := bind_cases hP
    refine call_join (fun (s : Bool) => .bool s) (fun (s : Bool) => envL [(2, .bool false), (12, .bool true)]) (fun (s : Bool) => []) (fun s => s = o52) (callI_of (n := 9) (rs := [.tmp 4]) Tryz.func35 rfl (by decide) rfl rfl (by simp) rfl ?_) ?_
    · clear hQ51
      refine J_seq ?_
      refine J_region (by kernel_rfl) ?_
      (try simp only [go_sem, Nat.reduceEqDiff, reduceIte])
      refine hold2 (then_n ?_)
      refine J_seq ?_
      refine J_region (by kernel_rfl) ?_
      (try simp only [go_sem, Nat.reduceEqDiff, reduceIte])
      obtain ⟨o50, hP, hQ49⟩ := bind_cases hP
      refine call_join (fun (s : Int) => .int .i64 s) (fun (s : Int) => envL [(4, .bool false), (11, .bool false), (21, .bool true)]) (fun (s : Int) => []) (fun s => s = o50) (callI_of (n := 19) (rs := [.tmp 4]) Tryz.func84 rfl (by decide) rfl rfl (by simp) rfl ?_) ?_
      · clear hQ49
        refine J_seq ?_
        refine J_region (by kernel_rfl) ?_
        (try simp only [go_sem, Nat.reduceEqDiff, reduceIte])
        refine hold2 (then_n ?_)
        refine J_seq ?_
        refine J_seq ?_
        refine J_region (by kernel_rfl) ?_
        (try simp only [go_sem, Nat.reduceEqDiff, reduceIte, Nat.reduceAdd, Nat.reduceSub, Nat.reduceLT, Nat.reduceMul, reduceCtorEq, Int.reduceToNat, Int.reduceLE, Int.reduceLT, Nat.reduceLeDiff])
        refine hold2 (then_n ?_)
        obtain ⟨o47, hP, hQ44⟩ := bind_cases hP
        refine J_joinK (fun (s : Unit) => envL [(23, .bool false), (30, .bool false), (40, .bool true)]) (fun (s : Unit) => []) (fun s => Sum.inr s = o47) (by repeat (first | exact subC_then | refine subC_block ?_)) ?_ ?_
        · refine J_block ?_
          refine J_loop (σ := Nat × Int) (fun (s : Nat × Int) => envL [(0, .own 0 0 0 (List.length r2.1)), (1, .fn 51 []), (7, .int .i64 ((List.length r2.1 : Nat) : Int)), (8, .int .i64 s.2), (23, .bool false), (30, .bool false), (40, .bool true)]) (fun (s : Nat × Int) => [.slice 0 9 1 (List.map encS r2.1)]) (fun s => slices_IndexFunc_string_string_L44 r2 s.1 s.2 = some o47) (fun s => s.1) (1099511627776, 0) hP (so [0]) ?_
          rintro ⟨k42, v41⟩ hP
          dsimp only at hP ⊢
          cases k42 with
          | zero => simp [slices_IndexFunc_string_string_L44] at hP
          | succ k42 =>
            simp only [slices_IndexFunc_string_string_L44] at hP
            refine J_seq ?_
            refine J_region (by kernel_rfl) ?_
            (try simp only [go_sem, Nat.reduceEqDiff, reduceIte])
            refine hold2 (then_n ?_)
            refine J_seq ?_
            refine J_condV rfl ?_
            (try simp only [go_sem, Nat.reduceEqDiff, reduceIte])
            rcases ite_cases hP with ⟨hc, hP⟩ | ⟨hc, hP⟩
            · refine condV_t hc ?_
              refine J_skip (then_n ?_)
              refine J_seq ?_
              refine J_block ?_
              refine J_seq ?_
              refine J_region (by kernel_rfl) ?_
              (try simp only [go_sem, Nat.reduceEqDiff, reduceIte])
              refine hold2 (then_n ?_)
              refine J_seq ?_
              refine J_region (by kernel_rfl) ?_
              (try simp only [go_sem, Nat.reduceEqDiff, reduceIte])
              obtain ⟨x45, hx45, hP⟩ := bind_cases hP
              refine ixO_of hx45 ?_
              (try simp only [go_sem, Nat.reduceEqDiff, reduceIte])
              refine getK_of (f := encS) hx45 ?_
              (try simp only [go_sem, Nat.reduceEqDiff, reduceIte])
              obtain ⟨r46, hr46, hP⟩ := bind_cases hP
              refine call_ok [.str x45] (harden_Keeps_1_ok hr46) ⟨argR_m false rfl, trivial⟩ ?_
              (try simp only [go_sem, Nat.reduceEqDiff, reduceIte])
              refine hold2 (then_n ?_)
              refine J_condV rfl ?_
              (try simp only [go_sem, Nat.reduceEqDiff, reduceIte])
              rcases ite_cases hP with ⟨hc, hP⟩ | ⟨hc, hP⟩
              · refine condV_t hc ?_
                refine J_seq ?_
                refine J_region (by kernel_rfl) ?_
                (try simp only [go_sem, Nat.reduceEqDiff, reduceIte])
                refine hold2 (then_n ?_)
                refine J_ret (block_ret (then_ret (loop_ret (block_ret (join_ret (then_ret (finI_ret ?_)))))))
                obtain rfl := Option.some.inj hP
                have hP := hQ44
                dsimp only at hP
                exact told_of ⟨v41, Option.some.inj hP, sr []⟩
              · refine condV_f hc ?_
                refine J_skip (block_n (then_n ?_))
                refine J_region (by kernel_rfl) ?_
                (try simp only [go_sem, Nat.reduceEqDiff, reduceIte])
                refine hold2 ?_
                exact loop_n (k42, iadd .i64 v41 1) hP (Nat.lt_succ_self _) (so [0])
            · refine condV_f hc ?_
              refine J_exit (then_exit (loop_exit (block_eq ?_)))
              exact join_n () (Option.some.inj hP) (so [])
        · intro j48 hs
          subst hs
          have hP := hQ44
          dsimp only at hP
          clear hQ44
          refine then_n ?_
          refine J_seq ?_
          refine J_region (by kernel_rfl) ?_
          (try simp only [go_sem, Nat.reduceEqDiff, reduceIte])
          refine hold2 (then_n ?_)
          refine J_ret (finI_ret ?_)
          exact told_of ⟨(-1), Option.some.inj hP, sr []⟩
      · intro a49 hs
        subst hs
        have hP := hQ49
        clear hQ49
        (try simp only [go_sem, Nat.reduceEqDiff, reduceIte])
        refine hold2 (then_n ?_)
        refine J_ret (finI_ret ?_)
        exact told_of ⟨(decide (0 ≤ a49)), Option.some.inj hP, sr []⟩
    · intro a51 hs
      subst hs
      have hP := hQ51
      clear hQ51
      (try simp only [go_sem, Nat.reduceEqDiff, reduceIte])
      refine hold2 (then_n ?_)
      refine J_ret (fin_ret ?_)
      obtain rfl := Option.some.inj hP
      (try simp only [go_sem, Nat.reduceEqDiff, reduceIte])
      exact fo []
  · refine guard_not hc ?_
    (try simp only [go_sem, Nat.reduceEqDiff, reduceIte])
    refine hold2 (then_n ?_)
    refine J_ret (fin_ret ?_)
    obtain rfl := Option.some.inj hP
    (try simp only [go_sem, Nat.reduceEqDiff, reduceIte])
    exact fo []
end Go.Proofs.YtgngopfpnidbaaaGreatDoor
