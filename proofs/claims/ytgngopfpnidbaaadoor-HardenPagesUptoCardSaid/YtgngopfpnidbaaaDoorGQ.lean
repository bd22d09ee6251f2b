/- Functions of the program, and pure ones that go the same ways: that the program's return what these compute. -/
import Derived.Test.YtgngopfpnidbaaaDoorGK
import Derived.Test.YtgngopfpnidbaaaDoorLibC
import Derived.Test.YtgngopfpnidbaaaDoorAvJ
namespace Go.Proofs.YtgngopfpnidbaaaDoor
open Go.Av
set_option linter.unusedVariables false
set_option linter.unusedSimpArgs false
/-- slices.Concat[[]colander/api.Field,colander/api.Field] -/
def slices_Concat_api_Field_api_Field_L8 (slices1 : List (List ((List UInt8) × (List UInt8)))) : Nat → Int → Int → Option (Int)
  | 0, _, _ => none
  | k7 + 1, size5, v6 =>
    if decide (v6 < (List.length slices1 : Int)) then
      (ixL slices1 v6).bind fun x9 =>
      if decide (iadd .i64 size5 (List.length x9 : Int) < 0) then
        none
      else
        slices_Concat_api_Field_api_Field_L8 slices1 k7 (iadd .i64 size5 (List.length x9 : Int)) (iadd .i64 v6 1)
    else
      some size5
def slices_Concat_api_Field_api_Field_L24 (slices1 : List (List ((List UInt8) × (List UInt8)))) : Nat → Int → (List ((List UInt8) × (List UInt8))) → Option ((List ((List UInt8) × (List UInt8))))
  | 0, _, _ => none
  | k22 + 1, v20, l21 =>
    if decide (v20 < (List.length slices1 : Int)) then
      (ixL slices1 v20).bind fun x25 =>
      (szC (List.length (l21 ++ x25 : List ((List UInt8) × (List UInt8))))).bind fun _ =>
      slices_Concat_api_Field_api_Field_L24 slices1 k22 (iadd .i64 v20 1) (l21 ++ x25)
    else
      some l21
def slices_Concat_api_Field_api_Field (slices1 : List (List ((List UInt8) × (List UInt8)))) : Option ((List ((List UInt8) × (List UInt8)))) :=
  (slices_Concat_api_Field_api_Field_L8 slices1 1099511627776 0 0).bind fun j11 =>
    (growX ([] : List ((List UInt8) × (List UInt8))) j11).bind fun r12 =>
    (slices_Concat_api_Field_api_Field_L24 slices1 1099511627776 0 r12).bind fun j28 =>
      some j28
set_option maxRecDepth 100000 in
set_option maxHeartbeats 40000000 in
theorem slices_Concat_api_Field_api_Field_ok {slices1 : List (List ((List UInt8) × (List UInt8)))} {r : (List ((List UInt8) × (List UInt8)))} (hP : slices_Concat_api_Field_api_Field slices1 = some r) : CallOK Tryd.prog 14 [.view 1 (List.map (encL 2 enc_api_Field) slices1)] (.own 0 0 0 (List.length r)) [.slice 0 42 2 (List.map enc_api_Field r)] := by
  unfold slices_Concat_api_Field_api_Field at hP
  refine co (hvo := (by first | (intro o ho; simp at ho; done) | (simp [vfO, AV.vf, AV.vfL, encB, encI, encS, encO, enc_api_Body, enc_api_Field, enc_api_Param]; done) | (simp [vfO, AV.vf, AV.vfL, encB, encI, encS, encO, enc_api_Body, enc_api_Field, enc_api_Param]; intros; subst_vars; simp [AV.vf, AV.vfL]))) 36 [.tmp 2] Tryd.func14 ?_
  refine J_seq ?_
  refine J_region (by kernel_rfl) ?_
  (try simp only [go_sem, Nat.reduceEqDiff, ↓reduceIte, Nat.reduceAdd, Nat.reduceSub, Nat.reduceLT, Nat.reduceMul, reduceCtorEq, Int.reduceToNat, Int.reduceLE, Int.reduceLT, Nat.reduceLeDiff])
  refine hold2 (then_n ?_)
  refine J_seq ?_
  refine J_region (by kernel_rfl) ?_
  (try simp only [go_sem, Nat.reduceEqDiff, ↓reduceIte, Nat.reduceAdd, Nat.reduceSub, Nat.reduceLT, Nat.reduceMul, reduceCtorEq, Int.reduceToNat, Int.reduceLE, Int.reduceLT, Nat.reduceLeDiff])
  refine hold2 (then_n ?_)
  refine J_seq ?_
  refine J_seq ?_
  refine J_region (by kernel_rfl) ?_
  (try simp only [go_sem, Nat.reduceEqDiff, ↓reduceIte, Nat.reduceAdd, Nat.reduceSub, Nat.reduceLT, Nat.reduceMul, reduceCtorEq, Int.reduceToNat, Int.reduceLE, Int.reduceLT, Nat.reduceLeDiff])
  refine hold2 (then_n ?_)
  obtain ⟨o10, hP, hQ8⟩ := bind_cases hP
  refine J_joinK (fun (s : Int) => envL [(0, .view 1 (List.map (encL 2 enc_api_Field) slices1)), (3, .int .i64 s)]) (fun (s : Int) => []) (fun s => s = o10) (by repeat (first | exact subC_then | refine subC_block ?_)) ?_ ?_
  · clear hQ8
    refine J_block ?_
    refine J_loop (σ := Nat × Int × Int) (fun (s : Nat × Int × Int) => envL [(0, .view 1 (List.map (encL 2 enc_api_Field) slices1)), (3, .int .i64 s.2.1), (9, .view 1 (List.map (encL 2 enc_api_Field) slices1)), (10, .int .i64 (List.length slices1 : Int)), (11, .int .i64 s.2.2)]) (fun (s : Nat × Int × Int) => []) (fun s => slices_Concat_api_Field_api_Field_L8 slices1 s.1 s.2.1 s.2.2 = some o10) (fun s => s.1) (1099511627776, 0, 0) hP (so []) ?_
    rintro ⟨k7, size5, v6⟩ hP
    dsimp only at hP ⊢
    cases k7 with
    | zero => simp [slices_Concat_api_Field_api_Field_L8] at hP
    | succ k7 =>
      simp only [slices_Concat_api_Field_api_Field_L8] at hP
      refine J_seq ?_
      refine J_region (by kernel_rfl) ?_
      (try simp only [go_sem, Nat.reduceEqDiff, ↓reduceIte, Nat.reduceAdd, Nat.reduceSub, Nat.reduceLT, Nat.reduceMul, reduceCtorEq, Int.reduceToNat, Int.reduceLE, Int.reduceLT, Nat.reduceLeDiff])
      refine hold2 (then_n ?_)
      refine J_seq ?_
      refine J_condV rfl ?_
      (try simp only [go_sem, Nat.reduceEqDiff, ↓reduceIte, Nat.reduceAdd, Nat.reduceSub, Nat.reduceLT, Nat.reduceMul, reduceCtorEq, Int.reduceToNat, Int.reduceLE, Int.reduceLT, Nat.reduceLeDiff])
      rcases ite_cases hP with ⟨hc, hP⟩ | ⟨hc, hP⟩
      · refine condV_t hc ?_
        refine J_skip (then_n ?_)
        refine J_seq ?_
        refine J_block ?_
        refine J_seq ?_
        refine J_region (by kernel_rfl) ?_
        (try simp only [go_sem, Nat.reduceEqDiff, ↓reduceIte, Nat.reduceAdd, Nat.reduceSub, Nat.reduceLT, Nat.reduceMul, reduceCtorEq, Int.reduceToNat, Int.reduceLE, Int.reduceLT, Nat.reduceLeDiff])
        obtain ⟨x9, hx9, hP⟩ := bind_cases hP
        refine ixV_of hx9 ?_
        (try simp only [go_sem, Nat.reduceEqDiff, ↓reduceIte, Nat.reduceAdd, Nat.reduceSub, Nat.reduceLT, Nat.reduceMul, reduceCtorEq, Int.reduceToNat, Int.reduceLE, Int.reduceLT, Nat.reduceLeDiff])
        refine hold2 (then_n ?_)
        refine J_seq ?_
        refine J_region (by kernel_rfl) ?_
        (try simp only [go_sem, Nat.reduceEqDiff, ↓reduceIte, Nat.reduceAdd, Nat.reduceSub, Nat.reduceLT, Nat.reduceMul, reduceCtorEq, Int.reduceToNat, Int.reduceLE, Int.reduceLT, Nat.reduceLeDiff])
        refine hold2 (then_n ?_)
        refine J_seq ?_
        refine J_region (by kernel_rfl) ?_
        (try simp only [go_sem, Nat.reduceEqDiff, ↓reduceIte, Nat.reduceAdd, Nat.reduceSub, Nat.reduceLT, Nat.reduceMul, reduceCtorEq, Int.reduceToNat, Int.reduceLE, Int.reduceLT, Nat.reduceLeDiff])
        refine hold2 (then_n ?_)
        refine J_condV rfl ?_
        (try simp only [go_sem, Nat.reduceEqDiff, ↓reduceIte, Nat.reduceAdd, Nat.reduceSub, Nat.reduceLT, Nat.reduceMul, reduceCtorEq, Int.reduceToNat, Int.reduceLE, Int.reduceLT, Nat.reduceLeDiff])
        rcases ite_cases hP with ⟨hc, hP⟩ | ⟨hc, hP⟩
        · refine condV_t hc ?_
          refine J_region (by kernel_rfl) ?_
          (try simp only [go_sem, Nat.reduceEqDiff, ↓reduceIte, Nat.reduceAdd, Nat.reduceSub, Nat.reduceLT, Nat.reduceMul, reduceCtorEq, Int.reduceToNat, Int.reduceLE, Int.reduceLT, Nat.reduceLeDiff])
          cases hP
        · refine condV_f hc ?_
          refine J_skip (block_n (then_n ?_))
          refine J_region (by kernel_rfl) ?_
          (try simp only [go_sem, Nat.reduceEqDiff, ↓reduceIte, Nat.reduceAdd, Nat.reduceSub, Nat.reduceLT, Nat.reduceMul, reduceCtorEq, Int.reduceToNat, Int.reduceLE, Int.reduceLT, Nat.reduceLeDiff])
          refine hold2 ?_
          exact loop_n (k7, iadd .i64 size5 (List.length x9 : Int), iadd .i64 v6 1) hP (Nat.lt_succ_self _) (so [])
      · refine condV_f hc ?_
        refine J_exit (then_exit (loop_exit (block_eq ?_)))
        exact join_n size5 (Option.some.inj hP) (so [])
  · intro j11 hs
    subst hs
    have hP := hQ8
    clear hQ8
    refine then_n ?_
    refine J_seq ?_
    refine J_region (by kernel_rfl) ?_
    (try simp only [go_sem, Nat.reduceEqDiff, ↓reduceIte, Nat.reduceAdd, Nat.reduceSub, Nat.reduceLT, Nat.reduceMul, reduceCtorEq, Int.reduceToNat, Int.reduceLE, Int.reduceLT, Nat.reduceLeDiff])
    obtain ⟨r12, hr12, hP⟩ := bind_cases hP
    refine call_ok [.sc (.slice none 0 0), .int .i64 j11] (growX_ok hr12) ⟨argR_m false rfl, argR_m false rfl, trivial⟩ ?_
    (try simp only [go_sem, Nat.reduceEqDiff, ↓reduceIte, Nat.reduceAdd, Nat.reduceSub, Nat.reduceLT, Nat.reduceMul, reduceCtorEq, Int.reduceToNat, Int.reduceLE, Int.reduceLT, Nat.reduceLeDiff])
    refine hold2 (then_n ?_)
    refine J_seq ?_
    refine J_seq ?_
    refine J_region (by kernel_rfl) ?_
    (try simp only [go_sem, Nat.reduceEqDiff, ↓reduceIte, Nat.reduceAdd, Nat.reduceSub, Nat.reduceLT, Nat.reduceMul, reduceCtorEq, Int.reduceToNat, Int.reduceLE, Int.reduceLT, Nat.reduceLeDiff])
    refine hold2 (then_n ?_)
    obtain ⟨o27, hP, hQ24⟩ := bind_cases hP
    refine J_joinK (fun (s : (List ((List UInt8) × (List UInt8)))) => envL [(6, .own 0 0 0 (List.length s))]) (fun (s : (List ((List UInt8) × (List UInt8)))) => [.slice 0 42 2 (List.map enc_api_Field s)]) (fun s => s = o27) (by repeat (first | exact subC_then | refine subC_block ?_)) ?_ ?_
    · clear hQ24
      refine J_block ?_
      refine J_loop (σ := Nat × Int × (List ((List UInt8) × (List UInt8)))) (fun (s : Nat × Int × (List ((List UInt8) × (List UInt8)))) => envL [(6, .own 0 0 0 (List.length s.2.2)), (25, .view 1 (List.map (encL 2 enc_api_Field) slices1)), (26, .int .i64 (List.length slices1 : Int)), (27, .int .i64 s.2.1)]) (fun (s : Nat × Int × (List ((List UInt8) × (List UInt8)))) => [.slice 0 42 2 (List.map enc_api_Field s.2.2)]) (fun s => slices_Concat_api_Field_api_Field_L24 slices1 s.1 s.2.1 s.2.2 = some o27) (fun s => s.1) (1099511627776, 0, r12) hP (so [0]) ?_
      rintro ⟨k22, v20, l21⟩ hP
      dsimp only at hP ⊢
      cases k22 with
      | zero => simp [slices_Concat_api_Field_api_Field_L24] at hP
      | succ k22 =>
        simp only [slices_Concat_api_Field_api_Field_L24] at hP
        refine J_seq ?_
        refine J_region (by kernel_rfl) ?_
        (try simp only [go_sem, Nat.reduceEqDiff, ↓reduceIte, Nat.reduceAdd, Nat.reduceSub, Nat.reduceLT, Nat.reduceMul, reduceCtorEq, Int.reduceToNat, Int.reduceLE, Int.reduceLT, Nat.reduceLeDiff])
        refine hold2 (then_n ?_)
        refine J_seq ?_
        refine J_condV rfl ?_
        (try simp only [go_sem, Nat.reduceEqDiff, ↓reduceIte, Nat.reduceAdd, Nat.reduceSub, Nat.reduceLT, Nat.reduceMul, reduceCtorEq, Int.reduceToNat, Int.reduceLE, Int.reduceLT, Nat.reduceLeDiff])
        rcases ite_cases hP with ⟨hc, hP⟩ | ⟨hc, hP⟩
        · refine condV_t hc ?_
          refine J_skip (then_n ?_)
          refine J_seq ?_
          refine J_block ?_
          refine J_seq ?_
          refine J_region (by kernel_rfl) ?_
          (try simp only [go_sem, Nat.reduceEqDiff, ↓reduceIte, Nat.reduceAdd, Nat.reduceSub, Nat.reduceLT, Nat.reduceMul, reduceCtorEq, Int.reduceToNat, Int.reduceLE, Int.reduceLT, Nat.reduceLeDiff])
          obtain ⟨x25, hx25, hP⟩ := bind_cases hP
          refine ixV_of hx25 ?_
          (try simp only [go_sem, Nat.reduceEqDiff, ↓reduceIte, Nat.reduceAdd, Nat.reduceSub, Nat.reduceLT, Nat.reduceMul, reduceCtorEq, Int.reduceToNat, Int.reduceLE, Int.reduceLT, Nat.reduceLeDiff])
          refine hold2 (then_n ?_)
          refine J_region (by kernel_rfl) ?_
          (try simp only [go_sem, Nat.reduceEqDiff, ↓reduceIte, Nat.reduceAdd, Nat.reduceSub, Nat.reduceLT, Nat.reduceMul, reduceCtorEq, Int.reduceToNat, Int.reduceLE, Int.reduceLT, Nat.reduceLeDiff])
          obtain ⟨_, hz26, hP⟩ := bind_cases hP
          refine app_own (f := enc_api_Field) (l21 : List ((List UInt8) × (List UInt8))) (x25 : List ((List UInt8) × (List UInt8))) rfl tyS_22 (by decide) (by simp only [go_sem, Nat.reduceEqDiff, ↓reduceIte, Nat.reduceAdd, Nat.reduceSub, Nat.reduceLT, Nat.reduceMul, reduceCtorEq, Int.reduceToNat, Int.reduceLE, Int.reduceLT, Nat.reduceLeDiff]; first | done | rfl | exact ⟨rfl, rfl⟩) hz26 ?_
          (try simp only [go_sem, Nat.reduceEqDiff, ↓reduceIte, Nat.reduceAdd, Nat.reduceSub, Nat.reduceLT, Nat.reduceMul, reduceCtorEq, Int.reduceToNat, Int.reduceLE, Int.reduceLT, Nat.reduceLeDiff])
          refine hold2 (block_n (then_n ?_))
          refine J_region (by kernel_rfl) ?_
          (try simp only [go_sem, Nat.reduceEqDiff, ↓reduceIte, Nat.reduceAdd, Nat.reduceSub, Nat.reduceLT, Nat.reduceMul, reduceCtorEq, Int.reduceToNat, Int.reduceLE, Int.reduceLT, Nat.reduceLeDiff])
          refine hold2 ?_
          exact loop_n (k22, iadd .i64 v20 1, l21 ++ x25) hP (Nat.lt_succ_self _) (so [0])
        · refine condV_f hc ?_
          refine J_exit (then_exit (loop_exit (block_eq ?_)))
          exact join_n l21 (Option.some.inj hP) (so [0])
    · intro j28 hs
      subst hs
      have hP := hQ24
      clear hQ24
      refine then_n ?_
      refine J_seq ?_
      refine J_region (by kernel_rfl) ?_
      (try simp only [go_sem, Nat.reduceEqDiff, ↓reduceIte, Nat.reduceAdd, Nat.reduceSub, Nat.reduceLT, Nat.reduceMul, reduceCtorEq, Int.reduceToNat, Int.reduceLE, Int.reduceLT, Nat.reduceLeDiff])
      refine hold2 (then_n ?_)
      refine J_ret (fin_ret ?_)
      obtain rfl := Option.some.inj hP
      (try simp only [go_sem, Nat.reduceEqDiff, ↓reduceIte, Nat.reduceAdd, Nat.reduceSub, Nat.reduceLT, Nat.reduceMul, reduceCtorEq, Int.reduceToNat, Int.reduceLE, Int.reduceLT, Nat.reduceLeDiff])
      exact fo [0]
/-- colander/harden.Page -/
def harden_Page (p1 : Int × (List UInt8) × (List ((List UInt8) × (List UInt8)))) (n2 : Int) (last3 : Bool) : Option ((Int × (List UInt8) × (List ((List UInt8) × (List UInt8))))) :=
  (harden_hop p1.2.2 [[67, 111, 110, 116, 101, 110, 116, 45, 84, 121, 112, 101], [67, 111, 110, 116, 101, 110, 116, 45, 69, 110, 99, 111, 100, 105, 110, 103], [67, 111, 110, 116, 101, 110, 116, 45, 83, 101, 99, 117, 114, 105, 116, 121, 45, 80, 111, 108, 105, 99, 121], [88, 45, 67, 111, 110, 116, 101, 110, 116, 45, 84, 121, 112, 101, 45, 79, 112, 116, 105, 111, 110, 115], [69, 84, 97, 103], [67, 111, 110, 116, 101, 110, 116, 45, 77, 68, 53], [65, 99, 99, 101, 112, 116, 45, 82, 97, 110, 103, 101, 115], [67, 111, 110, 116, 101, 110, 116, 45, 82, 97, 110, 103, 101], [82, 101, 102, 114, 101, 115, 104], [76, 105, 110, 107]]).bind fun r4 =>
  (fields_Without p1.2.2 r4).bind fun r5 =>
  (harden_length n2).bind fun r6 =>
  (harden_closing last3).bind fun r7 =>
  (slices_Concat_api_Field_api_Field [r5, [([67, 111, 110, 116, 101, 110, 116, 45, 84, 121, 112, 101], [116, 101, 120, 116, 47, 104, 116, 109, 108, 59, 32, 99, 104, 97, 114, 115, 101, 116, 61, 117, 116, 102, 45, 56]), ([67, 111, 110, 116, 101, 110, 116, 45, 83, 101, 99, 117, 114, 105, 116, 121, 45, 80, 111, 108, 105, 99, 121], [100, 101, 102, 97, 117, 108, 116, 45, 115, 114, 99, 32, 39, 110, 111, 110, 101, 39, 59, 32, 98, 97, 115, 101, 45, 117, 114, 105, 32, 39, 110, 111, 110, 101, 39, 59, 32, 102, 111, 114, 109, 45, 97, 99, 116, 105, 111, 110, 32, 39, 110, 111, 110, 101, 39, 59, 32, 115, 97, 110, 100, 98, 111, 120]), ([88, 45, 67, 111, 110, 116, 101, 110, 116, 45, 84, 121, 112, 101, 45, 79, 112, 116, 105, 111, 110, 115], [110, 111, 115, 110, 105, 102, 102])], r6, r7]).bind fun r8 =>
  some (p1.1, p1.2.1, r8)
set_option maxRecDepth 100000 in
set_option maxHeartbeats 40000000 in
theorem harden_Page_ok {p1 : Int × (List UInt8) × (List ((List UInt8) × (List UInt8)))} {n2 : Int} {last3 : Bool} {r : (Int × (List UInt8) × (List ((List UInt8) × (List UInt8))))} (hP : harden_Page p1 n2 last3 = some r) : CallOK Tryd.prog 5 [.agg [.int .i64 p1.1, .str p1.2.1, .view 2 (List.map enc_api_Field p1.2.2)], .int .i64 n2, .bool last3] (.agg [.int .i64 r.1, .str r.2.1, .own 0 0 0 (List.length r.2.2)]) [.slice 0 42 2 (List.map enc_api_Field r.2.2)] := by
  unfold harden_Page at hP
  refine co (hvo := (by first | (intro o ho; simp at ho; done) | (simp [vfO, AV.vf, AV.vfL, encB, encI, encS, encO, enc_api_Body, enc_api_Field, enc_api_Param]; done) | (simp [vfO, AV.vf, AV.vfL, encB, encI, encS, encO, enc_api_Body, enc_api_Field, enc_api_Param]; intros; subst_vars; simp [AV.vf, AV.vfL]))) 28 [.cell 6 24] Tryd.func5 ?_
  refine J_seq ?_
  refine J_region (by kernel_rfl) ?_
  (try simp only [go_sem, Nat.reduceEqDiff, ↓reduceIte, Nat.reduceAdd, Nat.reduceSub, Nat.reduceLT, Nat.reduceMul, reduceCtorEq, Int.reduceToNat, Int.reduceLE, Int.reduceLT, Nat.reduceLeDiff])
  refine hold2 (then_n ?_)
  refine J_prom 42 2 (by decide) 1 2 _ _ rfl rfl ?_
  (try simp only [go_sem, Nat.reduceEqDiff, ↓reduceIte, Nat.reduceAdd, Nat.reduceSub, Nat.reduceLT, Nat.reduceMul, reduceCtorEq, Int.reduceToNat, Int.reduceLE, Int.reduceLT, Nat.reduceLeDiff])
  refine J_seq ?_
  refine J_region (by kernel_rfl) ?_
  (try simp only [go_sem, Nat.reduceEqDiff, ↓reduceIte, Nat.reduceAdd, Nat.reduceSub, Nat.reduceLT, Nat.reduceMul, reduceCtorEq, Int.reduceToNat, Int.reduceLE, Int.reduceLT, Nat.reduceLeDiff])
  obtain ⟨r4, hr4, hP⟩ := bind_cases hP
  refine call_ok [.view 2 (List.map enc_api_Field p1.2.2), .view 1 (List.map encS [[67, 111, 110, 116, 101, 110, 116, 45, 84, 121, 112, 101], [67, 111, 110, 116, 101, 110, 116, 45, 69, 110, 99, 111, 100, 105, 110, 103], [67, 111, 110, 116, 101, 110, 116, 45, 83, 101, 99, 117, 114, 105, 116, 121, 45, 80, 111, 108, 105, 99, 121], [88, 45, 67, 111, 110, 116, 101, 110, 116, 45, 84, 121, 112, 101, 45, 79, 112, 116, 105, 111, 110, 115], [69, 84, 97, 103], [67, 111, 110, 116, 101, 110, 116, 45, 77, 68, 53], [65, 99, 99, 101, 112, 116, 45, 82, 97, 110, 103, 101, 115], [67, 111, 110, 116, 101, 110, 116, 45, 82, 97, 110, 103, 101], [82, 101, 102, 114, 101, 115, 104], [76, 105, 110, 107]])] (harden_hop_ok hr4) ⟨argR_m false rfl, argR_m false (by simp only [arg, go_sem, Nat.reduceEqDiff, ↓reduceIte, Nat.reduceAdd, Nat.reduceSub, Nat.reduceLT, Nat.reduceMul, reduceCtorEq, Int.reduceToNat, Int.reduceLE, Int.reduceLT, Nat.reduceLeDiff]), trivial⟩ ?_
  (try simp only [go_sem, Nat.reduceEqDiff, ↓reduceIte, Nat.reduceAdd, Nat.reduceSub, Nat.reduceLT, Nat.reduceMul, reduceCtorEq, Int.reduceToNat, Int.reduceLE, Int.reduceLT, Nat.reduceLeDiff])
  refine hold2 (then_n ?_)
  refine J_seq ?_
  refine J_regionZ 12 [15, 19, 21, 23] (by kernel_rfl) ?_
  (try simp only [List.take_succ_cons, List.take_zero, List.drop_succ_cons, List.drop_zero, go_sem, Nat.reduceEqDiff, ↓reduceIte, Nat.reduceAdd, Nat.reduceSub, Nat.reduceLT, Nat.reduceMul, reduceCtorEq, Int.reduceToNat, Int.reduceLE, Int.reduceLT, Nat.reduceLeDiff])
  obtain ⟨r5, hr5, hP⟩ := bind_cases hP
  refine call_ok [.view 2 (List.map enc_api_Field p1.2.2), .view 1 (List.map encS r4)] (fields_Without_ok hr5) ⟨argR_m false rfl, argR_m false (by simp only [arg, go_sem, Nat.reduceEqDiff, ↓reduceIte, Nat.reduceAdd, Nat.reduceSub, Nat.reduceLT, Nat.reduceMul, reduceCtorEq, Int.reduceToNat, Int.reduceLE, Int.reduceLT, Nat.reduceLeDiff]), trivial⟩ ?_
  (try simp only [go_sem, Nat.reduceEqDiff, ↓reduceIte, Nat.reduceAdd, Nat.reduceSub, Nat.reduceLT, Nat.reduceMul, reduceCtorEq, Int.reduceToNat, Int.reduceLE, Int.reduceLT, Nat.reduceLeDiff])
  obtain ⟨r6, hr6, hP⟩ := bind_cases hP
  refine call_ok [.int .i64 n2] (harden_length_ok hr6) ⟨argR_m false rfl, trivial⟩ ?_
  (try simp only [go_sem, Nat.reduceEqDiff, ↓reduceIte, Nat.reduceAdd, Nat.reduceSub, Nat.reduceLT, Nat.reduceMul, reduceCtorEq, Int.reduceToNat, Int.reduceLE, Int.reduceLT, Nat.reduceLeDiff])
  obtain ⟨r7, hr7, hP⟩ := bind_cases hP
  refine call_ok [.bool last3] (harden_closing_ok hr7) ⟨argR_m false rfl, trivial⟩ ?_
  (try simp only [go_sem, Nat.reduceEqDiff, ↓reduceIte, Nat.reduceAdd, Nat.reduceSub, Nat.reduceLT, Nat.reduceMul, reduceCtorEq, Int.reduceToNat, Int.reduceLE, Int.reduceLT, Nat.reduceLeDiff])
  refine froz_of rfl rfl (by first | rfl | simp only [List.length_map, List.length_replicate]) ?_
  (try simp only [List.drop_succ_cons, List.drop_zero, go_sem, Nat.reduceEqDiff, ↓reduceIte, Nat.reduceAdd, Nat.reduceSub, Nat.reduceLT, Nat.reduceMul, reduceCtorEq, Int.reduceToNat, Int.reduceLE, Int.reduceLT, Nat.reduceLeDiff])
  refine froz_of rfl rfl (by first | rfl | simp only [List.length_map, List.length_replicate]) ?_
  (try simp only [List.drop_succ_cons, List.drop_zero, go_sem, Nat.reduceEqDiff, ↓reduceIte, Nat.reduceAdd, Nat.reduceSub, Nat.reduceLT, Nat.reduceMul, reduceCtorEq, Int.reduceToNat, Int.reduceLE, Int.reduceLT, Nat.reduceLeDiff])
  refine froz_of rfl rfl (by first | rfl | simp only [List.length_map, List.length_replicate]) ?_
  (try simp only [List.drop_succ_cons, List.drop_zero, go_sem, Nat.reduceEqDiff, ↓reduceIte, Nat.reduceAdd, Nat.reduceSub, Nat.reduceLT, Nat.reduceMul, reduceCtorEq, Int.reduceToNat, Int.reduceLE, Int.reduceLT, Nat.reduceLeDiff])
  refine froz_of rfl rfl (by first | rfl | simp only [List.length_map, List.length_replicate]) ?_
  (try simp only [List.drop_succ_cons, List.drop_zero, go_sem, Nat.reduceEqDiff, ↓reduceIte, Nat.reduceAdd, Nat.reduceSub, Nat.reduceLT, Nat.reduceMul, reduceCtorEq, Int.reduceToNat, Int.reduceLE, Int.reduceLT, Nat.reduceLeDiff])
  obtain ⟨r8, hr8, hP⟩ := bind_cases hP
  refine call_ok [.view 1 (List.map (encL 2 enc_api_Field) [r5, [([67, 111, 110, 116, 101, 110, 116, 45, 84, 121, 112, 101], [116, 101, 120, 116, 47, 104, 116, 109, 108, 59, 32, 99, 104, 97, 114, 115, 101, 116, 61, 117, 116, 102, 45, 56]), ([67, 111, 110, 116, 101, 110, 116, 45, 83, 101, 99, 117, 114, 105, 116, 121, 45, 80, 111, 108, 105, 99, 121], [100, 101, 102, 97, 117, 108, 116, 45, 115, 114, 99, 32, 39, 110, 111, 110, 101, 39, 59, 32, 98, 97, 115, 101, 45, 117, 114, 105, 32, 39, 110, 111, 110, 101, 39, 59, 32, 102, 111, 114, 109, 45, 97, 99, 116, 105, 111, 110, 32, 39, 110, 111, 110, 101, 39, 59, 32, 115, 97, 110, 100, 98, 111, 120]), ([88, 45, 67, 111, 110, 116, 101, 110, 116, 45, 84, 121, 112, 101, 45, 79, 112, 116, 105, 111, 110, 115], [110, 111, 115, 110, 105, 102, 102])], r6, r7])] (slices_Concat_api_Field_api_Field_ok hr8) ⟨argR_m false (by simp only [arg, go_sem, Nat.reduceEqDiff, ↓reduceIte, Nat.reduceAdd, Nat.reduceSub, Nat.reduceLT, Nat.reduceMul, reduceCtorEq, Int.reduceToNat, Int.reduceLE, Int.reduceLT, Nat.reduceLeDiff]), trivial⟩ ?_
  (try simp only [go_sem, Nat.reduceEqDiff, ↓reduceIte, Nat.reduceAdd, Nat.reduceSub, Nat.reduceLT, Nat.reduceMul, reduceCtorEq, Int.reduceToNat, Int.reduceLE, Int.reduceLT, Nat.reduceLeDiff])
  refine hold2 (then_n ?_)
  refine J_seq ?_
  refine J_region (by kernel_rfl) ?_
  (try simp only [go_sem, Nat.reduceEqDiff, ↓reduceIte, Nat.reduceAdd, Nat.reduceSub, Nat.reduceLT, Nat.reduceMul, reduceCtorEq, Int.reduceToNat, Int.reduceLE, Int.reduceLT, Nat.reduceLeDiff])
  refine hold2 (then_n ?_)
  refine J_ret (fin_ret ?_)
  obtain rfl := Option.some.inj hP
  (try simp only [go_sem, Nat.reduceEqDiff, ↓reduceIte, Nat.reduceAdd, Nat.reduceSub, Nat.reduceLT, Nat.reduceMul, reduceCtorEq, Int.reduceToNat, Int.reduceLE, Int.reduceLT, Nat.reduceLeDiff])
  exact fo [10]
/-- colander/harden.Plain -/
def harden_Plain (p1 : Int × (List UInt8) × (List ((List UInt8) × (List UInt8)))) (b2 : Int × Int) (last3 : Bool) : Option ((Int × (List UInt8) × (List ((List UInt8) × (List UInt8))))) :=
  (show Option ((List ((List UInt8) × (List UInt8)))) from
    if decide (b2.1 = 1) then
      (harden_length b2.2).bind fun r8 =>
      some r8
    else
      (show Option (Bool) from
        if decide (b2.1 = 2) then
          some (decide (b2.1 = 2))
        else
          some (decide (b2.1 = 3))).bind fun j10 =>
        if j10 then
          some [([84, 114, 97, 110, 115, 102, 101, 114, 45, 69, 110, 99, 111, 100, 105, 110, 103], [99, 104, 117, 110, 107, 101, 100])]
        else
          some ([] : List ((List UInt8) × (List UInt8)))).bind fun j11 =>
    (harden_hop p1.2.2 [[88, 45, 67, 111, 110, 116, 101, 110, 116, 45, 84, 121, 112, 101, 45, 79, 112, 116, 105, 111, 110, 115]]).bind fun r12 =>
    (fields_Without p1.2.2 r12).bind fun r13 =>
    (harden_closing last3).bind fun r14 =>
    (slices_Concat_api_Field_api_Field [r13, [([88, 45, 67, 111, 110, 116, 101, 110, 116, 45, 84, 121, 112, 101, 45, 79, 112, 116, 105, 111, 110, 115], [110, 111, 115, 110, 105, 102, 102])], j11, r14]).bind fun r15 =>
    some (p1.1, p1.2.1, r15)
set_option maxRecDepth 100000 in
set_option maxHeartbeats 40000000 in
theorem harden_Plain_ok {p1 : Int × (List UInt8) × (List ((List UInt8) × (List UInt8)))} {b2 : Int × Int} {last3 : Bool} {r : (Int × (List UInt8) × (List ((List UInt8) × (List UInt8))))} (hP : harden_Plain p1 b2 last3 = some r) : CallOK Tryd.prog 6 [.agg [.int .i64 p1.1, .str p1.2.1, .view 2 (List.map enc_api_Field p1.2.2)], .agg [.int .i64 b2.1, .int .i64 b2.2], .bool last3] (.agg [.int .i64 r.1, .str r.2.1, .own 0 0 0 (List.length r.2.2)]) [.slice 0 42 2 (List.map enc_api_Field r.2.2)] := by
  unfold harden_Plain at hP
  refine co (hvo := (by first | (intro o ho; simp at ho; done) | (simp [vfO, AV.vf, AV.vfL, encB, encI, encS, encO, enc_api_Body, enc_api_Field, enc_api_Param]; done) | (simp [vfO, AV.vf, AV.vfL, encB, encI, encS, encO, enc_api_Body, enc_api_Field, enc_api_Param]; intros; subst_vars; simp [AV.vf, AV.vfL]))) 38 [.cell 6 24] Tryd.func6 ?_
  refine J_seq ?_
  refine J_region (by kernel_rfl) ?_
  (try simp only [go_sem, Nat.reduceEqDiff, ↓reduceIte, Nat.reduceAdd, Nat.reduceSub, Nat.reduceLT, Nat.reduceMul, reduceCtorEq, Int.reduceToNat, Int.reduceLE, Int.reduceLT, Nat.reduceLeDiff])
  refine hold2 (then_n ?_)
  refine J_prom 42 2 (by decide) 2 2 _ _ rfl rfl ?_
  (try simp only [go_sem, Nat.reduceEqDiff, ↓reduceIte, Nat.reduceAdd, Nat.reduceSub, Nat.reduceLT, Nat.reduceMul, reduceCtorEq, Int.reduceToNat, Int.reduceLE, Int.reduceLT, Nat.reduceLeDiff])
  refine J_seq ?_
  refine J_region (by kernel_rfl) ?_
  (try simp only [go_sem, Nat.reduceEqDiff, ↓reduceIte, Nat.reduceAdd, Nat.reduceSub, Nat.reduceLT, Nat.reduceMul, reduceCtorEq, Int.reduceToNat, Int.reduceLE, Int.reduceLT, Nat.reduceLeDiff])
  refine hold2 (then_n ?_)
  obtain ⟨o7, hP, hQ7⟩ := bind_cases hP
  refine J_join (fun (s : (List ((List UInt8) × (List UInt8)))) => envL [(2, .bool last3), (3, .bptr 0 0), (6, .bptr 1 0), (7, .own 3 0 0 (List.length s))]) (fun (s : (List ((List UInt8) × (List UInt8)))) => [.box 24 [.int .i64 p1.1, .str p1.2.1, .view 2 (List.map enc_api_Field p1.2.2)], .box 24 [.int .i64 0, .str [], .own 2 0 0 (List.length ([] : List ((List UInt8) × (List UInt8))))], .slice 0 42 2 (List.map enc_api_Field ([] : List ((List UInt8) × (List UInt8)))), .slice 0 42 2 (List.map enc_api_Field s)]) (fun s => s = o7) ?_ ?_
  · clear hQ7
    refine J_seq ?_
    refine J_region (by kernel_rfl) ?_
    (try simp only [go_sem, Nat.reduceEqDiff, ↓reduceIte, Nat.reduceAdd, Nat.reduceSub, Nat.reduceLT, Nat.reduceMul, reduceCtorEq, Int.reduceToNat, Int.reduceLE, Int.reduceLT, Nat.reduceLeDiff])
    refine hold2 (then_n ?_)
    refine J_block ?_
    refine J_seq ?_
    refine J_region (by kernel_rfl) ?_
    (try simp only [go_sem, Nat.reduceEqDiff, ↓reduceIte, Nat.reduceAdd, Nat.reduceSub, Nat.reduceLT, Nat.reduceMul, reduceCtorEq, Int.reduceToNat, Int.reduceLE, Int.reduceLT, Nat.reduceLeDiff])
    refine hold2 (then_n ?_)
    refine J_condV rfl ?_
    (try simp only [go_sem, Nat.reduceEqDiff, ↓reduceIte, Nat.reduceAdd, Nat.reduceSub, Nat.reduceLT, Nat.reduceMul, reduceCtorEq, Int.reduceToNat, Int.reduceLE, Int.reduceLT, Nat.reduceLeDiff])
    rcases ite_cases hP with ⟨hc, hP⟩ | ⟨hc, hP⟩
    · refine condV_t hc ?_
      refine J_region (by kernel_rfl) ?_
      (try simp only [go_sem, Nat.reduceEqDiff, ↓reduceIte, Nat.reduceAdd, Nat.reduceSub, Nat.reduceLT, Nat.reduceMul, reduceCtorEq, Int.reduceToNat, Int.reduceLE, Int.reduceLT, Nat.reduceLeDiff])
      obtain ⟨r8, hr8, hP⟩ := bind_cases hP
      refine call_ok [.int .i64 b2.2] (harden_length_ok hr8) ⟨argR_m false rfl, trivial⟩ ?_
      (try simp only [go_sem, Nat.reduceEqDiff, ↓reduceIte, Nat.reduceAdd, Nat.reduceSub, Nat.reduceLT, Nat.reduceMul, reduceCtorEq, Int.reduceToNat, Int.reduceLE, Int.reduceLT, Nat.reduceLeDiff])
      refine hold2 (block_n ?_)
      exact join_n r8 (Option.some.inj hP) (so [0, 2, 3, 5])
    · refine condV_f hc ?_
      obtain ⟨o9, hP, hQ9⟩ := bind_cases hP
      refine J_join (fun (s : Bool) => envL [(2, .bool last3), (3, .bptr 0 0), (6, .bptr 1 0), (7, .own 3 0 0 (List.length ([] : List ((List UInt8) × (List UInt8))))), (16, .bool s)]) (fun (s : Bool) => [.box 24 [.int .i64 p1.1, .str p1.2.1, .view 2 (List.map enc_api_Field p1.2.2)], .box 24 [.int .i64 0, .str [], .own 2 0 0 (List.length ([] : List ((List UInt8) × (List UInt8))))], .slice 0 42 2 (List.map enc_api_Field ([] : List ((List UInt8) × (List UInt8)))), .slice 0 42 2 (List.map enc_api_Field ([] : List ((List UInt8) × (List UInt8))))]) (fun s => s = o9) ?_ ?_
      · clear hQ9
        refine J_seq ?_
        refine J_region (by kernel_rfl) ?_
        (try simp only [go_sem, Nat.reduceEqDiff, ↓reduceIte, Nat.reduceAdd, Nat.reduceSub, Nat.reduceLT, Nat.reduceMul, reduceCtorEq, Int.reduceToNat, Int.reduceLE, Int.reduceLT, Nat.reduceLeDiff])
        refine hold2 (then_n ?_)
        refine J_condV rfl ?_
        (try simp only [go_sem, Nat.reduceEqDiff, ↓reduceIte, Nat.reduceAdd, Nat.reduceSub, Nat.reduceLT, Nat.reduceMul, reduceCtorEq, Int.reduceToNat, Int.reduceLE, Int.reduceLT, Nat.reduceLeDiff])
        rcases ite_cases hP with ⟨hc, hP⟩ | ⟨hc, hP⟩
        · refine condV_t hc ?_
          refine J_skip ?_
          exact join_n (decide (b2.1 = 2)) (Option.some.inj hP) (so [0, 2, 3, 4])
        · refine condV_f hc ?_
          refine J_region (by kernel_rfl) ?_
          (try simp only [go_sem, Nat.reduceEqDiff, ↓reduceIte, Nat.reduceAdd, Nat.reduceSub, Nat.reduceLT, Nat.reduceMul, reduceCtorEq, Int.reduceToNat, Int.reduceLE, Int.reduceLT, Nat.reduceLeDiff])
          refine hold2 ?_
          exact join_n (decide (b2.1 = 3)) (Option.some.inj hP) (so [0, 2, 3, 4])
      · intro j10 hs
        subst hs
        have hP := hQ9
        clear hQ9
        refine J_condV rfl ?_
        (try simp only [go_sem, Nat.reduceEqDiff, ↓reduceIte, Nat.reduceAdd, Nat.reduceSub, Nat.reduceLT, Nat.reduceMul, reduceCtorEq, Int.reduceToNat, Int.reduceLE, Int.reduceLT, Nat.reduceLeDiff])
        rcases ite_cases hP with ⟨hc, hP⟩ | ⟨hc, hP⟩
        · refine condV_t hc ?_
          refine J_region (by kernel_rfl) ?_
          (try simp only [go_sem, Nat.reduceEqDiff, ↓reduceIte, Nat.reduceAdd, Nat.reduceSub, Nat.reduceLT, Nat.reduceMul, reduceCtorEq, Int.reduceToNat, Int.reduceLE, Int.reduceLT, Nat.reduceLeDiff])
          refine hold2 (block_n ?_)
          exact join_n [([84, 114, 97, 110, 115, 102, 101, 114, 45, 69, 110, 99, 111, 100, 105, 110, 103], [99, 104, 117, 110, 107, 101, 100])] (Option.some.inj hP) (so [0, 1, 2, 4])
        · refine condV_f hc ?_
          refine J_skip (block_n ?_)
          exact join_n ([] : List ((List UInt8) × (List UInt8))) (Option.some.inj hP) (so [0, 1, 2, 3])
  · intro j11 hs
    subst hs
    have hP := hQ7
    clear hQ7
    refine J_seq ?_
    refine J_regionT [(0, none), (2, none), (1, some [6, 7]), (3, some [5, 6, 7])] (.early 4 (.early 5 (.early 6 (.early 7 (.done))))) [] [8, 21, 22, 23, 24, 25, 26, 27] follows_mixed (by kernel_rfl) (by kernel_rfl) (by kernel_rfl) (by kernel_rfl) (by kernel_rfl) (by kernel_rfl) ?_
    simp only [pickT_cons, pickT_nil, go_sem, Nat.reduceEqDiff, ↓reduceIte, Nat.reduceAdd, Nat.reduceSub, Nat.reduceLT, Nat.reduceMul, reduceCtorEq, Int.reduceToNat, Int.reduceLE, Int.reduceLT, Nat.reduceLeDiff]
    (try simp only [go_sem, Nat.reduceEqDiff, ↓reduceIte, Nat.reduceAdd, Nat.reduceSub, Nat.reduceLT, Nat.reduceMul, reduceCtorEq, Int.reduceToNat, Int.reduceLE, Int.reduceLT, Nat.reduceLeDiff])
    obtain ⟨r12, hr12, hP⟩ := bind_cases hP
    refine callE_ok [.view 2 (List.map enc_api_Field p1.2.2), .view 1 (List.map encS [[88, 45, 67, 111, 110, 116, 101, 110, 116, 45, 84, 121, 112, 101, 45, 79, 112, 116, 105, 111, 110, 115]])] (harden_hop_ok hr12) ⟨argR_m false rfl, argR_m false (by simp only [arg, go_sem, Nat.reduceEqDiff, ↓reduceIte, Nat.reduceAdd, Nat.reduceSub, Nat.reduceLT, Nat.reduceMul, reduceCtorEq, Int.reduceToNat, Int.reduceLE, Int.reduceLT, Nat.reduceLeDiff]), trivial⟩ ?_
    (try simp only [go_sem, Nat.reduceEqDiff, ↓reduceIte, Nat.reduceAdd, Nat.reduceSub, Nat.reduceLT, Nat.reduceMul, reduceCtorEq, Int.reduceToNat, Int.reduceLE, Int.reduceLT, Nat.reduceLeDiff])
    obtain ⟨r13, hr13, hP⟩ := bind_cases hP
    refine callE_ok [.view 2 (List.map enc_api_Field p1.2.2), .view 1 (List.map encS r12)] (fields_Without_ok hr13) ⟨argR_m false rfl, argR_m false (by simp only [arg, go_sem, Nat.reduceEqDiff, ↓reduceIte, Nat.reduceAdd, Nat.reduceSub, Nat.reduceLT, Nat.reduceMul, reduceCtorEq, Int.reduceToNat, Int.reduceLE, Int.reduceLT, Nat.reduceLeDiff]), trivial⟩ ?_
    (try simp only [go_sem, Nat.reduceEqDiff, ↓reduceIte, Nat.reduceAdd, Nat.reduceSub, Nat.reduceLT, Nat.reduceMul, reduceCtorEq, Int.reduceToNat, Int.reduceLE, Int.reduceLT, Nat.reduceLeDiff])
    refine hold2 (then_n ?_)
    refine J_seq ?_
    refine J_regionZ 6 [28, 30, 31, 33] (by kernel_rfl) ?_
    (try simp only [List.take_succ_cons, List.take_zero, List.drop_succ_cons, List.drop_zero, go_sem, Nat.reduceEqDiff, ↓reduceIte, Nat.reduceAdd, Nat.reduceSub, Nat.reduceLT, Nat.reduceMul, reduceCtorEq, Int.reduceToNat, Int.reduceLE, Int.reduceLT, Nat.reduceLeDiff])
    obtain ⟨r14, hr14, hP⟩ := bind_cases hP
    refine call_ok [.bool last3] (harden_closing_ok hr14) ⟨argR_m false rfl, trivial⟩ ?_
    (try simp only [go_sem, Nat.reduceEqDiff, ↓reduceIte, Nat.reduceAdd, Nat.reduceSub, Nat.reduceLT, Nat.reduceMul, reduceCtorEq, Int.reduceToNat, Int.reduceLE, Int.reduceLT, Nat.reduceLeDiff])
    refine froz_of rfl rfl (by first | rfl | simp only [List.length_map, List.length_replicate]) ?_
    (try simp only [List.drop_succ_cons, List.drop_zero, go_sem, Nat.reduceEqDiff, ↓reduceIte, Nat.reduceAdd, Nat.reduceSub, Nat.reduceLT, Nat.reduceMul, reduceCtorEq, Int.reduceToNat, Int.reduceLE, Int.reduceLT, Nat.reduceLeDiff])
    refine froz_of rfl rfl (by first | rfl | simp only [List.length_map, List.length_replicate]) ?_
    (try simp only [List.drop_succ_cons, List.drop_zero, go_sem, Nat.reduceEqDiff, ↓reduceIte, Nat.reduceAdd, Nat.reduceSub, Nat.reduceLT, Nat.reduceMul, reduceCtorEq, Int.reduceToNat, Int.reduceLE, Int.reduceLT, Nat.reduceLeDiff])
    refine froz_of rfl rfl (by first | rfl | simp only [List.length_map, List.length_replicate]) ?_
    (try simp only [List.drop_succ_cons, List.drop_zero, go_sem, Nat.reduceEqDiff, ↓reduceIte, Nat.reduceAdd, Nat.reduceSub, Nat.reduceLT, Nat.reduceMul, reduceCtorEq, Int.reduceToNat, Int.reduceLE, Int.reduceLT, Nat.reduceLeDiff])
    refine froz_of rfl rfl (by first | rfl | simp only [List.length_map, List.length_replicate]) ?_
    (try simp only [List.drop_succ_cons, List.drop_zero, go_sem, Nat.reduceEqDiff, ↓reduceIte, Nat.reduceAdd, Nat.reduceSub, Nat.reduceLT, Nat.reduceMul, reduceCtorEq, Int.reduceToNat, Int.reduceLE, Int.reduceLT, Nat.reduceLeDiff])
    obtain ⟨r15, hr15, hP⟩ := bind_cases hP
    refine call_ok [.view 1 (List.map (encL 2 enc_api_Field) [r13, [([88, 45, 67, 111, 110, 116, 101, 110, 116, 45, 84, 121, 112, 101, 45, 79, 112, 116, 105, 111, 110, 115], [110, 111, 115, 110, 105, 102, 102])], j11, r14])] (slices_Concat_api_Field_api_Field_ok hr15) ⟨argR_m false (by simp only [arg, go_sem, Nat.reduceEqDiff, ↓reduceIte, Nat.reduceAdd, Nat.reduceSub, Nat.reduceLT, Nat.reduceMul, reduceCtorEq, Int.reduceToNat, Int.reduceLE, Int.reduceLT, Nat.reduceLeDiff]), trivial⟩ ?_
    (try simp only [go_sem, Nat.reduceEqDiff, ↓reduceIte, Nat.reduceAdd, Nat.reduceSub, Nat.reduceLT, Nat.reduceMul, reduceCtorEq, Int.reduceToNat, Int.reduceLE, Int.reduceLT, Nat.reduceLeDiff])
    refine hold2 (then_n ?_)
    refine J_seq ?_
    refine J_region (by kernel_rfl) ?_
    (try simp only [go_sem, Nat.reduceEqDiff, ↓reduceIte, Nat.reduceAdd, Nat.reduceSub, Nat.reduceLT, Nat.reduceMul, reduceCtorEq, Int.reduceToNat, Int.reduceLE, Int.reduceLT, Nat.reduceLeDiff])
    refine hold2 (then_n ?_)
    refine J_ret (fin_ret ?_)
    obtain rfl := Option.some.inj hP
    (try simp only [go_sem, Nat.reduceEqDiff, ↓reduceIte, Nat.reduceAdd, Nat.reduceSub, Nat.reduceLT, Nat.reduceMul, reduceCtorEq, Int.reduceToNat, Int.reduceLE, Int.reduceLT, Nat.reduceLeDiff])
    exact fo [10]
end Go.Proofs.YtgngopfpnidbaaaDoor
