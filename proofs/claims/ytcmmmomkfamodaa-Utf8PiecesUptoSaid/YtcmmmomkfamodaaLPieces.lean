/- Functions of the program, and pure ones that go the same ways: that the program's return what these compute. -/
import Derived.Test.YtcmmmomkfamodaaGC
namespace Go.Proofs.Ytcmmmomkfamodaa
open Go.Av
set_option linter.unusedVariables false
set_option linter.unusedSimpArgs false
/-- colander/colanderlaw08.Utf8Pieces -/
def law08_Utf8Pieces_L97 (cuts2 : List (Int)) : Nat → (List UInt8) → (List (UInt8)) → Int → (List (UInt8)) → Option (Sum (Bool) ((List UInt8) × (List (UInt8)) × (List (UInt8))))
  | 0, _, _, _, _ => none
  | k71 + 1, s67, rest68, i69, l70 =>
    (show Option (Bool) from
      if decide (i69 < (List.length cuts2 : Int)) then
        some (decide (0 < (List.length rest68 : Int)))
      else
        some false).bind fun j99 =>
      if j99 then
        (ixL cuts2 i69).bind fun x100 =>
        (slL rest68 0 (min (iand .i64 x100 7) (List.length rest68 : Int))).bind fun s101 =>
        (show Option ((List UInt8) × (List (UInt8))) from
          (szC (List.length (l70 : List (UInt8)))).bind fun _ =>
          (szC (List.length (l70 ++ s101 : List (UInt8)))).bind fun _ =>
          (utf8_held (l70 ++ s101)).bind fun r111 =>
          (slL (l70 ++ s101) (isub .i64 ((List.length (l70 ++ s101) : Nat) : Int) r111) ((List.length (l70 ++ s101) : Nat) : Int)).bind fun s112 =>
          (szC (List.length (s112 : List (UInt8)))).bind fun _ =>
          (slL (l70 ++ s101) 0 (isub .i64 ((List.length (l70 ++ s101) : Nat) : Int) r111)).bind fun s114 =>
          (utf8_Decode s114).bind fun r115 =>
          some (r115, s112)).bind fun a116 =>
          (szC (List.length (s67 ++ a116.1))).bind fun _ =>
          (slL rest68 (min (iand .i64 x100 7) (List.length rest68 : Int)) (List.length rest68 : Int)).bind fun s119 =>
          (show Option (Unit) from
            some ()).bind fun a120 =>
            (show Option (Bool) from
              if decide (((List.length a116.2 : Nat) : Int) < 0) then
                some true
              else
                if decide (3 < ((List.length a116.2 : Nat) : Int)) then
                  some true
                else
                  some (decide (100000 < (List.length (s67 ++ a116.1) : Int)))).bind fun j123 =>
              if j123 then
                if decide (100000 < (List.length (s67 ++ a116.1) : Int)) then
                  if decide (0 ≤ ((List.length a116.2 : Nat) : Int)) then
                    some (Sum.inl (decide (((List.length a116.2 : Nat) : Int) ≤ 3)))
                  else
                    some (Sum.inl false)
                else
                  some (Sum.inl false)
              else
                law08_Utf8Pieces_L97 cuts2 k71 (s67 ++ a116.1) s119 (iadd .i64 i69 1) a116.2
      else
        some (Sum.inr (s67, rest68, l70))
def law08_Utf8Pieces (b1 : List (UInt8)) (cuts2 : List (Int)) : Option (Bool) :=
  (law08_shown).bind fun r3 =>
  (show Option (Unit) from
    some ()).bind fun a4 =>
    (show Option (Bool) from
      if !r3 then
        some true
      else
        some false).bind fun j7 =>
      if j7 then
        some false
      else
        (law08_Utf8Pieces_L97 cuts2 1099511627776 [] b1 0 ([] : List UInt8)).bind fun o124 => match o124 with
        | Sum.inl r => some r
        | Sum.inr j125 =>
          (show Option ((List UInt8) × (List (UInt8))) from
            (szC (List.length (j125.2.2 : List (UInt8)))).bind fun _ =>
            (szC (List.length (j125.2.2 ++ j125.2.1 : List (UInt8)))).bind fun _ =>
            (utf8_held (j125.2.2 ++ j125.2.1)).bind fun r135 =>
            (slL (j125.2.2 ++ j125.2.1) (isub .i64 ((List.length (j125.2.2 ++ j125.2.1) : Nat) : Int) r135) ((List.length (j125.2.2 ++ j125.2.1) : Nat) : Int)).bind fun s136 =>
            (szC (List.length (s136 : List (UInt8)))).bind fun _ =>
            (slL (j125.2.2 ++ j125.2.1) 0 (isub .i64 ((List.length (j125.2.2 ++ j125.2.1) : Nat) : Int) r135)).bind fun s138 =>
            (utf8_Decode s138).bind fun r139 =>
            some (r139, s136)).bind fun a140 =>
            (szC (List.length (j125.1 ++ a140.1))).bind fun _ =>
            (show Option ((List UInt8)) from
              (utf8_Decode a140.2).bind fun r144 =>
              some r144).bind fun a145 =>
              (szC (List.length ((j125.1 ++ a140.1) ++ a145))).bind fun _ =>
              (utf8_Decode b1).bind fun r148 =>
              some (decide (((j125.1 ++ a140.1) ++ a145) = r148))
set_option maxRecDepth 100000 in
set_option maxHeartbeats 4000000 in
theorem law08_Utf8Pieces_ok {b1 : List (UInt8)} {cuts2 : List (Int)} {r : Bool} (hP : law08_Utf8Pieces b1 cuts2 = some r) : CallOK Try.prog 10 [.view 1 (List.map encB b1), .view 1 (List.map (encI .i64) cuts2)] (.bool r) [] := by
  unfold law08_Utf8Pieces at hP
  refine callOK_of (n := 87) (rs := [.tmp 4]) Try.func10 rfl (by decide) rfl rfl (by simp) rfl (by first | rfl | simp [AV.vf, AV.vfL]) (by first | (intro o ho; simp at ho; done) | (simp [vfO, AV.vf, AV.vfL, encB, encI, encS, encO])) ?_
  refine J_seq ?_
  refine J_region (by kernel_rfl) ?_
  (try simp only [go_sem, Nat.reduceEqDiff, reduceIte, Nat.reduceAdd, Nat.reduceSub, Nat.reduceLT, Nat.reduceMul, reduceCtorEq, Int.reduceToNat, Int.reduceLE, Int.reduceLT, Nat.reduceLeDiff])
  refine hold2 (then_n ?_)
  refine J_seq ?_
  refine J_region (by kernel_rfl) ?_
  (try simp only [go_sem, Nat.reduceEqDiff, reduceIte, Nat.reduceAdd, Nat.reduceSub, Nat.reduceLT, Nat.reduceMul, reduceCtorEq, Int.reduceToNat, Int.reduceLE, Int.reduceLT, Nat.reduceLeDiff])
  obtain ⟨r3, hr3, hP⟩ := bind_cases hP
  refine call_ok [] (law08_shown_ok hr3) trivial ?_
  (try simp only [go_sem, Nat.reduceEqDiff, reduceIte, Nat.reduceAdd, Nat.reduceSub, Nat.reduceLT, Nat.reduceMul, reduceCtorEq, Int.reduceToNat, Int.reduceLE, Int.reduceLT, Nat.reduceLeDiff])
  refine hold2 (then_n ?_)
  refine J_seq ?_
  refine J_region (by kernel_rfl) ?_
  (try simp only [go_sem, Nat.reduceEqDiff, reduceIte, Nat.reduceAdd, Nat.reduceSub, Nat.reduceLT, Nat.reduceMul, reduceCtorEq, Int.reduceToNat, Int.reduceLE, Int.reduceLT, Nat.reduceLeDiff])
  obtain ⟨o5, hP, hQ4⟩ := bind_cases hP
  refine call_join (fun (s : Unit) => .bptr 0 0) (fun (s : Unit) => envL [(0, .view 1 (List.map encB b1)), (1, .view 1 (List.map (encI .i64) cuts2)), (5, .bool r3)]) (fun (s : Unit) => [.box 58 [.own 1 0 0 (List.length ([] : List UInt8))], .slice 0 5 1 (List.map encB ([] : List UInt8))]) (fun s => s = o5) (callI_of (n := 3) (rs := [.tmp 0]) Try.func24 rfl (by decide) rfl rfl (by simp) rfl ?_) ?_
  · clear hQ4
    refine J_seq ?_
    refine J_region (by kernel_rfl) ?_
    (try simp only [go_sem, Nat.reduceEqDiff, reduceIte, Nat.reduceAdd, Nat.reduceSub, Nat.reduceLT, Nat.reduceMul, reduceCtorEq, Int.reduceToNat, Int.reduceLE, Int.reduceLT, Nat.reduceLeDiff])
    refine hold2 (then_n ?_)
    refine J_seq ?_
    refine J_region (by kernel_rfl) ?_
    (try simp only [go_sem, Nat.reduceEqDiff, reduceIte, Nat.reduceAdd, Nat.reduceSub, Nat.reduceLT, Nat.reduceMul, reduceCtorEq, Int.reduceToNat, Int.reduceLE, Int.reduceLT, Nat.reduceLeDiff])
    refine hold2 (then_n ?_)
    refine J_prom 5 1 (by decide) 0 0 _ _ rfl rfl ?_
    (try simp only [go_sem, Nat.reduceEqDiff, reduceIte, Nat.reduceAdd, Nat.reduceSub, Nat.reduceLT, Nat.reduceMul, reduceCtorEq, Int.reduceToNat, Int.reduceLE, Int.reduceLT, Nat.reduceLeDiff])
    refine J_ret (finI_ret ?_)
    exact told_of ⟨(), Option.some.inj hP, subR_of _ _ _ [0, 1] (by decide) rfl (by first | rfl | simp only [ren, ren2, ren1, go_sem, Nat.reduceEqDiff, reduceIte, Nat.reduceAdd, Nat.reduceSub, Nat.reduceLT, Nat.reduceMul, reduceCtorEq, Int.reduceToNat, Int.reduceLE, Int.reduceLT, Nat.reduceLeDiff]) (by simp only [List.length_set, List.length_replicate, List.forall_mem_cons, List.not_mem_nil, false_implies, implies_true, and_true, go_sem, Nat.reduceEqDiff, reduceIte, Nat.reduceAdd, Nat.reduceSub, Nat.reduceLT, Nat.reduceMul, reduceCtorEq, Int.reduceToNat, Int.reduceLE, Int.reduceLT, Nat.reduceLeDiff, ren, ren2, ren1]; (try (first | done | rfl | (repeat' apply And.intro) <;> first | rfl | omega)))⟩
  · intro a4 hs
    subst hs
    have hP := hQ4
    clear hQ4
    (try simp only [go_sem, Nat.reduceEqDiff, reduceIte, Nat.reduceAdd, Nat.reduceSub, Nat.reduceLT, Nat.reduceMul, reduceCtorEq, Int.reduceToNat, Int.reduceLE, Int.reduceLT, Nat.reduceLeDiff])
    refine hold2 (then_n ?_)
    refine J_seq ?_
    obtain ⟨o6, hP, hQ6⟩ := bind_cases hP
    refine J_join (fun (s : Bool) => envL [(0, .view 1 (List.map encB b1)), (1, .view 1 (List.map (encI .i64) cuts2)), (6, .bptr 0 0), (19, .bool s)]) (fun (s : Bool) => [.box 58 [.own 1 0 0 (List.length ([] : List UInt8))], .slice 0 5 1 (List.map encB ([] : List UInt8))]) (fun s => s = o6) ?_ ?_
    · clear hQ6
      refine J_region (by kernel_rfl) ?_
      (try simp only [go_sem, Nat.reduceEqDiff, reduceIte, Nat.reduceAdd, Nat.reduceSub, Nat.reduceLT, Nat.reduceMul, reduceCtorEq, Int.reduceToNat, Int.reduceLE, Int.reduceLT, Nat.reduceLeDiff])
      rcases ite_cases hP with ⟨hc, hP⟩ | ⟨hc, hP⟩
      · refine guard_not hc ?_
        (try simp only [go_sem, Nat.reduceEqDiff, reduceIte, Nat.reduceAdd, Nat.reduceSub, Nat.reduceLT, Nat.reduceMul, reduceCtorEq, Int.reduceToNat, Int.reduceLE, Int.reduceLT, Nat.reduceLeDiff])
        refine hold2 ?_
        exact join_n true (Option.some.inj hP) (Sub.of _ _ [0, 1] (by decide) rfl (by simp only [List.length_set, List.length_replicate, List.forall_mem_cons, List.not_mem_nil, false_implies, implies_true, and_true, go_sem, Nat.reduceEqDiff, reduceIte, Nat.reduceAdd, Nat.reduceSub, Nat.reduceLT, Nat.reduceMul, reduceCtorEq, Int.reduceToNat, Int.reduceLE, Int.reduceLT, Nat.reduceLeDiff, ren, ren2, ren1]; (try (first | done | rfl | (repeat' apply And.intro) <;> first | rfl | omega))))
      · refine guard_is hc ?_
        (try simp only [go_sem, Nat.reduceEqDiff, reduceIte, Nat.reduceAdd, Nat.reduceSub, Nat.reduceLT, Nat.reduceMul, reduceCtorEq, Int.reduceToNat, Int.reduceLE, Int.reduceLT, Nat.reduceLeDiff])
        refine hold2 ?_
        exact join_n false (Option.some.inj hP) (Sub.of _ _ [0, 1] (by decide) rfl (by simp only [List.length_set, List.length_replicate, List.forall_mem_cons, List.not_mem_nil, false_implies, implies_true, and_true, go_sem, Nat.reduceEqDiff, reduceIte, Nat.reduceAdd, Nat.reduceSub, Nat.reduceLT, Nat.reduceMul, reduceCtorEq, Int.reduceToNat, Int.reduceLE, Int.reduceLT, Nat.reduceLeDiff, ren, ren2, ren1]; (try (first | done | rfl | (repeat' apply And.intro) <;> first | rfl | omega))))
    · intro j7 hs
      subst hs
      have hP := hQ6
      clear hQ6
      refine J_condV rfl ?_
      (try simp only [go_sem, Nat.reduceEqDiff, reduceIte, Nat.reduceAdd, Nat.reduceSub, Nat.reduceLT, Nat.reduceMul, reduceCtorEq, Int.reduceToNat, Int.reduceLE, Int.reduceLT, Nat.reduceLeDiff])
      rcases ite_cases hP with ⟨hc, hP⟩ | ⟨hc, hP⟩
      · refine condV_t hc ?_
        refine J_seq ?_
        refine J_region (by kernel_rfl) ?_
        (try simp only [go_sem, Nat.reduceEqDiff, reduceIte, Nat.reduceAdd, Nat.reduceSub, Nat.reduceLT, Nat.reduceMul, reduceCtorEq, Int.reduceToNat, Int.reduceLE, Int.reduceLT, Nat.reduceLeDiff])
        refine hold2 (then_n ?_)
        refine J_ret (then_ret (fin_ret ?_))
        obtain rfl := Option.some.inj hP
        (try simp only [go_sem, Nat.reduceEqDiff, reduceIte, Nat.reduceAdd, Nat.reduceSub, Nat.reduceLT, Nat.reduceMul, reduceCtorEq, Int.reduceToNat, Int.reduceLE, Int.reduceLT, Nat.reduceLeDiff])
        refine fin_of [] (by decide) ?_ ?_ <;> first | rfl | simp only [List.length_set, List.length_replicate, ren, ren2, ren1, renH, renO, go_sem, Nat.reduceEqDiff, reduceIte, Nat.reduceAdd, Nat.reduceSub, Nat.reduceLT, Nat.reduceMul, reduceCtorEq, Int.reduceToNat, Int.reduceLE, Int.reduceLT, Nat.reduceLeDiff]
      · refine condV_f hc ?_
        refine J_skip (then_n ?_)
        refine J_seq ?_
        refine J_region (by kernel_rfl) ?_
        (try simp only [go_sem, Nat.reduceEqDiff, reduceIte, Nat.reduceAdd, Nat.reduceSub, Nat.reduceLT, Nat.reduceMul, reduceCtorEq, Int.reduceToNat, Int.reduceLE, Int.reduceLT, Nat.reduceLeDiff])
        refine hold2 (then_n ?_)
        refine J_seq ?_
        refine J_region (by kernel_rfl) ?_
        (try simp only [go_sem, Nat.reduceEqDiff, reduceIte, Nat.reduceAdd, Nat.reduceSub, Nat.reduceLT, Nat.reduceMul, reduceCtorEq, Int.reduceToNat, Int.reduceLE, Int.reduceLT, Nat.reduceLeDiff])
        refine hold2 (then_n ?_)
        refine J_seq ?_
        refine J_seq ?_
        refine J_region (by kernel_rfl) ?_
        (try simp only [go_sem, Nat.reduceEqDiff, reduceIte, Nat.reduceAdd, Nat.reduceSub, Nat.reduceLT, Nat.reduceMul, reduceCtorEq, Int.reduceToNat, Int.reduceLE, Int.reduceLT, Nat.reduceLeDiff])
        refine hold2 (then_n ?_)
        obtain ⟨o124, hP, hQ97⟩ := bind_cases hP
        refine J_joinK (fun (s : (List UInt8) × (List (UInt8)) × (List (UInt8))) => envL [(0, .view 1 (List.map encB b1)), (6, .bptr 0 0), (7, .str s.1), (8, .view 1 (List.map encB s.2.1))]) (fun (s : (List UInt8) × (List (UInt8)) × (List (UInt8))) => [.box 58 [.own 1 0 0 (List.length s.2.2)], .slice 0 5 1 (List.map encB s.2.2)]) (fun s => Sum.inr s = o124) (by repeat (first | exact subC_then | refine subC_block ?_)) ?_ ?_
        · refine J_block ?_
          refine J_loop (σ := Nat × (List UInt8) × (List (UInt8)) × Int × (List (UInt8))) (fun (s : Nat × (List UInt8) × (List (UInt8)) × Int × (List (UInt8))) => envL [(0, .view 1 (List.map encB b1)), (1, .view 1 (List.map (encI .i64) cuts2)), (6, .bptr 0 0), (7, .str s.2.1), (8, .view 1 (List.map encB s.2.2.1)), (9, .int .i64 s.2.2.2.1)]) (fun (s : Nat × (List UInt8) × (List (UInt8)) × Int × (List (UInt8))) => [.box 58 [.own 1 0 0 (List.length s.2.2.2.2)], .slice 0 5 1 (List.map encB s.2.2.2.2)]) (fun s => law08_Utf8Pieces_L97 cuts2 s.1 s.2.1 s.2.2.1 s.2.2.2.1 s.2.2.2.2 = some o124) (fun s => s.1) (1099511627776, [], b1, 0, ([] : List UInt8)) hP (Sub.of _ _ [0, 1] (by decide) rfl (by simp only [List.length_set, List.length_replicate, List.forall_mem_cons, List.not_mem_nil, false_implies, implies_true, and_true, go_sem, Nat.reduceEqDiff, reduceIte, Nat.reduceAdd, Nat.reduceSub, Nat.reduceLT, Nat.reduceMul, reduceCtorEq, Int.reduceToNat, Int.reduceLE, Int.reduceLT, Nat.reduceLeDiff, ren, ren2, ren1]; (try (first | done | rfl | (repeat' apply And.intro) <;> first | rfl | omega)))) ?_
          rintro ⟨k71, s67, rest68, i69, l70⟩ hP
          dsimp only at hP ⊢
          cases k71 with
          | zero => simp [law08_Utf8Pieces_L97] at hP
          | succ k71 =>
            simp only [law08_Utf8Pieces_L97] at hP
            refine J_seq ?_
            obtain ⟨o98, hP, hQ98⟩ := bind_cases hP
            refine J_join (fun (s : Bool) => envL [(0, .view 1 (List.map encB b1)), (1, .view 1 (List.map (encI .i64) cuts2)), (6, .bptr 0 0), (7, .str s67), (8, .view 1 (List.map encB rest68)), (9, .int .i64 i69), (29, .bool s)]) (fun (s : Bool) => [.box 58 [.own 1 0 0 (List.length l70)], .slice 0 5 1 (List.map encB l70)]) (fun s => s = o98) ?_ ?_
            · clear hQ98
              refine J_region (by kernel_rfl) ?_
              (try simp only [go_sem, Nat.reduceEqDiff, reduceIte, Nat.reduceAdd, Nat.reduceSub, Nat.reduceLT, Nat.reduceMul, reduceCtorEq, Int.reduceToNat, Int.reduceLE, Int.reduceLT, Nat.reduceLeDiff])
              rcases ite_cases hP with ⟨hc, hP⟩ | ⟨hc, hP⟩
              · refine guard_is hc ?_
                (try simp only [go_sem, Nat.reduceEqDiff, reduceIte, Nat.reduceAdd, Nat.reduceSub, Nat.reduceLT, Nat.reduceMul, reduceCtorEq, Int.reduceToNat, Int.reduceLE, Int.reduceLT, Nat.reduceLeDiff])
                refine hold2 ?_
                exact join_n (decide (0 < (List.length rest68 : Int))) (Option.some.inj hP) (Sub.of _ _ [0, 1] (by decide) rfl (by simp only [List.length_set, List.length_replicate, List.forall_mem_cons, List.not_mem_nil, false_implies, implies_true, and_true, go_sem, Nat.reduceEqDiff, reduceIte, Nat.reduceAdd, Nat.reduceSub, Nat.reduceLT, Nat.reduceMul, reduceCtorEq, Int.reduceToNat, Int.reduceLE, Int.reduceLT, Nat.reduceLeDiff, ren, ren2, ren1]; (try (first | done | rfl | (repeat' apply And.intro) <;> first | rfl | omega))))
              · refine guard_not hc ?_
                (try simp only [go_sem, Nat.reduceEqDiff, reduceIte, Nat.reduceAdd, Nat.reduceSub, Nat.reduceLT, Nat.reduceMul, reduceCtorEq, Int.reduceToNat, Int.reduceLE, Int.reduceLT, Nat.reduceLeDiff])
                refine hold2 ?_
                exact join_n false (Option.some.inj hP) (Sub.of _ _ [0, 1] (by decide) rfl (by simp only [List.length_set, List.length_replicate, List.forall_mem_cons, List.not_mem_nil, false_implies, implies_true, and_true, go_sem, Nat.reduceEqDiff, reduceIte, Nat.reduceAdd, Nat.reduceSub, Nat.reduceLT, Nat.reduceMul, reduceCtorEq, Int.reduceToNat, Int.reduceLE, Int.reduceLT, Nat.reduceLeDiff, ren, ren2, ren1]; (try (first | done | rfl | (repeat' apply And.intro) <;> first | rfl | omega))))
            · intro j99 hs
              subst hs
              have hP := hQ98
              clear hQ98
              refine J_condV rfl ?_
              (try simp only [go_sem, Nat.reduceEqDiff, reduceIte, Nat.reduceAdd, Nat.reduceSub, Nat.reduceLT, Nat.reduceMul, reduceCtorEq, Int.reduceToNat, Int.reduceLE, Int.reduceLT, Nat.reduceLeDiff])
              rcases ite_cases hP with ⟨hc, hP⟩ | ⟨hc, hP⟩
              · refine condV_t hc ?_
                refine J_skip (then_n ?_)
                refine J_seq ?_
                refine J_block ?_
                refine J_seq ?_
                refine J_region (by kernel_rfl) ?_
                (try simp only [go_sem, Nat.reduceEqDiff, reduceIte, Nat.reduceAdd, Nat.reduceSub, Nat.reduceLT, Nat.reduceMul, reduceCtorEq, Int.reduceToNat, Int.reduceLE, Int.reduceLT, Nat.reduceLeDiff])
                obtain ⟨x100, hx100, hP⟩ := bind_cases hP
                refine ixV_of hx100 ?_
                (try simp only [go_sem, Nat.reduceEqDiff, reduceIte, Nat.reduceAdd, Nat.reduceSub, Nat.reduceLT, Nat.reduceMul, reduceCtorEq, Int.reduceToNat, Int.reduceLE, Int.reduceLT, Nat.reduceLeDiff])
                refine hold2 (then_n ?_)
                refine J_seq ?_
                refine J_region (by kernel_rfl) ?_
                (try simp only [go_sem, Nat.reduceEqDiff, reduceIte, Nat.reduceAdd, Nat.reduceSub, Nat.reduceLT, Nat.reduceMul, reduceCtorEq, Int.reduceToNat, Int.reduceLE, Int.reduceLT, Nat.reduceLeDiff])
                refine hold2 (then_n ?_)
                refine J_seq ?_
                refine J_region (by kernel_rfl) ?_
                (try simp only [go_sem, Nat.reduceEqDiff, reduceIte, Nat.reduceAdd, Nat.reduceSub, Nat.reduceLT, Nat.reduceMul, reduceCtorEq, Int.reduceToNat, Int.reduceLE, Int.reduceLT, Nat.reduceLeDiff])
                obtain ⟨s101, hs101, hP⟩ := bind_cases hP
                refine slV_of hs101 ?_
                (try simp only [go_sem, Nat.reduceEqDiff, reduceIte, Nat.reduceAdd, Nat.reduceSub, Nat.reduceLT, Nat.reduceMul, reduceCtorEq, Int.reduceToNat, Int.reduceLE, Int.reduceLT, Nat.reduceLeDiff])
                obtain ⟨o117, hP, hQ116⟩ := bind_cases hP
                refine call_join (fun (s : (List UInt8) × (List (UInt8))) => .str s.1) (fun (s : (List UInt8) × (List (UInt8))) => envL [(0, .view 1 (List.map encB b1)), (1, .view 1 (List.map (encI .i64) cuts2)), (6, .bptr 0 0), (7, .str s67), (8, .view 1 (List.map encB rest68)), (9, .int .i64 i69), (10, .int .i64 (min (iand .i64 x100 7) (List.length rest68 : Int))), (41, .str s67)]) (fun (s : (List UInt8) × (List (UInt8))) => [.box 58 [.own 1 0 0 (List.length s.2)], .slice 0 5 1 (List.map encB s.2)]) (fun s => s = o117) (callI_of (n := 32) (rs := [.tmp 4]) Try.func25 rfl (by decide) rfl rfl (by simp) rfl ?_) ?_
                · clear hQ116
                  refine J_seq ?_
                  refine J_region (by kernel_rfl) ?_
                  (try simp only [go_sem, Nat.reduceEqDiff, reduceIte, Nat.reduceAdd, Nat.reduceSub, Nat.reduceLT, Nat.reduceMul, reduceCtorEq, Int.reduceToNat, Int.reduceLE, Int.reduceLT, Nat.reduceLeDiff])
                  refine hold2 (then_n ?_)
                  refine J_seq ?_
                  refine J_region (by kernel_rfl) ?_
                  (try simp only [go_sem, Nat.reduceEqDiff, reduceIte, Nat.reduceAdd, Nat.reduceSub, Nat.reduceLT, Nat.reduceMul, reduceCtorEq, Int.reduceToNat, Int.reduceLE, Int.reduceLT, Nat.reduceLeDiff])
                  obtain ⟨_, hz109, hP⟩ := bind_cases hP
                  refine app_own (f := encB) (([] : List UInt8) : List (UInt8)) (l70 : List (UInt8)) rfl tyS_22 (by decide) (by simp only [go_sem, Nat.reduceEqDiff, reduceIte, Nat.reduceAdd, Nat.reduceSub, Nat.reduceLT, Nat.reduceMul, reduceCtorEq, Int.reduceToNat, Int.reduceLE, Int.reduceLT, Nat.reduceLeDiff]; first | done | rfl | exact ⟨rfl, rfl⟩) hz109 ?_
                  (try simp only [go_sem, Nat.reduceEqDiff, reduceIte, Nat.reduceAdd, Nat.reduceSub, Nat.reduceLT, Nat.reduceMul, reduceCtorEq, Int.reduceToNat, Int.reduceLE, Int.reduceLT, Nat.reduceLeDiff])
                  obtain ⟨_, hz110, hP⟩ := bind_cases hP
                  refine app_own (f := encB) (l70 : List (UInt8)) (s101 : List (UInt8)) rfl tyS_22 (by decide) (by simp only [go_sem, Nat.reduceEqDiff, reduceIte, Nat.reduceAdd, Nat.reduceSub, Nat.reduceLT, Nat.reduceMul, reduceCtorEq, Int.reduceToNat, Int.reduceLE, Int.reduceLT, Nat.reduceLeDiff]; first | done | rfl | exact ⟨rfl, rfl⟩) hz110 ?_
                  (try simp only [go_sem, Nat.reduceEqDiff, reduceIte, Nat.reduceAdd, Nat.reduceSub, Nat.reduceLT, Nat.reduceMul, reduceCtorEq, Int.reduceToNat, Int.reduceLE, Int.reduceLT, Nat.reduceLeDiff])
                  refine hold2 (then_n ?_)
                  refine J_seq ?_
                  refine J_region (by kernel_rfl) ?_
                  (try simp only [go_sem, Nat.reduceEqDiff, reduceIte, Nat.reduceAdd, Nat.reduceSub, Nat.reduceLT, Nat.reduceMul, reduceCtorEq, Int.reduceToNat, Int.reduceLE, Int.reduceLT, Nat.reduceLeDiff])
                  obtain ⟨r111, hr111, hP⟩ := bind_cases hP
                  refine call_ok [.view 1 (List.map encB (l70 ++ s101))] (utf8_held_ok hr111) ⟨argR_m false (by simp only [arg, go_sem, Nat.reduceEqDiff, reduceIte, Nat.reduceAdd, Nat.reduceSub, Nat.reduceLT, Nat.reduceMul, reduceCtorEq, Int.reduceToNat, Int.reduceLE, Int.reduceLT, Nat.reduceLeDiff]), trivial⟩ ?_
                  (try simp only [go_sem, Nat.reduceEqDiff, reduceIte, Nat.reduceAdd, Nat.reduceSub, Nat.reduceLT, Nat.reduceMul, reduceCtorEq, Int.reduceToNat, Int.reduceLE, Int.reduceLT, Nat.reduceLeDiff])
                  refine hold2 (then_n ?_)
                  refine J_seq ?_
                  refine J_region (by kernel_rfl) ?_
                  (try simp only [go_sem, Nat.reduceEqDiff, reduceIte, Nat.reduceAdd, Nat.reduceSub, Nat.reduceLT, Nat.reduceMul, reduceCtorEq, Int.reduceToNat, Int.reduceLE, Int.reduceLT, Nat.reduceLeDiff])
                  obtain ⟨s112, hs112, hP⟩ := bind_cases hP
                  refine slO_of hs112 ?_
                  (try simp only [go_sem, Nat.reduceEqDiff, reduceIte, Nat.reduceAdd, Nat.reduceSub, Nat.reduceLT, Nat.reduceMul, reduceCtorEq, Int.reduceToNat, Int.reduceLE, Int.reduceLT, Nat.reduceLeDiff])
                  obtain ⟨_, hz113, hP⟩ := bind_cases hP
                  refine app_own (f := encB) (([] : List UInt8) : List (UInt8)) (s112 : List (UInt8)) rfl tyS_22 (by decide) (by simp only [own_cut hs112, go_sem, Nat.reduceEqDiff, reduceIte, Nat.reduceAdd, Nat.reduceSub, Nat.reduceLT, Nat.reduceMul, reduceCtorEq, Int.reduceToNat, Int.reduceLE, Int.reduceLT, Nat.reduceLeDiff]; first | done | rfl | exact ⟨rfl, rfl⟩) hz113 ?_
                  (try simp only [go_sem, Nat.reduceEqDiff, reduceIte, Nat.reduceAdd, Nat.reduceSub, Nat.reduceLT, Nat.reduceMul, reduceCtorEq, Int.reduceToNat, Int.reduceLE, Int.reduceLT, Nat.reduceLeDiff])
                  refine hold2 (then_n ?_)
                  refine J_seq ?_
                  refine J_region (by kernel_rfl) ?_
                  (try simp only [go_sem, Nat.reduceEqDiff, reduceIte, Nat.reduceAdd, Nat.reduceSub, Nat.reduceLT, Nat.reduceMul, reduceCtorEq, Int.reduceToNat, Int.reduceLE, Int.reduceLT, Nat.reduceLeDiff])
                  obtain ⟨s114, hs114, hP⟩ := bind_cases hP
                  refine slO_of hs114 ?_
                  (try simp only [go_sem, Nat.reduceEqDiff, reduceIte, Nat.reduceAdd, Nat.reduceSub, Nat.reduceLT, Nat.reduceMul, reduceCtorEq, Int.reduceToNat, Int.reduceLE, Int.reduceLT, Nat.reduceLeDiff])
                  obtain ⟨r115, hr115, hP⟩ := bind_cases hP
                  refine call_ok [.view 1 (List.map encB s114)] (utf8_Decode_ok hr115) ⟨argR_m false (by simp only [arg, own_cut0 hs114, go_sem, Nat.reduceEqDiff, reduceIte, Nat.reduceAdd, Nat.reduceSub, Nat.reduceLT, Nat.reduceMul, reduceCtorEq, Int.reduceToNat, Int.reduceLE, Int.reduceLT, Nat.reduceLeDiff]), trivial⟩ ?_
                  (try simp only [go_sem, Nat.reduceEqDiff, reduceIte, Nat.reduceAdd, Nat.reduceSub, Nat.reduceLT, Nat.reduceMul, reduceCtorEq, Int.reduceToNat, Int.reduceLE, Int.reduceLT, Nat.reduceLeDiff])
                  refine hold2 (then_n ?_)
                  refine J_ret (finI_ret ?_)
                  exact told_of ⟨(r115, s112), Option.some.inj hP, subR_of _ _ _ [0, 3] (by decide) rfl (by first | rfl | simp only [ren, ren2, ren1, go_sem, Nat.reduceEqDiff, reduceIte, Nat.reduceAdd, Nat.reduceSub, Nat.reduceLT, Nat.reduceMul, reduceCtorEq, Int.reduceToNat, Int.reduceLE, Int.reduceLT, Nat.reduceLeDiff]) (by simp only [List.length_set, List.length_replicate, List.forall_mem_cons, List.not_mem_nil, false_implies, implies_true, and_true, go_sem, Nat.reduceEqDiff, reduceIte, Nat.reduceAdd, Nat.reduceSub, Nat.reduceLT, Nat.reduceMul, reduceCtorEq, Int.reduceToNat, Int.reduceLE, Int.reduceLT, Nat.reduceLeDiff, ren, ren2, ren1]; (try (first | done | rfl | (repeat' apply And.intro) <;> first | rfl | omega)))⟩
                · intro a116 hs
                  subst hs
                  have hP := hQ116
                  clear hQ116
                  (try simp only [go_sem, Nat.reduceEqDiff, reduceIte, Nat.reduceAdd, Nat.reduceSub, Nat.reduceLT, Nat.reduceMul, reduceCtorEq, Int.reduceToNat, Int.reduceLE, Int.reduceLT, Nat.reduceLeDiff])
                  obtain ⟨_, hz118, hP⟩ := bind_cases hP
                  refine chk_of (szC_63 hz118) ?_
                  (try simp only [go_sem, Nat.reduceEqDiff, reduceIte, Nat.reduceAdd, Nat.reduceSub, Nat.reduceLT, Nat.reduceMul, reduceCtorEq, Int.reduceToNat, Int.reduceLE, Int.reduceLT, Nat.reduceLeDiff])
                  refine hold2 (then_n ?_)
                  refine J_seq ?_
                  refine J_region (by kernel_rfl) ?_
                  (try simp only [go_sem, Nat.reduceEqDiff, reduceIte, Nat.reduceAdd, Nat.reduceSub, Nat.reduceLT, Nat.reduceMul, reduceCtorEq, Int.reduceToNat, Int.reduceLE, Int.reduceLT, Nat.reduceLeDiff])
                  obtain ⟨s119, hs119, hP⟩ := bind_cases hP
                  refine slV_of hs119 ?_
                  (try simp only [go_sem, Nat.reduceEqDiff, reduceIte, Nat.reduceAdd, Nat.reduceSub, Nat.reduceLT, Nat.reduceMul, reduceCtorEq, Int.reduceToNat, Int.reduceLE, Int.reduceLT, Nat.reduceLeDiff])
                  refine hold2 (then_n ?_)
                  refine J_seq ?_
                  refine J_region (by kernel_rfl) ?_
                  (try simp only [go_sem, Nat.reduceEqDiff, reduceIte, Nat.reduceAdd, Nat.reduceSub, Nat.reduceLT, Nat.reduceMul, reduceCtorEq, Int.reduceToNat, Int.reduceLE, Int.reduceLT, Nat.reduceLeDiff])
                  obtain ⟨o121, hP, hQ120⟩ := bind_cases hP
                  refine call_join (fun (s : Unit) => .int .i64 ((List.length a116.2 : Nat) : Int)) (fun (s : Unit) => envL [(0, .view 1 (List.map encB b1)), (1, .view 1 (List.map (encI .i64) cuts2)), (6, .bptr 0 0), (7, .str (s67 ++ a116.1)), (8, .view 1 (List.map encB s119)), (9, .int .i64 i69)]) (fun (s : Unit) => [.box 58 [.own 1 0 0 (List.length a116.2)], .slice 0 5 1 (List.map encB a116.2)]) (fun s => s = o121) (callI_of (n := 8) (rs := [.tmp 2]) Try.func27 rfl (by decide) rfl rfl (by simp) rfl ?_) ?_
                  · clear hQ120
                    refine J_seq ?_
                    refine J_region (by kernel_rfl) ?_
                    (try simp only [go_sem, Nat.reduceEqDiff, reduceIte, Nat.reduceAdd, Nat.reduceSub, Nat.reduceLT, Nat.reduceMul, reduceCtorEq, Int.reduceToNat, Int.reduceLE, Int.reduceLT, Nat.reduceLeDiff])
                    refine hold2 (then_n ?_)
                    refine J_seq ?_
                    refine J_region (by kernel_rfl) ?_
                    (try simp only [go_sem, Nat.reduceEqDiff, reduceIte, Nat.reduceAdd, Nat.reduceSub, Nat.reduceLT, Nat.reduceMul, reduceCtorEq, Int.reduceToNat, Int.reduceLE, Int.reduceLT, Nat.reduceLeDiff])
                    refine hold2 (then_n ?_)
                    refine J_ret (finI_ret ?_)
                    exact told_of ⟨(), Option.some.inj hP, subR_of _ _ _ [0, 1] (by decide) rfl (by first | rfl | simp only [ren, ren2, ren1, go_sem, Nat.reduceEqDiff, reduceIte, Nat.reduceAdd, Nat.reduceSub, Nat.reduceLT, Nat.reduceMul, reduceCtorEq, Int.reduceToNat, Int.reduceLE, Int.reduceLT, Nat.reduceLeDiff]) (by simp only [List.length_set, List.length_replicate, List.forall_mem_cons, List.not_mem_nil, false_implies, implies_true, and_true, go_sem, Nat.reduceEqDiff, reduceIte, Nat.reduceAdd, Nat.reduceSub, Nat.reduceLT, Nat.reduceMul, reduceCtorEq, Int.reduceToNat, Int.reduceLE, Int.reduceLT, Nat.reduceLeDiff, ren, ren2, ren1]; (try (first | done | rfl | (repeat' apply And.intro) <;> first | rfl | omega)))⟩
                  · intro a120 hs
                    subst hs
                    have hP := hQ120
                    clear hQ120
                    (try simp only [go_sem, Nat.reduceEqDiff, reduceIte, Nat.reduceAdd, Nat.reduceSub, Nat.reduceLT, Nat.reduceMul, reduceCtorEq, Int.reduceToNat, Int.reduceLE, Int.reduceLT, Nat.reduceLeDiff])
                    refine hold2 (then_n ?_)
                    obtain ⟨o122, hP, hQ122⟩ := bind_cases hP
                    refine J_join (fun (s : Bool) => envL [(0, .view 1 (List.map encB b1)), (1, .view 1 (List.map (encI .i64) cuts2)), (6, .bptr 0 0), (7, .str (s67 ++ a116.1)), (8, .view 1 (List.map encB s119)), (9, .int .i64 i69), (11, .int .i64 ((List.length a116.2 : Nat) : Int)), (63, .bool s)]) (fun (s : Bool) => [.box 58 [.own 1 0 0 (List.length a116.2)], .slice 0 5 1 (List.map encB a116.2)]) (fun s => s = o122) ?_ ?_
                    · clear hQ122
                      refine J_region (by kernel_rfl) ?_
                      (try simp only [go_sem, Nat.reduceEqDiff, reduceIte, Nat.reduceAdd, Nat.reduceSub, Nat.reduceLT, Nat.reduceMul, reduceCtorEq, Int.reduceToNat, Int.reduceLE, Int.reduceLT, Nat.reduceLeDiff])
                      rcases ite_cases hP with ⟨hc, hP⟩ | ⟨hc, hP⟩
                      · refine guard_not hc ?_
                        (try simp only [go_sem, Nat.reduceEqDiff, reduceIte, Nat.reduceAdd, Nat.reduceSub, Nat.reduceLT, Nat.reduceMul, reduceCtorEq, Int.reduceToNat, Int.reduceLE, Int.reduceLT, Nat.reduceLeDiff])
                        refine hold2 ?_
                        exact join_n true (Option.some.inj hP) (Sub.of _ _ [0, 1] (by decide) rfl (by simp only [List.length_set, List.length_replicate, List.forall_mem_cons, List.not_mem_nil, false_implies, implies_true, and_true, go_sem, Nat.reduceEqDiff, reduceIte, Nat.reduceAdd, Nat.reduceSub, Nat.reduceLT, Nat.reduceMul, reduceCtorEq, Int.reduceToNat, Int.reduceLE, Int.reduceLT, Nat.reduceLeDiff, ren, ren2, ren1]; (try (first | done | rfl | (repeat' apply And.intro) <;> first | rfl | omega))))
                      · refine guard_is hc ?_
                        (try simp only [go_sem, Nat.reduceEqDiff, reduceIte, Nat.reduceAdd, Nat.reduceSub, Nat.reduceLT, Nat.reduceMul, reduceCtorEq, Int.reduceToNat, Int.reduceLE, Int.reduceLT, Nat.reduceLeDiff])
                        rcases ite_cases hP with ⟨hc, hP⟩ | ⟨hc, hP⟩
                        · refine guard_not hc ?_
                          (try simp only [go_sem, Nat.reduceEqDiff, reduceIte, Nat.reduceAdd, Nat.reduceSub, Nat.reduceLT, Nat.reduceMul, reduceCtorEq, Int.reduceToNat, Int.reduceLE, Int.reduceLT, Nat.reduceLeDiff])
                          refine hold2 ?_
                          exact join_n true (Option.some.inj hP) (Sub.of _ _ [0, 1] (by decide) rfl (by simp only [List.length_set, List.length_replicate, List.forall_mem_cons, List.not_mem_nil, false_implies, implies_true, and_true, go_sem, Nat.reduceEqDiff, reduceIte, Nat.reduceAdd, Nat.reduceSub, Nat.reduceLT, Nat.reduceMul, reduceCtorEq, Int.reduceToNat, Int.reduceLE, Int.reduceLT, Nat.reduceLeDiff, ren, ren2, ren1]; (try (first | done | rfl | (repeat' apply And.intro) <;> first | rfl | omega))))
                        · refine guard_is hc ?_
                          (try simp only [go_sem, Nat.reduceEqDiff, reduceIte, Nat.reduceAdd, Nat.reduceSub, Nat.reduceLT, Nat.reduceMul, reduceCtorEq, Int.reduceToNat, Int.reduceLE, Int.reduceLT, Nat.reduceLeDiff])
                          refine hold2 ?_
                          exact join_n (decide (100000 < (List.length (s67 ++ a116.1) : Int))) (Option.some.inj hP) (Sub.of _ _ [0, 1] (by decide) rfl (by simp only [List.length_set, List.length_replicate, List.forall_mem_cons, List.not_mem_nil, false_implies, implies_true, and_true, go_sem, Nat.reduceEqDiff, reduceIte, Nat.reduceAdd, Nat.reduceSub, Nat.reduceLT, Nat.reduceMul, reduceCtorEq, Int.reduceToNat, Int.reduceLE, Int.reduceLT, Nat.reduceLeDiff, ren, ren2, ren1]; (try (first | done | rfl | (repeat' apply And.intro) <;> first | rfl | omega))))
                    · intro j123 hs
                      subst hs
                      have hP := hQ122
                      clear hQ122
                      refine J_condV rfl ?_
                      (try simp only [go_sem, Nat.reduceEqDiff, reduceIte, Nat.reduceAdd, Nat.reduceSub, Nat.reduceLT, Nat.reduceMul, reduceCtorEq, Int.reduceToNat, Int.reduceLE, Int.reduceLT, Nat.reduceLeDiff])
                      rcases ite_cases hP with ⟨hc, hP⟩ | ⟨hc, hP⟩
                      · refine condV_t hc ?_
                        refine J_seq ?_
                        refine J_region (by kernel_rfl) ?_
                        (try simp only [go_sem, Nat.reduceEqDiff, reduceIte, Nat.reduceAdd, Nat.reduceSub, Nat.reduceLT, Nat.reduceMul, reduceCtorEq, Int.reduceToNat, Int.reduceLE, Int.reduceLT, Nat.reduceLeDiff])
                        rcases ite_cases hP with ⟨hc, hP⟩ | ⟨hc, hP⟩
                        · refine guard_is hc ?_
                          (try simp only [go_sem, Nat.reduceEqDiff, reduceIte, Nat.reduceAdd, Nat.reduceSub, Nat.reduceLT, Nat.reduceMul, reduceCtorEq, Int.reduceToNat, Int.reduceLE, Int.reduceLT, Nat.reduceLeDiff])
                          rcases ite_cases hP with ⟨hc, hP⟩ | ⟨hc, hP⟩
                          · refine guard_is hc ?_
                            (try simp only [go_sem, Nat.reduceEqDiff, reduceIte, Nat.reduceAdd, Nat.reduceSub, Nat.reduceLT, Nat.reduceMul, reduceCtorEq, Int.reduceToNat, Int.reduceLE, Int.reduceLT, Nat.reduceLeDiff])
                            refine hold2 (then_n ?_)
                            refine J_ret (block_ret (then_ret (loop_ret (block_ret (join_ret (then_ret (fin_ret ?_)))))))
                            obtain rfl := Option.some.inj hP
                            have hP := hQ97
                            dsimp only at hP
                            obtain rfl := Option.some.inj hP
                            (try simp only [go_sem, Nat.reduceEqDiff, reduceIte, Nat.reduceAdd, Nat.reduceSub, Nat.reduceLT, Nat.reduceMul, reduceCtorEq, Int.reduceToNat, Int.reduceLE, Int.reduceLT, Nat.reduceLeDiff])
                            refine fin_of [] (by decide) ?_ ?_ <;> first | rfl | simp only [List.length_set, List.length_replicate, ren, ren2, ren1, renH, renO, go_sem, Nat.reduceEqDiff, reduceIte, Nat.reduceAdd, Nat.reduceSub, Nat.reduceLT, Nat.reduceMul, reduceCtorEq, Int.reduceToNat, Int.reduceLE, Int.reduceLT, Nat.reduceLeDiff]
                          · refine guard_not hc ?_
                            (try simp only [go_sem, Nat.reduceEqDiff, reduceIte, Nat.reduceAdd, Nat.reduceSub, Nat.reduceLT, Nat.reduceMul, reduceCtorEq, Int.reduceToNat, Int.reduceLE, Int.reduceLT, Nat.reduceLeDiff])
                            refine hold2 (then_n ?_)
                            refine J_ret (block_ret (then_ret (loop_ret (block_ret (join_ret (then_ret (fin_ret ?_)))))))
                            obtain rfl := Option.some.inj hP
                            have hP := hQ97
                            dsimp only at hP
                            obtain rfl := Option.some.inj hP
                            (try simp only [go_sem, Nat.reduceEqDiff, reduceIte, Nat.reduceAdd, Nat.reduceSub, Nat.reduceLT, Nat.reduceMul, reduceCtorEq, Int.reduceToNat, Int.reduceLE, Int.reduceLT, Nat.reduceLeDiff])
                            refine fin_of [] (by decide) ?_ ?_ <;> first | rfl | simp only [List.length_set, List.length_replicate, ren, ren2, ren1, renH, renO, go_sem, Nat.reduceEqDiff, reduceIte, Nat.reduceAdd, Nat.reduceSub, Nat.reduceLT, Nat.reduceMul, reduceCtorEq, Int.reduceToNat, Int.reduceLE, Int.reduceLT, Nat.reduceLeDiff]
                        · refine guard_not hc ?_
                          (try simp only [go_sem, Nat.reduceEqDiff, reduceIte, Nat.reduceAdd, Nat.reduceSub, Nat.reduceLT, Nat.reduceMul, reduceCtorEq, Int.reduceToNat, Int.reduceLE, Int.reduceLT, Nat.reduceLeDiff])
                          refine hold2 (then_n ?_)
                          refine J_ret (block_ret (then_ret (loop_ret (block_ret (join_ret (then_ret (fin_ret ?_)))))))
                          obtain rfl := Option.some.inj hP
                          have hP := hQ97
                          dsimp only at hP
                          obtain rfl := Option.some.inj hP
                          (try simp only [go_sem, Nat.reduceEqDiff, reduceIte, Nat.reduceAdd, Nat.reduceSub, Nat.reduceLT, Nat.reduceMul, reduceCtorEq, Int.reduceToNat, Int.reduceLE, Int.reduceLT, Nat.reduceLeDiff])
                          refine fin_of [] (by decide) ?_ ?_ <;> first | rfl | simp only [List.length_set, List.length_replicate, ren, ren2, ren1, renH, renO, go_sem, Nat.reduceEqDiff, reduceIte, Nat.reduceAdd, Nat.reduceSub, Nat.reduceLT, Nat.reduceMul, reduceCtorEq, Int.reduceToNat, Int.reduceLE, Int.reduceLT, Nat.reduceLeDiff]
                      · refine condV_f hc ?_
                        refine J_skip (block_n (then_n ?_))
                        refine J_region (by kernel_rfl) ?_
                        (try simp only [go_sem, Nat.reduceEqDiff, reduceIte, Nat.reduceAdd, Nat.reduceSub, Nat.reduceLT, Nat.reduceMul, reduceCtorEq, Int.reduceToNat, Int.reduceLE, Int.reduceLT, Nat.reduceLeDiff])
                        refine hold2 ?_
                        exact loop_n (k71, (s67 ++ a116.1), s119, iadd .i64 i69 1, a116.2) hP (Nat.lt_succ_self _) (Sub.of _ _ [0, 1] (by decide) rfl (by simp only [List.length_set, List.length_replicate, List.forall_mem_cons, List.not_mem_nil, false_implies, implies_true, and_true, go_sem, Nat.reduceEqDiff, reduceIte, Nat.reduceAdd, Nat.reduceSub, Nat.reduceLT, Nat.reduceMul, reduceCtorEq, Int.reduceToNat, Int.reduceLE, Int.reduceLT, Nat.reduceLeDiff, ren, ren2, ren1]; (try (first | done | rfl | (repeat' apply And.intro) <;> first | rfl | omega))))
              · refine condV_f hc ?_
                refine J_exit (then_exit (loop_exit (block_eq ?_)))
                exact join_n (s67, rest68, l70) (Option.some.inj hP) (Sub.of _ _ [0, 1] (by decide) rfl (by simp only [List.length_set, List.length_replicate, List.forall_mem_cons, List.not_mem_nil, false_implies, implies_true, and_true, go_sem, Nat.reduceEqDiff, reduceIte, Nat.reduceAdd, Nat.reduceSub, Nat.reduceLT, Nat.reduceMul, reduceCtorEq, Int.reduceToNat, Int.reduceLE, Int.reduceLT, Nat.reduceLeDiff, ren, ren2, ren1]; (try (first | done | rfl | (repeat' apply And.intro) <;> first | rfl | omega))))
        · intro j125 hs
          subst hs
          have hP := hQ97
          dsimp only at hP
          clear hQ97
          refine then_n ?_
          refine J_seq ?_
          refine J_region (by kernel_rfl) ?_
          (try simp only [go_sem, Nat.reduceEqDiff, reduceIte, Nat.reduceAdd, Nat.reduceSub, Nat.reduceLT, Nat.reduceMul, reduceCtorEq, Int.reduceToNat, Int.reduceLE, Int.reduceLT, Nat.reduceLeDiff])
          obtain ⟨o141, hP, hQ140⟩ := bind_cases hP
          refine call_join (fun (s : (List UInt8) × (List (UInt8))) => .str s.1) (fun (s : (List UInt8) × (List (UInt8))) => envL [(0, .view 1 (List.map encB b1)), (6, .bptr 0 0), (7, .str j125.1), (75, .str j125.1)]) (fun (s : (List UInt8) × (List (UInt8))) => [.box 58 [.own 1 0 0 (List.length s.2)], .slice 0 5 1 (List.map encB s.2)]) (fun s => s = o141) (callI_of (n := 32) (rs := [.tmp 4]) Try.func25 rfl (by decide) rfl rfl (by simp) rfl ?_) ?_
          · clear hQ140
            refine J_seq ?_
            refine J_region (by kernel_rfl) ?_
            (try simp only [go_sem, Nat.reduceEqDiff, reduceIte, Nat.reduceAdd, Nat.reduceSub, Nat.reduceLT, Nat.reduceMul, reduceCtorEq, Int.reduceToNat, Int.reduceLE, Int.reduceLT, Nat.reduceLeDiff])
            refine hold2 (then_n ?_)
            refine J_seq ?_
            refine J_region (by kernel_rfl) ?_
            (try simp only [go_sem, Nat.reduceEqDiff, reduceIte, Nat.reduceAdd, Nat.reduceSub, Nat.reduceLT, Nat.reduceMul, reduceCtorEq, Int.reduceToNat, Int.reduceLE, Int.reduceLT, Nat.reduceLeDiff])
            obtain ⟨_, hz133, hP⟩ := bind_cases hP
            refine app_own (f := encB) (([] : List UInt8) : List (UInt8)) (j125.2.2 : List (UInt8)) rfl tyS_22 (by decide) (by simp only [go_sem, Nat.reduceEqDiff, reduceIte, Nat.reduceAdd, Nat.reduceSub, Nat.reduceLT, Nat.reduceMul, reduceCtorEq, Int.reduceToNat, Int.reduceLE, Int.reduceLT, Nat.reduceLeDiff]; first | done | rfl | exact ⟨rfl, rfl⟩) hz133 ?_
            (try simp only [go_sem, Nat.reduceEqDiff, reduceIte, Nat.reduceAdd, Nat.reduceSub, Nat.reduceLT, Nat.reduceMul, reduceCtorEq, Int.reduceToNat, Int.reduceLE, Int.reduceLT, Nat.reduceLeDiff])
            obtain ⟨_, hz134, hP⟩ := bind_cases hP
            refine app_own (f := encB) (j125.2.2 : List (UInt8)) (j125.2.1 : List (UInt8)) rfl tyS_22 (by decide) (by simp only [go_sem, Nat.reduceEqDiff, reduceIte, Nat.reduceAdd, Nat.reduceSub, Nat.reduceLT, Nat.reduceMul, reduceCtorEq, Int.reduceToNat, Int.reduceLE, Int.reduceLT, Nat.reduceLeDiff]; first | done | rfl | exact ⟨rfl, rfl⟩) hz134 ?_
            (try simp only [go_sem, Nat.reduceEqDiff, reduceIte, Nat.reduceAdd, Nat.reduceSub, Nat.reduceLT, Nat.reduceMul, reduceCtorEq, Int.reduceToNat, Int.reduceLE, Int.reduceLT, Nat.reduceLeDiff])
            refine hold2 (then_n ?_)
            refine J_seq ?_
            refine J_region (by kernel_rfl) ?_
            (try simp only [go_sem, Nat.reduceEqDiff, reduceIte, Nat.reduceAdd, Nat.reduceSub, Nat.reduceLT, Nat.reduceMul, reduceCtorEq, Int.reduceToNat, Int.reduceLE, Int.reduceLT, Nat.reduceLeDiff])
            obtain ⟨r135, hr135, hP⟩ := bind_cases hP
            refine call_ok [.view 1 (List.map encB (j125.2.2 ++ j125.2.1))] (utf8_held_ok hr135) ⟨argR_m false (by simp only [arg, go_sem, Nat.reduceEqDiff, reduceIte, Nat.reduceAdd, Nat.reduceSub, Nat.reduceLT, Nat.reduceMul, reduceCtorEq, Int.reduceToNat, Int.reduceLE, Int.reduceLT, Nat.reduceLeDiff]), trivial⟩ ?_
            (try simp only [go_sem, Nat.reduceEqDiff, reduceIte, Nat.reduceAdd, Nat.reduceSub, Nat.reduceLT, Nat.reduceMul, reduceCtorEq, Int.reduceToNat, Int.reduceLE, Int.reduceLT, Nat.reduceLeDiff])
            refine hold2 (then_n ?_)
            refine J_seq ?_
            refine J_region (by kernel_rfl) ?_
            (try simp only [go_sem, Nat.reduceEqDiff, reduceIte, Nat.reduceAdd, Nat.reduceSub, Nat.reduceLT, Nat.reduceMul, reduceCtorEq, Int.reduceToNat, Int.reduceLE, Int.reduceLT, Nat.reduceLeDiff])
            obtain ⟨s136, hs136, hP⟩ := bind_cases hP
            refine slO_of hs136 ?_
            (try simp only [go_sem, Nat.reduceEqDiff, reduceIte, Nat.reduceAdd, Nat.reduceSub, Nat.reduceLT, Nat.reduceMul, reduceCtorEq, Int.reduceToNat, Int.reduceLE, Int.reduceLT, Nat.reduceLeDiff])
            obtain ⟨_, hz137, hP⟩ := bind_cases hP
            refine app_own (f := encB) (([] : List UInt8) : List (UInt8)) (s136 : List (UInt8)) rfl tyS_22 (by decide) (by simp only [own_cut hs136, go_sem, Nat.reduceEqDiff, reduceIte, Nat.reduceAdd, Nat.reduceSub, Nat.reduceLT, Nat.reduceMul, reduceCtorEq, Int.reduceToNat, Int.reduceLE, Int.reduceLT, Nat.reduceLeDiff]; first | done | rfl | exact ⟨rfl, rfl⟩) hz137 ?_
            (try simp only [go_sem, Nat.reduceEqDiff, reduceIte, Nat.reduceAdd, Nat.reduceSub, Nat.reduceLT, Nat.reduceMul, reduceCtorEq, Int.reduceToNat, Int.reduceLE, Int.reduceLT, Nat.reduceLeDiff])
            refine hold2 (then_n ?_)
            refine J_seq ?_
            refine J_region (by kernel_rfl) ?_
            (try simp only [go_sem, Nat.reduceEqDiff, reduceIte, Nat.reduceAdd, Nat.reduceSub, Nat.reduceLT, Nat.reduceMul, reduceCtorEq, Int.reduceToNat, Int.reduceLE, Int.reduceLT, Nat.reduceLeDiff])
            obtain ⟨s138, hs138, hP⟩ := bind_cases hP
            refine slO_of hs138 ?_
            (try simp only [go_sem, Nat.reduceEqDiff, reduceIte, Nat.reduceAdd, Nat.reduceSub, Nat.reduceLT, Nat.reduceMul, reduceCtorEq, Int.reduceToNat, Int.reduceLE, Int.reduceLT, Nat.reduceLeDiff])
            obtain ⟨r139, hr139, hP⟩ := bind_cases hP
            refine call_ok [.view 1 (List.map encB s138)] (utf8_Decode_ok hr139) ⟨argR_m false (by simp only [arg, own_cut0 hs138, go_sem, Nat.reduceEqDiff, reduceIte, Nat.reduceAdd, Nat.reduceSub, Nat.reduceLT, Nat.reduceMul, reduceCtorEq, Int.reduceToNat, Int.reduceLE, Int.reduceLT, Nat.reduceLeDiff]), trivial⟩ ?_
            (try simp only [go_sem, Nat.reduceEqDiff, reduceIte, Nat.reduceAdd, Nat.reduceSub, Nat.reduceLT, Nat.reduceMul, reduceCtorEq, Int.reduceToNat, Int.reduceLE, Int.reduceLT, Nat.reduceLeDiff])
            refine hold2 (then_n ?_)
            refine J_ret (finI_ret ?_)
            exact told_of ⟨(r139, s136), Option.some.inj hP, subR_of _ _ _ [0, 3] (by decide) rfl (by first | rfl | simp only [ren, ren2, ren1, go_sem, Nat.reduceEqDiff, reduceIte, Nat.reduceAdd, Nat.reduceSub, Nat.reduceLT, Nat.reduceMul, reduceCtorEq, Int.reduceToNat, Int.reduceLE, Int.reduceLT, Nat.reduceLeDiff]) (by simp only [List.length_set, List.length_replicate, List.forall_mem_cons, List.not_mem_nil, false_implies, implies_true, and_true, go_sem, Nat.reduceEqDiff, reduceIte, Nat.reduceAdd, Nat.reduceSub, Nat.reduceLT, Nat.reduceMul, reduceCtorEq, Int.reduceToNat, Int.reduceLE, Int.reduceLT, Nat.reduceLeDiff, ren, ren2, ren1]; (try (first | done | rfl | (repeat' apply And.intro) <;> first | rfl | omega)))⟩
          · intro a140 hs
            subst hs
            have hP := hQ140
            clear hQ140
            (try simp only [go_sem, Nat.reduceEqDiff, reduceIte, Nat.reduceAdd, Nat.reduceSub, Nat.reduceLT, Nat.reduceMul, reduceCtorEq, Int.reduceToNat, Int.reduceLE, Int.reduceLT, Nat.reduceLeDiff])
            obtain ⟨_, hz142, hP⟩ := bind_cases hP
            refine chk_of (szC_63 hz142) ?_
            (try simp only [go_sem, Nat.reduceEqDiff, reduceIte, Nat.reduceAdd, Nat.reduceSub, Nat.reduceLT, Nat.reduceMul, reduceCtorEq, Int.reduceToNat, Int.reduceLE, Int.reduceLT, Nat.reduceLeDiff])
            refine hold2 (then_n ?_)
            refine J_seq ?_
            refine J_region (by kernel_rfl) ?_
            (try simp only [go_sem, Nat.reduceEqDiff, reduceIte, Nat.reduceAdd, Nat.reduceSub, Nat.reduceLT, Nat.reduceMul, reduceCtorEq, Int.reduceToNat, Int.reduceLE, Int.reduceLT, Nat.reduceLeDiff])
            obtain ⟨o146, hP, hQ145⟩ := bind_cases hP
            refine call_join (fun (s : (List UInt8)) => .str s) (fun (s : (List UInt8)) => envL [(0, .view 1 (List.map encB b1)), (80, .str (j125.1 ++ a140.1))]) (fun (s : (List UInt8)) => []) (fun s => s = o146) (callI_of (n := 13) (rs := [.tmp 2]) Try.func28 rfl (by decide) rfl rfl (by simp) rfl ?_) ?_
            · clear hQ145
              refine J_seq ?_
              refine J_region (by kernel_rfl) ?_
              (try simp only [go_sem, Nat.reduceEqDiff, reduceIte, Nat.reduceAdd, Nat.reduceSub, Nat.reduceLT, Nat.reduceMul, reduceCtorEq, Int.reduceToNat, Int.reduceLE, Int.reduceLT, Nat.reduceLeDiff])
              refine hold2 (then_n ?_)
              refine J_seq ?_
              refine J_region (by kernel_rfl) ?_
              (try simp only [go_sem, Nat.reduceEqDiff, reduceIte, Nat.reduceAdd, Nat.reduceSub, Nat.reduceLT, Nat.reduceMul, reduceCtorEq, Int.reduceToNat, Int.reduceLE, Int.reduceLT, Nat.reduceLeDiff])
              obtain ⟨r144, hr144, hP⟩ := bind_cases hP
              refine call_ok [.view 1 (List.map encB a140.2)] (utf8_Decode_ok hr144) ⟨argR_m false (by simp only [arg, go_sem, Nat.reduceEqDiff, reduceIte, Nat.reduceAdd, Nat.reduceSub, Nat.reduceLT, Nat.reduceMul, reduceCtorEq, Int.reduceToNat, Int.reduceLE, Int.reduceLT, Nat.reduceLeDiff]), trivial⟩ ?_
              (try simp only [go_sem, Nat.reduceEqDiff, reduceIte, Nat.reduceAdd, Nat.reduceSub, Nat.reduceLT, Nat.reduceMul, reduceCtorEq, Int.reduceToNat, Int.reduceLE, Int.reduceLT, Nat.reduceLeDiff])
              refine hold2 (then_n ?_)
              refine J_seq ?_
              refine J_region (by kernel_rfl) ?_
              (try simp only [go_sem, Nat.reduceEqDiff, reduceIte, Nat.reduceAdd, Nat.reduceSub, Nat.reduceLT, Nat.reduceMul, reduceCtorEq, Int.reduceToNat, Int.reduceLE, Int.reduceLT, Nat.reduceLeDiff])
              refine hold2 (then_n ?_)
              refine J_prom 5 1 (by decide) 0 0 _ _ rfl rfl ?_
              (try simp only [go_sem, Nat.reduceEqDiff, reduceIte, Nat.reduceAdd, Nat.reduceSub, Nat.reduceLT, Nat.reduceMul, reduceCtorEq, Int.reduceToNat, Int.reduceLE, Int.reduceLT, Nat.reduceLeDiff])
              refine J_seq ?_
              refine J_region (by kernel_rfl) ?_
              (try simp only [go_sem, Nat.reduceEqDiff, reduceIte, Nat.reduceAdd, Nat.reduceSub, Nat.reduceLT, Nat.reduceMul, reduceCtorEq, Int.reduceToNat, Int.reduceLE, Int.reduceLT, Nat.reduceLeDiff])
              refine hold2 (then_n ?_)
              refine J_ret (finI_ret ?_)
              exact told_of ⟨r144, Option.some.inj hP, subR_of _ _ _ [] (by decide) rfl (by first | rfl | simp only [ren, ren2, ren1, go_sem, Nat.reduceEqDiff, reduceIte, Nat.reduceAdd, Nat.reduceSub, Nat.reduceLT, Nat.reduceMul, reduceCtorEq, Int.reduceToNat, Int.reduceLE, Int.reduceLT, Nat.reduceLeDiff]) (by simp only [List.length_set, List.length_replicate, List.forall_mem_cons, List.not_mem_nil, false_implies, implies_true, and_true, go_sem, Nat.reduceEqDiff, reduceIte, Nat.reduceAdd, Nat.reduceSub, Nat.reduceLT, Nat.reduceMul, reduceCtorEq, Int.reduceToNat, Int.reduceLE, Int.reduceLT, Nat.reduceLeDiff, ren, ren2, ren1]; (try (first | done | rfl | (repeat' apply And.intro) <;> first | rfl | omega)))⟩
            · intro a145 hs
              subst hs
              have hP := hQ145
              clear hQ145
              (try simp only [go_sem, Nat.reduceEqDiff, reduceIte, Nat.reduceAdd, Nat.reduceSub, Nat.reduceLT, Nat.reduceMul, reduceCtorEq, Int.reduceToNat, Int.reduceLE, Int.reduceLT, Nat.reduceLeDiff])
              obtain ⟨_, hz147, hP⟩ := bind_cases hP
              refine chk_of (szC_63 hz147) ?_
              (try simp only [go_sem, Nat.reduceEqDiff, reduceIte, Nat.reduceAdd, Nat.reduceSub, Nat.reduceLT, Nat.reduceMul, reduceCtorEq, Int.reduceToNat, Int.reduceLE, Int.reduceLT, Nat.reduceLeDiff])
              obtain ⟨r148, hr148, hP⟩ := bind_cases hP
              refine call_ok [.view 1 (List.map encB b1)] (utf8_Decode_ok hr148) ⟨argR_m false rfl, trivial⟩ ?_
              (try simp only [go_sem, Nat.reduceEqDiff, reduceIte, Nat.reduceAdd, Nat.reduceSub, Nat.reduceLT, Nat.reduceMul, reduceCtorEq, Int.reduceToNat, Int.reduceLE, Int.reduceLT, Nat.reduceLeDiff])
              refine hold2 (then_n ?_)
              refine J_ret (fin_ret ?_)
              obtain rfl := Option.some.inj hP
              (try simp only [go_sem, Nat.reduceEqDiff, reduceIte, Nat.reduceAdd, Nat.reduceSub, Nat.reduceLT, Nat.reduceMul, reduceCtorEq, Int.reduceToNat, Int.reduceLE, Int.reduceLT, Nat.reduceLeDiff])
              refine fin_of [] (by decide) ?_ ?_ <;> first | rfl | simp only [List.length_set, List.length_replicate, ren, ren2, ren1, renH, renO, go_sem, Nat.reduceEqDiff, reduceIte, Nat.reduceAdd, Nat.reduceSub, Nat.reduceLT, Nat.reduceMul, reduceCtorEq, Int.reduceToNat, Int.reduceLE, Int.reduceLT, Nat.reduceLeDiff]
end Go.Proofs.Ytcmmmomkfamodaa
