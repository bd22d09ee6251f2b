/- Functions of the program, and pure ones that go the same ways: that the program's return what these compute. -/
import Derived.Test.YtbcmngnmfneeaaaDoorGC
import Derived.Test.YtbcmngnmfneeaaaDoorAvPj
namespace Go.Proofs.YtbcmngnmfneeaaaDoor
open Go.Av
set_option linter.unusedVariables false
set_option linter.unusedSimpArgs false
/-- colander/head.Request -/
def head_text_rows_L363 (s1 : List UInt8) : Nat → Int → (List ((List UInt8) × (List UInt8))) → Option (Sum (Int × Int) ((List ((List UInt8) × (List UInt8)))))
  | 0, _, _ => none
  | k363 + 1, l361, l362 =>
    (show Option (Sum (Int × Int) ((List UInt8) × Int)) from
      (slL s1 l361 (List.length s1 : Int)).bind fun s383 =>
      (indexAnyY s383 [13, 10]).bind fun r384 =>
      (show Option (Bool) from
        if decide (r384 < 0) then
          some (decide (r384 < 0))
        else
          (ixL s1 (iadd .i64 l361 r384)).bind fun c387 =>
          if decide (b2i c387 = b2i (bC 13)) then
            some (decide (iadd .i64 (iadd .i64 l361 r384) 1 = (List.length s1 : Int)))
          else
            some false).bind fun j388 =>
        if j388 then
          (head_fail (List.length s1 : Int) 24).bind fun r389 => match r389 with
          | Sum.inl p390 =>
            some (Sum.inl (p390.1, p390.2))
          | Sum.inr r391 =>
            none
        else
          (show Option (Bool) from
            (ixL s1 (iadd .i64 l361 r384)).bind fun c395 =>
            if decide (b2i c395 = b2i (bC 10)) then
              some (decide (b2i c395 = b2i (bC 10)))
            else
              (ixL s1 (iadd .i64 (iadd .i64 l361 r384) 1)).bind fun c396 =>
              some (!decide (b2i c396 = b2i (bC 10)))).bind fun j397 =>
            if j397 then
              (head_fail (iadd .i64 l361 r384) 10).bind fun r398 => match r398 with
              | Sum.inl p399 =>
                some (Sum.inl (p399.1, p399.2))
              | Sum.inr r400 =>
                none
            else
              (slL s1 l361 (iadd .i64 l361 r384)).bind fun s401 =>
              some (Sum.inr (s401, iadd .i64 (iadd .i64 l361 r384) 2))).bind fun o403 => match o403 with
    | Sum.inl a404 =>
      some (Sum.inl (a404.1, a404.2))
    | Sum.inr a405 =>
      (show Option (Bool) from
        if decide (a405.1 = []) then
          some (decide (a405.2 < (List.length s1 : Int)))
        else
          some false).bind fun j407 =>
        if j407 then
          (head_fail a405.2 1).bind fun r408 => match r408 with
          | Sum.inl p409 =>
            some (Sum.inl (p409.1, p409.2))
          | Sum.inr r410 =>
            none
        else
          if decide (a405.1 = []) then
            some (Sum.inr l362)
          else
            if decide (((List.length l362 : Nat) : Int) = 32) then
              (head_fail l361 18).bind fun r411 => match r411 with
              | Sum.inl p412 =>
                some (Sum.inl (p412.1, p412.2))
              | Sum.inr r413 =>
                none
            else
              (head_field a405.1 l361).bind fun r414 => match r414 with
              | Sum.inl p415 =>
                some (Sum.inl (p415.1, p415.2))
              | Sum.inr r416 =>
                (szC (32 * List.length (l362 ++ [(r416.1, r416.2)] : List ((List UInt8) × (List UInt8))))).bind fun _ =>
                head_text_rows_L363 s1 k363 a405.2 (l362 ++ [(r416.1, r416.2)])
def head_Request (s1 : List UInt8) : Option (((List UInt8) × (List UInt8) × (List ((List UInt8) × (List UInt8)))) × Bool) :=
  (show Option (Sum (Int × Int) (Unit)) from
    if decide (2048 < (List.length s1 : Int)) then
      (head_fail 2048 17).bind fun r5 => match r5 with
      | Sum.inl p6 =>
        some (Sum.inl (p6.1, p6.2))
      | Sum.inr r7 =>
        none
    else
      some (Sum.inr ())).bind fun o9 => match o9 with
  | Sum.inl a10 =>
    (show Option (Unit) from
      some ()).bind fun a11 =>
      some (([], [], ([] : List ((List UInt8) × (List UInt8)))), false)
  | Sum.inr a13 =>
    (show Option (Sum (Int × Int) ((List UInt8) × Int)) from
      (slL s1 0 (List.length s1 : Int)).bind fun s33 =>
      (indexAnyY s33 [13, 10]).bind fun r34 =>
      (show Option (Bool) from
        if decide (r34 < 0) then
          some (decide (r34 < 0))
        else
          (ixL s1 (iadd .i64 0 r34)).bind fun c37 =>
          if decide (b2i c37 = b2i (bC 13)) then
            some (decide (iadd .i64 (iadd .i64 0 r34) 1 = (List.length s1 : Int)))
          else
            some false).bind fun j38 =>
        if j38 then
          (head_fail (List.length s1 : Int) 24).bind fun r39 => match r39 with
          | Sum.inl p40 =>
            some (Sum.inl (p40.1, p40.2))
          | Sum.inr r41 =>
            none
        else
          (show Option (Bool) from
            (ixL s1 (iadd .i64 0 r34)).bind fun c45 =>
            if decide (b2i c45 = b2i (bC 10)) then
              some (decide (b2i c45 = b2i (bC 10)))
            else
              (ixL s1 (iadd .i64 (iadd .i64 0 r34) 1)).bind fun c46 =>
              some (!decide (b2i c46 = b2i (bC 10)))).bind fun j47 =>
            if j47 then
              (head_fail (iadd .i64 0 r34) 10).bind fun r48 => match r48 with
              | Sum.inl p49 =>
                some (Sum.inl (p49.1, p49.2))
              | Sum.inr r50 =>
                none
            else
              (slL s1 0 (iadd .i64 0 r34)).bind fun s51 =>
              some (Sum.inr (s51, iadd .i64 (iadd .i64 0 r34) 2))).bind fun o53 => match o53 with
    | Sum.inl a54 =>
      (show Option (Unit) from
        some ()).bind fun a55 =>
        some (([], [], ([] : List ((List UInt8) × (List UInt8)))), false)
    | Sum.inr a57 =>
      (cutX a57.1 [32]).bind fun r58 =>
      (show Option (Bool) from
        if !r58.2.2 then
          some true
        else
          (head_method r58.1).bind fun r61 =>
          some (!r61)).bind fun j62 =>
        if j62 then
          (head_fail 0 12).bind fun r63 => match r63 with
          | Sum.inl p64 =>
            (show Option (Unit) from
              some ()).bind fun a66 =>
              some (([], [], ([] : List ((List UInt8) × (List UInt8)))), false)
          | Sum.inr r65 =>
            none
        else
          (cutX r58.2.1 [32]).bind fun r68 =>
          (show Option (Bool) from
            if !r68.2.2 then
              some true
            else
              (head_target r68.1).bind fun r71 =>
              some (!r71)).bind fun j72 =>
            if j72 then
              (head_fail (iadd .i64 (List.length r58.1 : Int) 1) 13).bind fun r73 => match r73 with
              | Sum.inl p74 =>
                (show Option (Unit) from
                  some ()).bind fun a76 =>
                  some (([], [], ([] : List ((List UInt8) × (List UInt8)))), false)
              | Sum.inr r75 =>
                none
            else
              if !decide (r68.2.1 = [72, 84, 84, 80, 47, 49, 46, 49]) then
                (head_fail (iadd .i64 (iadd .i64 (List.length r58.1 : Int) (List.length r68.1 : Int)) 2) 14).bind fun r78 => match r78 with
                | Sum.inl p79 =>
                  (show Option (Unit) from
                    some ()).bind fun a81 =>
                    some (([], [], ([] : List ((List UInt8) × (List UInt8)))), false)
                | Sum.inr r80 =>
                  none
              else
                (show Option (Sum (Int × Int) ((List ((List UInt8) × (List UInt8))))) from
                  head_text_rows_L363 s1 140737488355328 a57.2 ([] : List ((List UInt8) × (List UInt8)))).bind fun o420 => match o420 with
                | Sum.inl a421 =>
                  (show Option (Unit) from
                    some ()).bind fun a422 =>
                    some (([], [], ([] : List ((List UInt8) × (List UInt8)))), false)
                | Sum.inr a424 =>
                  (head_host a424).bind fun r425 =>
                  if !r425 then
                    (head_fail 0 16).bind fun r426 => match r426 with
                    | Sum.inl p427 =>
                      (show Option (Unit) from
                        some ()).bind fun a429 =>
                        some (([], [], ([] : List ((List UInt8) × (List UInt8)))), false)
                    | Sum.inr r428 =>
                      none
                  else
                    some ((r58.1, r68.1, a424), true)
set_option maxRecDepth 100000 in
set_option maxHeartbeats 40000000 in
theorem head_Request_ok {s1 : List UInt8} {r : ((List UInt8) × (List UInt8) × (List ((List UInt8) × (List UInt8)))) × Bool} (hP : head_Request s1 = some r) : CallOK Tryd.prog 6 [.str s1] (.tup [.agg [.str r.1.1, .str r.1.2.1, .own 0 0 0 (List.length r.1.2.2)], errA 74 r.2]) [.slice 0 49 2 (List.map enc_api_Field r.1.2.2)] := by
  unfold head_Request at hP
  refine callOK_defers (n := 71) (m := 9) (rs := [.cell 2 25, .cell 3 27]) (capsT := [2, 3]) Tryd.func6 rfl (by decide) rfl rfl (by simp) rfl (by first | rfl | simp [AV.vf, AV.vfL]) (by first | (intro o ho; simp at ho; done) | (simp [vfO, AV.vf, AV.vfL, encB, encI, encS, encO, enc_colanderref05_Reader, enc_api_Field, enc_api_Fault, enc_head_text]; done) | (simp [vfO, AV.vf, AV.vfL, encB, encI, encS, encO, enc_colanderref05_Reader, enc_api_Field, enc_api_Fault, enc_head_text]; intros; subst_vars; simp [AV.vf, AV.vfL])) Tryd.func14 rfl (by decide) rfl rfl (by decide) (by decide) (by decide) (by decide) ?_
  refine J_region (by kernel_rfl) ?_
  (try simp only [go_sem, Nat.reduceEqDiff, ↓reduceIte])
  refine hold2 (under_n ?_)
  refine J_prom 49 2 (by decide) 0 2 _ _ rfl rfl ?_
  (try simp only [go_sem, Nat.reduceEqDiff, ↓reduceIte])
  (try simp only [List.map_cons, List.map_nil, go_sem, Nat.reduceEqDiff, ↓reduceIte])
  refine J_seq ?_
  refine J_regionP (by kernel_rfl) ?_
  (try simp only [go_sem, Nat.reduceEqDiff, ↓reduceIte])
  obtain ⟨o9, hP, hQ8⟩ := bind_cases hP
  refine callP_join (fun (s : Unit) => .bptr 3 0) (fun (s : Unit) => envL [(2, .bptr 0 0), (3, .bptr 2 0), (71, .fn 14 [.bptr 0 0, .bptr 2 0])]) (fun (s : Unit) => [.box 25 [.str [], .str [], .own 1 0 0 (List.length ([] : List ((List UInt8) × (List UInt8))))], .slice 0 49 2 (List.map enc_api_Field ([] : List ((List UInt8) × (List UInt8)))), .box 27 [.sc .nilIface], .box 76 [.str s1, .int .i64 0]]) (fun s => Sum.inr s = o9) (fun (s : Int × Int) => .iface 72 (.agg [.int .i64 s.1, .int .i64 s.2])) (fun (s : Int × Int) => envL [(2, .bptr 0 0), (3, .bptr 2 0), (71, .fn 14 [.bptr 0 0, .bptr 2 0])]) (fun (s : Int × Int) => [.box 25 [.str [], .str [], .own 1 0 0 (List.length ([] : List ((List UInt8) × (List UInt8))))], .slice 0 49 2 (List.map enc_api_Field ([] : List ((List UInt8) × (List UInt8)))), .box 27 [.sc .nilIface]]) (fun s => Sum.inl s = o9) (callIX_of (n := 10) (rs := [.tmp 2]) Tryd.func16 rfl (by decide) rfl rfl (by simp) rfl ?_) ?_ ?_
  · clear hQ8
    refine J_seq ?_
    refine J_region (by kernel_rfl) ?_
    (try simp only [go_sem, Nat.reduceEqDiff, ↓reduceIte])
    refine hold2 (then_n ?_)
    refine J_seq ?_
    refine J_seq ?_
    refine J_region (by kernel_rfl) ?_
    (try simp only [go_sem, Nat.reduceEqDiff, ↓reduceIte])
    refine hold2 (then_n ?_)
    refine J_condV rfl ?_
    (try simp only [go_sem, Nat.reduceEqDiff, ↓reduceIte])
    rcases ite_cases hP with ⟨hc, hP⟩ | ⟨hc, hP⟩
    · refine condV_t hc ?_
      refine J_regionP (by kernel_rfl) ?_
      (try simp only [go_sem, Nat.reduceEqDiff, ↓reduceIte])
      obtain ⟨r5, hr5, hP⟩ := bind_cases hP
      rcases r5 with p6 | r7 <;> dsimp only at hP
      · refine callP_p [.int .i64 2048, .int .i64 17] (head_fail_ok hr5) ⟨argR_m false rfl, argR_m false rfl, trivial⟩ (holdP (then_p (finIX_p ?_)))
        exact told_of ⟨(p6.1, p6.2), Option.some.inj hP, sp [0, 2, 1]⟩
      · cases hP
    · refine condV_f hc ?_
      refine J_skip (then_n ?_)
      refine J_seq ?_
      refine J_region (by kernel_rfl) ?_
      (try simp only [go_sem, Nat.reduceEqDiff, ↓reduceIte, Nat.reduceAdd, Nat.reduceSub, Nat.reduceLT, Nat.reduceMul, reduceCtorEq, Int.reduceToNat, Int.reduceLE, Int.reduceLT, Nat.reduceLeDiff])
      refine hold2 (then_n ?_)
      refine J_ret (finIX_ret ?_)
      exact told_of ⟨(), Option.some.inj hP, sr [0, 2, 1, 3]⟩
  · intro a13 hs
    subst hs
    have hP := hQ8
    dsimp only at hP
    clear hQ8
    (try simp only [go_sem, Nat.reduceEqDiff, ↓reduceIte])
    refine hold2 (then_n ?_)
    refine J_seq ?_
    refine J_regionP (by kernel_rfl) ?_
    (try simp only [go_sem, Nat.reduceEqDiff, ↓reduceIte])
    obtain ⟨o53, hP, hQ52⟩ := bind_cases hP
    refine callP_join (fun (s : (List UInt8) × Int) => .tup [.str s.1, .int .i64 0]) (fun (s : (List UInt8) × Int) => envL [(2, .bptr 0 0), (3, .bptr 2 0), (4, .bptr 3 0), (71, .fn 14 [.bptr 0 0, .bptr 2 0])]) (fun (s : (List UInt8) × Int) => [.box 25 [.str [], .str [], .own 1 0 0 (List.length ([] : List ((List UInt8) × (List UInt8))))], .slice 0 49 2 (List.map enc_api_Field ([] : List ((List UInt8) × (List UInt8)))), .box 27 [.sc .nilIface], .box 76 [.str s1, .int .i64 s.2]]) (fun s => Sum.inr s = o53) (fun (s : Int × Int) => .iface 72 (.agg [.int .i64 s.1, .int .i64 s.2])) (fun (s : Int × Int) => envL [(2, .bptr 0 0), (3, .bptr 2 0), (71, .fn 14 [.bptr 0 0, .bptr 2 0])]) (fun (s : Int × Int) => [.box 25 [.str [], .str [], .own 1 0 0 (List.length ([] : List ((List UInt8) × (List UInt8))))], .slice 0 49 2 (List.map enc_api_Field ([] : List ((List UInt8) × (List UInt8)))), .box 27 [.sc .nilIface]]) (fun s => Sum.inl s = o53) (callIX_of (n := 82) (rs := [.tmp 2, .tmp 3]) Tryd.func17 rfl (by decide) rfl rfl (by simp) rfl ?_) ?_ ?_
    · clear hQ52
      refine J_seq ?_
      refine J_region (by kernel_rfl) ?_
      (try simp only [go_sem, Nat.reduceEqDiff, ↓reduceIte])
      refine hold2 (then_n ?_)
      refine J_seq ?_
      refine J_region (by kernel_rfl) ?_
      (try simp only [go_sem, Nat.reduceEqDiff, ↓reduceIte])
      refine hold2 (then_n ?_)
      refine J_seq ?_
      refine J_region (by kernel_rfl) ?_
      (try simp only [go_sem, Nat.reduceEqDiff, ↓reduceIte])
      obtain ⟨s33, hs33, hP⟩ := bind_cases hP
      refine slS_of hs33 ?_
      (try simp only [go_sem, Nat.reduceEqDiff, ↓reduceIte])
      obtain ⟨r34, hr34, hP⟩ := bind_cases hP
      refine call_ok [.str s33, .str [13, 10]] (indexAnyY_ok hr34) ⟨argR_m false rfl, argR_m false rfl, trivial⟩ ?_
      (try simp only [go_sem, Nat.reduceEqDiff, ↓reduceIte])
      refine hold2 (then_n ?_)
      refine J_seq ?_
      refine J_seq ?_
      refine J_region (by kernel_rfl) ?_
      (try simp only [go_sem, Nat.reduceEqDiff, ↓reduceIte])
      refine hold2 (then_n ?_)
      refine J_block ?_
      obtain ⟨o36, hP, hQ36⟩ := bind_cases hP
      refine J_join (fun (s : Bool) => envL [(0, .bptr 0 0), (4, .int .i64 0), (5, .int .i64 r34), (6, .int .i64 (iadd .i64 0 r34)), (21, .bool s), (84, .bptr 1 0), (85, .bptr 3 0), (86, .bptr 0 0), (153, .fn 14 [.bptr 1 0, .bptr 3 0])]) (fun (s : Bool) => [.box 76 [.str s1, .int .i64 0], .box 25 [.str [], .str [], .own 2 0 0 (List.length ([] : List ((List UInt8) × (List UInt8))))], .slice 0 49 2 (List.map enc_api_Field ([] : List ((List UInt8) × (List UInt8)))), .box 27 [.sc .nilIface]]) (fun s => s = o36) ?_ ?_
      · clear hQ36
        refine J_seq ?_
        refine J_region (by kernel_rfl) ?_
        (try simp only [go_sem, Nat.reduceEqDiff, ↓reduceIte])
        refine hold2 (then_n ?_)
        refine J_condV rfl ?_
        (try simp only [go_sem, Nat.reduceEqDiff, ↓reduceIte])
        rcases ite_cases hP with ⟨hc, hP⟩ | ⟨hc, hP⟩
        · refine condV_t hc ?_
          refine J_skip ?_
          exact join_n (decide (r34 < 0)) (Option.some.inj hP) (so [3, 0, 1, 2])
        · refine condV_f hc ?_
          refine J_region (by kernel_rfl) ?_
          (try simp only [go_sem, Nat.reduceEqDiff, ↓reduceIte])
          obtain ⟨c37, hc37, hP⟩ := bind_cases hP
          refine ixS_of hc37 ?_
          (try simp only [go_sem, Nat.reduceEqDiff, ↓reduceIte])
          rcases ite_cases hP with ⟨hc, hP⟩ | ⟨hc, hP⟩
          · refine guard_is hc ?_
            (try simp only [go_sem, Nat.reduceEqDiff, ↓reduceIte])
            refine hold2 ?_
            exact join_n (decide (iadd .i64 (iadd .i64 0 r34) 1 = (List.length s1 : Int))) (Option.some.inj hP) (so [3, 0, 1, 2])
          · refine guard_not hc ?_
            (try simp only [go_sem, Nat.reduceEqDiff, ↓reduceIte])
            refine hold2 ?_
            exact join_n false (Option.some.inj hP) (so [3, 0, 1, 2])
      · intro j38 hs
        subst hs
        have hP := hQ36
        clear hQ36
        refine J_condV rfl ?_
        (try simp only [go_sem, Nat.reduceEqDiff, ↓reduceIte])
        rcases ite_cases hP with ⟨hc, hP⟩ | ⟨hc, hP⟩
        · refine condV_t hc ?_
          refine J_regionP (by kernel_rfl) ?_
          (try simp only [go_sem, Nat.reduceEqDiff, ↓reduceIte])
          obtain ⟨r39, hr39, hP⟩ := bind_cases hP
          rcases r39 with p40 | r41 <;> dsimp only at hP
          · refine callP_p [.int .i64 (List.length s1 : Int), .int .i64 24] (head_fail_ok hr39) ⟨argR_m false rfl, argR_m false rfl, trivial⟩ (holdP (block_p (then_p (finIX_p ?_))))
            exact told_of ⟨(p40.1, p40.2), Option.some.inj hP, sp [1, 2, 3]⟩
          · cases hP
        · refine condV_f hc ?_
          obtain ⟨o44, hP, hQ44⟩ := bind_cases hP
          refine J_join (fun (s : Bool) => envL [(0, .bptr 0 0), (4, .int .i64 0), (5, .int .i64 r34), (6, .int .i64 (iadd .i64 0 r34)), (47, .bool s), (84, .bptr 1 0), (85, .bptr 3 0), (86, .bptr 0 0), (153, .fn 14 [.bptr 1 0, .bptr 3 0])]) (fun (s : Bool) => [.box 76 [.str s1, .int .i64 0], .box 25 [.str [], .str [], .own 2 0 0 (List.length ([] : List ((List UInt8) × (List UInt8))))], .slice 0 49 2 (List.map enc_api_Field ([] : List ((List UInt8) × (List UInt8)))), .box 27 [.sc .nilIface]]) (fun s => s = o44) ?_ ?_
          · clear hQ44
            refine J_seq ?_
            refine J_region (by kernel_rfl) ?_
            (try simp only [go_sem, Nat.reduceEqDiff, ↓reduceIte])
            obtain ⟨c45, hc45, hP⟩ := bind_cases hP
            refine ixS_of hc45 ?_
            (try simp only [go_sem, Nat.reduceEqDiff, ↓reduceIte])
            refine hold2 (then_n ?_)
            refine J_condV rfl ?_
            (try simp only [go_sem, Nat.reduceEqDiff, ↓reduceIte])
            rcases ite_cases hP with ⟨hc, hP⟩ | ⟨hc, hP⟩
            · refine condV_t hc ?_
              refine J_skip ?_
              exact join_n (decide (b2i c45 = b2i (bC 10))) (Option.some.inj hP) (so [0, 1, 2, 3])
            · refine condV_f hc ?_
              refine J_region (by kernel_rfl) ?_
              (try simp only [go_sem, Nat.reduceEqDiff, ↓reduceIte])
              obtain ⟨c46, hc46, hP⟩ := bind_cases hP
              refine ixS_of hc46 ?_
              (try simp only [go_sem, Nat.reduceEqDiff, ↓reduceIte])
              refine hold2 ?_
              exact join_n (!decide (b2i c46 = b2i (bC 10))) (Option.some.inj hP) (so [0, 1, 2, 3])
          · intro j47 hs
            subst hs
            have hP := hQ44
            clear hQ44
            refine J_condV rfl ?_
            (try simp only [go_sem, Nat.reduceEqDiff, ↓reduceIte])
            rcases ite_cases hP with ⟨hc, hP⟩ | ⟨hc, hP⟩
            · refine condV_t hc ?_
              refine J_regionP (by kernel_rfl) ?_
              (try simp only [go_sem, Nat.reduceEqDiff, ↓reduceIte])
              obtain ⟨r48, hr48, hP⟩ := bind_cases hP
              rcases r48 with p49 | r50 <;> dsimp only at hP
              · refine callP_p [.int .i64 (iadd .i64 0 r34), .int .i64 10] (head_fail_ok hr48) ⟨argR_m false rfl, argR_m false rfl, trivial⟩ (holdP (block_p (then_p (finIX_p ?_))))
                exact told_of ⟨(p49.1, p49.2), Option.some.inj hP, sp [1, 2, 3]⟩
              · cases hP
            · refine condV_f hc ?_
              refine J_skip (block_n (then_n ?_))
              refine J_seq ?_
              refine J_region (by kernel_rfl) ?_
              (try simp only [go_sem, Nat.reduceEqDiff, ↓reduceIte])
              refine hold2 (then_n ?_)
              refine J_seq ?_
              refine J_region (by kernel_rfl) ?_
              (try simp only [go_sem, Nat.reduceEqDiff, ↓reduceIte])
              obtain ⟨s51, hs51, hP⟩ := bind_cases hP
              refine slS_of hs51 ?_
              (try simp only [go_sem, Nat.reduceEqDiff, ↓reduceIte])
              refine hold2 (then_n ?_)
              refine J_ret (finIX_ret ?_)
              exact told_of ⟨(s51, iadd .i64 (iadd .i64 0 r34) 2), Option.some.inj hP, sr [1, 2, 3, 0]⟩
    · intro a57 hs
      subst hs
      have hP := hQ52
      dsimp only at hP
      clear hQ52
      (try simp only [go_sem, Nat.reduceEqDiff, ↓reduceIte])
      refine hold2 (then_n ?_)
      refine J_seq ?_
      refine J_region (by kernel_rfl) ?_
      (try simp only [go_sem, Nat.reduceEqDiff, ↓reduceIte])
      obtain ⟨r58, hr58, hP⟩ := bind_cases hP
      refine call_ok [.str a57.1, .str [32]] (cutX_ok hr58) ⟨argR_m false rfl, argR_m false rfl, trivial⟩ ?_
      (try simp only [go_sem, Nat.reduceEqDiff, ↓reduceIte])
      refine hold2 (then_n ?_)
      refine J_seq ?_
      obtain ⟨o60, hP, hQ60⟩ := bind_cases hP
      refine J_join (fun (s : Bool) => envL [(2, .bptr 0 0), (3, .bptr 2 0), (4, .bptr 3 0), (7, .str r58.1), (8, .str r58.2.1), (32, .bool s), (71, .fn 14 [.bptr 0 0, .bptr 2 0])]) (fun (s : Bool) => [.box 25 [.str [], .str [], .own 1 0 0 (List.length ([] : List ((List UInt8) × (List UInt8))))], .slice 0 49 2 (List.map enc_api_Field ([] : List ((List UInt8) × (List UInt8)))), .box 27 [.sc .nilIface], .box 76 [.str s1, .int .i64 a57.2]]) (fun s => s = o60) ?_ ?_
      · clear hQ60
        refine J_region (by kernel_rfl) ?_
        (try simp only [go_sem, Nat.reduceEqDiff, ↓reduceIte])
        rcases ite_cases hP with ⟨hc, hP⟩ | ⟨hc, hP⟩
        · refine guard_not hc ?_
          (try simp only [go_sem, Nat.reduceEqDiff, ↓reduceIte])
          refine hold2 ?_
          exact join_n true (Option.some.inj hP) (so [0, 1, 2, 3])
        · refine guard_is hc ?_
          (try simp only [go_sem, Nat.reduceEqDiff, ↓reduceIte])
          obtain ⟨r61, hr61, hP⟩ := bind_cases hP
          refine call_ok [.str r58.1] (head_method_ok hr61) ⟨argR_m false rfl, trivial⟩ ?_
          (try simp only [go_sem, Nat.reduceEqDiff, ↓reduceIte])
          refine hold2 ?_
          exact join_n (!r61) (Option.some.inj hP) (so [0, 1, 2, 3])
      · intro j62 hs
        subst hs
        have hP := hQ60
        clear hQ60
        refine J_condV rfl ?_
        (try simp only [go_sem, Nat.reduceEqDiff, ↓reduceIte])
        rcases ite_cases hP with ⟨hc, hP⟩ | ⟨hc, hP⟩
        · refine condV_t hc ?_
          refine J_regionP (by kernel_rfl) ?_
          (try simp only [go_sem, Nat.reduceEqDiff, ↓reduceIte])
          obtain ⟨r63, hr63, hP⟩ := bind_cases hP
          rcases r63 with p64 | r65 <;> dsimp only at hP
          · refine callP_p [.int .i64 0, .int .i64 12] (head_fail_ok hr63) ⟨argR_m false rfl, argR_m false rfl, trivial⟩ (holdP (then_p (finD_p _ (by simp [AV.pl, AV.plL]) rfl (by simp) ?_)))
            unfold Caught
            refine J_seq ?_
            refine J_region (by kernel_rfl) ?_
            (try simp only [go_sem, Nat.reduceEqDiff, ↓reduceIte])
            refine hold2 (then_n ?_)
            refine J_condV rfl ?_
            (try simp only [go_sem, Nat.reduceEqDiff, ↓reduceIte])
            refine J_regionP (by kernel_rfl) ?_
            (try simp only [go_sem, Nat.reduceEqDiff, ↓reduceIte])
            obtain ⟨o67, hP, hQ66⟩ := bind_cases hP
            refine callP_n (call_join (fun (s : Unit) => .iface 74 .dead) (fun (s : Unit) => envL [(0, .bptr 0 0), (1, .bptr 2 0), (6, .agg [.str [], .str [], .sc (.slice none 0 0)]), (11, .bptr 0 0), (12, .bptr 2 0), (80, .fn 14 [.bptr 0 0, .bptr 2 0])]) (fun (s : Unit) => [.box 25 [.str [], .str [], .own 1 0 0 (List.length ([] : List ((List UInt8) × (List UInt8))))], .slice 0 49 2 (List.map enc_api_Field ([] : List ((List UInt8) × (List UInt8)))), .box 27 [.sc .nilIface]]) (fun s => s = o67) (callI_of (n := 15) (rs := [.tmp 2]) Tryd.func15 rfl (by decide) rfl rfl (by simp) rfl ?_) ?_)
            · clear hQ66
              refine J_seq ?_
              refine J_region (by kernel_rfl) ?_
              (try simp only [go_sem, Nat.reduceEqDiff, ↓reduceIte])
              refine hold2 (then_n ?_)
              refine J_seq ?_
              refine J_region (by kernel_rfl) ?_
              (try simp only [go_sem, Nat.reduceEqDiff, ↓reduceIte, Nat.reduceAdd, Nat.reduceSub, Nat.reduceLT, Nat.reduceMul, reduceCtorEq, Int.reduceToNat, Int.reduceLE, Int.reduceLT, Nat.reduceLeDiff])
              refine hold2 (then_n ?_)
              refine J_seq ?_
              refine J_seq ?_
              refine J_region (by kernel_rfl) ?_
              (try simp only [go_sem, Nat.reduceEqDiff, ↓reduceIte])
              refine hold2 (then_n ?_)
              refine J_condV rfl ?_
              (try simp only [go_sem, Nat.reduceEqDiff, ↓reduceIte])
              refine J_skip (then_n ?_)
              refine J_seq ?_
              refine J_region (by kernel_rfl) ?_
              (try simp only [go_sem, Nat.reduceEqDiff, ↓reduceIte])
              refine hold2 (then_n ?_)
              refine J_ret (finI_ret ?_)
              exact told_of ⟨(), Option.some.inj hP, sr [0, 1, 2]⟩
            · intro a66 hs
              subst hs
              have hP := hQ66
              clear hQ66
              (try simp only [go_sem, Nat.reduceEqDiff, ↓reduceIte])
              refine hold2 ?_
              refine finC_prom 49 2 (by decide) 0 2 _ _ rfl rfl ?_
              (try simp only [go_sem, Nat.reduceEqDiff, ↓reduceIte])
              refine finC_n ?_
              obtain rfl := Option.some.inj hP
              (try simp only [go_sem, Nat.reduceEqDiff, ↓reduceIte])
              exact fo [3]
          · cases hP
        · refine condV_f hc ?_
          refine J_skip (then_n ?_)
          refine J_seq ?_
          refine J_region (by kernel_rfl) ?_
          (try simp only [go_sem, Nat.reduceEqDiff, ↓reduceIte])
          obtain ⟨r68, hr68, hP⟩ := bind_cases hP
          refine call_ok [.str r58.2.1, .str [32]] (cutX_ok hr68) ⟨argR_m false rfl, argR_m false rfl, trivial⟩ ?_
          (try simp only [go_sem, Nat.reduceEqDiff, ↓reduceIte])
          refine hold2 (then_n ?_)
          refine J_seq ?_
          obtain ⟨o70, hP, hQ70⟩ := bind_cases hP
          refine J_join (fun (s : Bool) => envL [(2, .bptr 0 0), (3, .bptr 2 0), (4, .bptr 3 0), (7, .str r58.1), (10, .str r68.1), (11, .str r68.2.1), (46, .bool s), (71, .fn 14 [.bptr 0 0, .bptr 2 0])]) (fun (s : Bool) => [.box 25 [.str [], .str [], .own 1 0 0 (List.length ([] : List ((List UInt8) × (List UInt8))))], .slice 0 49 2 (List.map enc_api_Field ([] : List ((List UInt8) × (List UInt8)))), .box 27 [.sc .nilIface], .box 76 [.str s1, .int .i64 a57.2]]) (fun s => s = o70) ?_ ?_
          · clear hQ70
            refine J_region (by kernel_rfl) ?_
            (try simp only [go_sem, Nat.reduceEqDiff, ↓reduceIte])
            rcases ite_cases hP with ⟨hc, hP⟩ | ⟨hc, hP⟩
            · refine guard_not hc ?_
              (try simp only [go_sem, Nat.reduceEqDiff, ↓reduceIte])
              refine hold2 ?_
              exact join_n true (Option.some.inj hP) (so [0, 1, 2, 3])
            · refine guard_is hc ?_
              (try simp only [go_sem, Nat.reduceEqDiff, ↓reduceIte])
              obtain ⟨r71, hr71, hP⟩ := bind_cases hP
              refine call_ok [.str r68.1] (head_target_ok hr71) ⟨argR_m false rfl, trivial⟩ ?_
              (try simp only [go_sem, Nat.reduceEqDiff, ↓reduceIte])
              refine hold2 ?_
              exact join_n (!r71) (Option.some.inj hP) (so [0, 1, 2, 3])
          · intro j72 hs
            subst hs
            have hP := hQ70
            clear hQ70
            refine J_condV rfl ?_
            (try simp only [go_sem, Nat.reduceEqDiff, ↓reduceIte])
            rcases ite_cases hP with ⟨hc, hP⟩ | ⟨hc, hP⟩
            · refine condV_t hc ?_
              refine J_regionP (by kernel_rfl) ?_
              (try simp only [go_sem, Nat.reduceEqDiff, ↓reduceIte])
              obtain ⟨r73, hr73, hP⟩ := bind_cases hP
              rcases r73 with p74 | r75 <;> dsimp only at hP
              · refine callP_p [.int .i64 (iadd .i64 (List.length r58.1 : Int) 1), .int .i64 13] (head_fail_ok hr73) ⟨argR_m false rfl, argR_m false rfl, trivial⟩ (holdP (then_p (finD_p _ (by simp [AV.pl, AV.plL]) rfl (by simp) ?_)))
                unfold Caught
                refine J_seq ?_
                refine J_region (by kernel_rfl) ?_
                (try simp only [go_sem, Nat.reduceEqDiff, ↓reduceIte])
                refine hold2 (then_n ?_)
                refine J_condV rfl ?_
                (try simp only [go_sem, Nat.reduceEqDiff, ↓reduceIte])
                refine J_regionP (by kernel_rfl) ?_
                (try simp only [go_sem, Nat.reduceEqDiff, ↓reduceIte])
                obtain ⟨o77, hP, hQ76⟩ := bind_cases hP
                refine callP_n (call_join (fun (s : Unit) => .iface 74 .dead) (fun (s : Unit) => envL [(0, .bptr 0 0), (1, .bptr 2 0), (6, .agg [.str [], .str [], .sc (.slice none 0 0)]), (11, .bptr 0 0), (12, .bptr 2 0), (80, .fn 14 [.bptr 0 0, .bptr 2 0])]) (fun (s : Unit) => [.box 25 [.str [], .str [], .own 1 0 0 (List.length ([] : List ((List UInt8) × (List UInt8))))], .slice 0 49 2 (List.map enc_api_Field ([] : List ((List UInt8) × (List UInt8)))), .box 27 [.sc .nilIface]]) (fun s => s = o77) (callI_of (n := 15) (rs := [.tmp 2]) Tryd.func15 rfl (by decide) rfl rfl (by simp) rfl ?_) ?_)
                · clear hQ76
                  refine J_seq ?_
                  refine J_region (by kernel_rfl) ?_
                  (try simp only [go_sem, Nat.reduceEqDiff, ↓reduceIte])
                  refine hold2 (then_n ?_)
                  refine J_seq ?_
                  refine J_region (by kernel_rfl) ?_
                  (try simp only [go_sem, Nat.reduceEqDiff, ↓reduceIte, Nat.reduceAdd, Nat.reduceSub, Nat.reduceLT, Nat.reduceMul, reduceCtorEq, Int.reduceToNat, Int.reduceLE, Int.reduceLT, Nat.reduceLeDiff])
                  refine hold2 (then_n ?_)
                  refine J_seq ?_
                  refine J_seq ?_
                  refine J_region (by kernel_rfl) ?_
                  (try simp only [go_sem, Nat.reduceEqDiff, ↓reduceIte])
                  refine hold2 (then_n ?_)
                  refine J_condV rfl ?_
                  (try simp only [go_sem, Nat.reduceEqDiff, ↓reduceIte])
                  refine J_skip (then_n ?_)
                  refine J_seq ?_
                  refine J_region (by kernel_rfl) ?_
                  (try simp only [go_sem, Nat.reduceEqDiff, ↓reduceIte])
                  refine hold2 (then_n ?_)
                  refine J_ret (finI_ret ?_)
                  exact told_of ⟨(), Option.some.inj hP, sr [0, 1, 2]⟩
                · intro a76 hs
                  subst hs
                  have hP := hQ76
                  clear hQ76
                  (try simp only [go_sem, Nat.reduceEqDiff, ↓reduceIte])
                  refine hold2 ?_
                  refine finC_prom 49 2 (by decide) 0 2 _ _ rfl rfl ?_
                  (try simp only [go_sem, Nat.reduceEqDiff, ↓reduceIte])
                  refine finC_n ?_
                  obtain rfl := Option.some.inj hP
                  (try simp only [go_sem, Nat.reduceEqDiff, ↓reduceIte])
                  exact fo [3]
              · cases hP
            · refine condV_f hc ?_
              refine J_skip (then_n ?_)
              refine J_seq ?_
              refine J_seq ?_
              refine J_region (by kernel_rfl) ?_
              (try simp only [go_sem, Nat.reduceEqDiff, ↓reduceIte])
              refine hold2 (then_n ?_)
              refine J_condV rfl ?_
              (try simp only [go_sem, Nat.reduceEqDiff, ↓reduceIte])
              rcases ite_cases hP with ⟨hc, hP⟩ | ⟨hc, hP⟩
              · refine condV_t hc ?_
                refine J_regionP (by kernel_rfl) ?_
                (try simp only [go_sem, Nat.reduceEqDiff, ↓reduceIte])
                obtain ⟨r78, hr78, hP⟩ := bind_cases hP
                rcases r78 with p79 | r80 <;> dsimp only at hP
                · refine callP_p [.int .i64 (iadd .i64 (iadd .i64 (List.length r58.1 : Int) (List.length r68.1 : Int)) 2), .int .i64 14] (head_fail_ok hr78) ⟨argR_m false rfl, argR_m false rfl, trivial⟩ (holdP (then_p (finD_p _ (by simp [AV.pl, AV.plL]) rfl (by simp) ?_)))
                  unfold Caught
                  refine J_seq ?_
                  refine J_region (by kernel_rfl) ?_
                  (try simp only [go_sem, Nat.reduceEqDiff, ↓reduceIte])
                  refine hold2 (then_n ?_)
                  refine J_condV rfl ?_
                  (try simp only [go_sem, Nat.reduceEqDiff, ↓reduceIte])
                  refine J_regionP (by kernel_rfl) ?_
                  (try simp only [go_sem, Nat.reduceEqDiff, ↓reduceIte])
                  obtain ⟨o82, hP, hQ81⟩ := bind_cases hP
                  refine callP_n (call_join (fun (s : Unit) => .iface 74 .dead) (fun (s : Unit) => envL [(0, .bptr 0 0), (1, .bptr 2 0), (6, .agg [.str [], .str [], .sc (.slice none 0 0)]), (11, .bptr 0 0), (12, .bptr 2 0), (80, .fn 14 [.bptr 0 0, .bptr 2 0])]) (fun (s : Unit) => [.box 25 [.str [], .str [], .own 1 0 0 (List.length ([] : List ((List UInt8) × (List UInt8))))], .slice 0 49 2 (List.map enc_api_Field ([] : List ((List UInt8) × (List UInt8)))), .box 27 [.sc .nilIface]]) (fun s => s = o82) (callI_of (n := 15) (rs := [.tmp 2]) Tryd.func15 rfl (by decide) rfl rfl (by simp) rfl ?_) ?_)
                  · clear hQ81
                    refine J_seq ?_
                    refine J_region (by kernel_rfl) ?_
                    (try simp only [go_sem, Nat.reduceEqDiff, ↓reduceIte])
                    refine hold2 (then_n ?_)
                    refine J_seq ?_
                    refine J_region (by kernel_rfl) ?_
                    (try simp only [go_sem, Nat.reduceEqDiff, ↓reduceIte, Nat.reduceAdd, Nat.reduceSub, Nat.reduceLT, Nat.reduceMul, reduceCtorEq, Int.reduceToNat, Int.reduceLE, Int.reduceLT, Nat.reduceLeDiff])
                    refine hold2 (then_n ?_)
                    refine J_seq ?_
                    refine J_seq ?_
                    refine J_region (by kernel_rfl) ?_
                    (try simp only [go_sem, Nat.reduceEqDiff, ↓reduceIte])
                    refine hold2 (then_n ?_)
                    refine J_condV rfl ?_
                    (try simp only [go_sem, Nat.reduceEqDiff, ↓reduceIte])
                    refine J_skip (then_n ?_)
                    refine J_seq ?_
                    refine J_region (by kernel_rfl) ?_
                    (try simp only [go_sem, Nat.reduceEqDiff, ↓reduceIte])
                    refine hold2 (then_n ?_)
                    refine J_ret (finI_ret ?_)
                    exact told_of ⟨(), Option.some.inj hP, sr [0, 1, 2]⟩
                  · intro a81 hs
                    subst hs
                    have hP := hQ81
                    clear hQ81
                    (try simp only [go_sem, Nat.reduceEqDiff, ↓reduceIte])
                    refine hold2 ?_
                    refine finC_prom 49 2 (by decide) 0 2 _ _ rfl rfl ?_
                    (try simp only [go_sem, Nat.reduceEqDiff, ↓reduceIte])
                    refine finC_n ?_
                    obtain rfl := Option.some.inj hP
                    (try simp only [go_sem, Nat.reduceEqDiff, ↓reduceIte])
                    exact fo [3]
                · cases hP
              · refine condV_f hc ?_
                refine J_skip (then_n ?_)
                refine J_seq ?_
                refine J_regionP (by kernel_rfl) ?_
                (try simp only [go_sem, Nat.reduceEqDiff, ↓reduceIte])
                obtain ⟨o420, hP, hQ419⟩ := bind_cases hP
                refine callP_join (fun (s : (List ((List UInt8) × (List UInt8)))) => .own 3 0 0 (List.length s)) (fun (s : (List ((List UInt8) × (List UInt8)))) => envL [(2, .bptr 0 0), (3, .bptr 2 0), (60, .str r58.1), (61, .str r68.1), (71, .fn 14 [.bptr 0 0, .bptr 2 0])]) (fun (s : (List ((List UInt8) × (List UInt8)))) => [.box 25 [.str [], .str [], .own 1 0 0 (List.length ([] : List ((List UInt8) × (List UInt8))))], .slice 0 49 2 (List.map enc_api_Field ([] : List ((List UInt8) × (List UInt8)))), .box 27 [.sc .nilIface], .slice 0 49 2 (List.map enc_api_Field s)]) (fun s => Sum.inr s = o420) (fun (s : Int × Int) => .iface 72 (.agg [.int .i64 s.1, .int .i64 s.2])) (fun (s : Int × Int) => envL [(2, .bptr 0 0), (3, .bptr 2 0), (71, .fn 14 [.bptr 0 0, .bptr 2 0])]) (fun (s : Int × Int) => [.box 25 [.str [], .str [], .own 1 0 0 (List.length ([] : List ((List UInt8) × (List UInt8))))], .slice 0 49 2 (List.map enc_api_Field ([] : List ((List UInt8) × (List UInt8)))), .box 27 [.sc .nilIface]]) (fun s => Sum.inl s = o420) (callIX_of (n := 47) (rs := [.tmp 2]) Tryd.func22 rfl (by decide) rfl rfl (by simp) rfl ?_) ?_ ?_
                · clear hQ419
                  refine J_seq ?_
                  refine J_region (by kernel_rfl) ?_
                  (try simp only [go_sem, Nat.reduceEqDiff, ↓reduceIte])
                  refine hold2 (then_n ?_)
                  refine J_seq ?_
                  refine J_region (by kernel_rfl) ?_
                  (try simp only [go_sem, Nat.reduceEqDiff, ↓reduceIte])
                  refine hold2 (then_n ?_)
                  refine J_block ?_
                  refine J_loop (σ := Nat × Int × (List ((List UInt8) × (List UInt8)))) (fun (s : Nat × Int × (List ((List UInt8) × (List UInt8)))) => envL [(0, .bptr 0 0), (3, .own 1 0 0 (List.length s.2.2)), (49, .bptr 2 0), (50, .bptr 4 0), (107, .str r58.1), (108, .str r68.1), (118, .fn 14 [.bptr 2 0, .bptr 4 0])]) (fun (s : Nat × Int × (List ((List UInt8) × (List UInt8)))) => [.box 76 [.str s1, .int .i64 s.2.1], .slice 0 49 2 (List.map enc_api_Field s.2.2), .box 25 [.str [], .str [], .own 3 0 0 (List.length ([] : List ((List UInt8) × (List UInt8))))], .slice 0 49 2 (List.map enc_api_Field ([] : List ((List UInt8) × (List UInt8)))), .box 27 [.sc .nilIface]]) (fun s => head_text_rows_L363 s1 s.1 s.2.1 s.2.2 = some o420) (fun s => s.1) (140737488355328, a57.2, ([] : List ((List UInt8) × (List UInt8)))) hP (so [3, 5, 0, 1, 2]) ?_
                  rintro ⟨k363, l361, l362⟩ hP
                  dsimp only at hP ⊢
                  cases k363 with
                  | zero => simp [head_text_rows_L363] at hP
                  | succ k363 =>
                    simp only [head_text_rows_L363] at hP
                    refine J_block ?_
                    refine J_seq ?_
                    refine J_regionP (by kernel_rfl) ?_
                    (try simp only [go_sem, Nat.reduceEqDiff, ↓reduceIte])
                    obtain ⟨o403, hP, hQ402⟩ := bind_cases hP
                    refine callP_join (fun (s : (List UInt8) × Int) => .tup [.str s.1, .int .i64 l361]) (fun (s : (List UInt8) × Int) => envL [(0, .bptr 0 0), (3, .own 1 0 0 (List.length l362)), (49, .bptr 2 0), (50, .bptr 4 0), (107, .str r58.1), (108, .str r68.1), (118, .fn 14 [.bptr 2 0, .bptr 4 0])]) (fun (s : (List UInt8) × Int) => [.box 76 [.str s1, .int .i64 s.2], .slice 0 49 2 (List.map enc_api_Field l362), .box 25 [.str [], .str [], .own 3 0 0 (List.length ([] : List ((List UInt8) × (List UInt8))))], .slice 0 49 2 (List.map enc_api_Field ([] : List ((List UInt8) × (List UInt8)))), .box 27 [.sc .nilIface]]) (fun s => Sum.inr s = o403) (fun (s : Int × Int) => .iface 72 (.agg [.int .i64 s.1, .int .i64 s.2])) (fun (s : Int × Int) => envL [(49, .bptr 0 0), (50, .bptr 2 0), (118, .fn 14 [.bptr 0 0, .bptr 2 0])]) (fun (s : Int × Int) => [.box 25 [.str [], .str [], .own 1 0 0 (List.length ([] : List ((List UInt8) × (List UInt8))))], .slice 0 49 2 (List.map enc_api_Field ([] : List ((List UInt8) × (List UInt8)))), .box 27 [.sc .nilIface]]) (fun s => Sum.inl s = o403) (callIX_of (n := 82) (rs := [.tmp 2, .tmp 3]) Tryd.func17 rfl (by decide) rfl rfl (by simp) rfl ?_) ?_ ?_
                    · clear hQ402
                      refine J_seq ?_
                      refine J_region (by kernel_rfl) ?_
                      (try simp only [go_sem, Nat.reduceEqDiff, ↓reduceIte])
                      refine hold2 (then_n ?_)
                      refine J_seq ?_
                      refine J_region (by kernel_rfl) ?_
                      (try simp only [go_sem, Nat.reduceEqDiff, ↓reduceIte])
                      refine hold2 (then_n ?_)
                      refine J_seq ?_
                      refine J_region (by kernel_rfl) ?_
                      (try simp only [go_sem, Nat.reduceEqDiff, ↓reduceIte])
                      obtain ⟨s383, hs383, hP⟩ := bind_cases hP
                      refine slS_of hs383 ?_
                      (try simp only [go_sem, Nat.reduceEqDiff, ↓reduceIte])
                      obtain ⟨r384, hr384, hP⟩ := bind_cases hP
                      refine call_ok [.str s383, .str [13, 10]] (indexAnyY_ok hr384) ⟨argR_m false rfl, argR_m false rfl, trivial⟩ ?_
                      (try simp only [go_sem, Nat.reduceEqDiff, ↓reduceIte])
                      refine hold2 (then_n ?_)
                      refine J_seq ?_
                      refine J_seq ?_
                      refine J_region (by kernel_rfl) ?_
                      (try simp only [go_sem, Nat.reduceEqDiff, ↓reduceIte])
                      refine hold2 (then_n ?_)
                      refine J_block ?_
                      obtain ⟨o386, hP, hQ386⟩ := bind_cases hP
                      refine J_join (fun (s : Bool) => envL [(0, .bptr 0 0), (4, .int .i64 l361), (5, .int .i64 r384), (6, .int .i64 (iadd .i64 l361 r384)), (21, .bool s), (82, .bptr 0 0), (85, .own 1 0 0 (List.length l362)), (131, .bptr 2 0), (132, .bptr 4 0), (189, .str r58.1), (190, .str r68.1), (200, .fn 14 [.bptr 2 0, .bptr 4 0])]) (fun (s : Bool) => [.box 76 [.str s1, .int .i64 l361], .slice 0 49 2 (List.map enc_api_Field l362), .box 25 [.str [], .str [], .own 3 0 0 (List.length ([] : List ((List UInt8) × (List UInt8))))], .slice 0 49 2 (List.map enc_api_Field ([] : List ((List UInt8) × (List UInt8)))), .box 27 [.sc .nilIface]]) (fun s => s = o386) ?_ ?_
                      · clear hQ386
                        refine J_seq ?_
                        refine J_region (by kernel_rfl) ?_
                        (try simp only [go_sem, Nat.reduceEqDiff, ↓reduceIte])
                        refine hold2 (then_n ?_)
                        refine J_condV rfl ?_
                        (try simp only [go_sem, Nat.reduceEqDiff, ↓reduceIte])
                        rcases ite_cases hP with ⟨hc, hP⟩ | ⟨hc, hP⟩
                        · refine condV_t hc ?_
                          refine J_skip ?_
                          exact join_n (decide (r384 < 0)) (Option.some.inj hP) (so [0, 1, 2, 3, 4])
                        · refine condV_f hc ?_
                          refine J_region (by kernel_rfl) ?_
                          (try simp only [go_sem, Nat.reduceEqDiff, ↓reduceIte])
                          obtain ⟨c387, hc387, hP⟩ := bind_cases hP
                          refine ixS_of hc387 ?_
                          (try simp only [go_sem, Nat.reduceEqDiff, ↓reduceIte])
                          rcases ite_cases hP with ⟨hc, hP⟩ | ⟨hc, hP⟩
                          · refine guard_is hc ?_
                            (try simp only [go_sem, Nat.reduceEqDiff, ↓reduceIte])
                            refine hold2 ?_
                            exact join_n (decide (iadd .i64 (iadd .i64 l361 r384) 1 = (List.length s1 : Int))) (Option.some.inj hP) (so [0, 1, 2, 3, 4])
                          · refine guard_not hc ?_
                            (try simp only [go_sem, Nat.reduceEqDiff, ↓reduceIte])
                            refine hold2 ?_
                            exact join_n false (Option.some.inj hP) (so [0, 1, 2, 3, 4])
                      · intro j388 hs
                        subst hs
                        have hP := hQ386
                        clear hQ386
                        refine J_condV rfl ?_
                        (try simp only [go_sem, Nat.reduceEqDiff, ↓reduceIte])
                        rcases ite_cases hP with ⟨hc, hP⟩ | ⟨hc, hP⟩
                        · refine condV_t hc ?_
                          refine J_regionP (by kernel_rfl) ?_
                          (try simp only [go_sem, Nat.reduceEqDiff, ↓reduceIte])
                          obtain ⟨r389, hr389, hP⟩ := bind_cases hP
                          rcases r389 with p390 | r391 <;> dsimp only at hP
                          · refine callP_p [.int .i64 (List.length s1 : Int), .int .i64 24] (head_fail_ok hr389) ⟨argR_m false rfl, argR_m false rfl, trivial⟩ (holdP (block_p (then_p (finIX_p ?_))))
                            exact told_of ⟨(p390.1, p390.2), Option.some.inj hP, sp [2, 3, 4]⟩
                          · cases hP
                        · refine condV_f hc ?_
                          obtain ⟨o394, hP, hQ394⟩ := bind_cases hP
                          refine J_join (fun (s : Bool) => envL [(0, .bptr 0 0), (4, .int .i64 l361), (5, .int .i64 r384), (6, .int .i64 (iadd .i64 l361 r384)), (47, .bool s), (82, .bptr 0 0), (85, .own 1 0 0 (List.length l362)), (131, .bptr 2 0), (132, .bptr 4 0), (189, .str r58.1), (190, .str r68.1), (200, .fn 14 [.bptr 2 0, .bptr 4 0])]) (fun (s : Bool) => [.box 76 [.str s1, .int .i64 l361], .slice 0 49 2 (List.map enc_api_Field l362), .box 25 [.str [], .str [], .own 3 0 0 (List.length ([] : List ((List UInt8) × (List UInt8))))], .slice 0 49 2 (List.map enc_api_Field ([] : List ((List UInt8) × (List UInt8)))), .box 27 [.sc .nilIface]]) (fun s => s = o394) ?_ ?_
                          · clear hQ394
                            refine J_seq ?_
                            refine J_region (by kernel_rfl) ?_
                            (try simp only [go_sem, Nat.reduceEqDiff, ↓reduceIte])
                            obtain ⟨c395, hc395, hP⟩ := bind_cases hP
                            refine ixS_of hc395 ?_
                            (try simp only [go_sem, Nat.reduceEqDiff, ↓reduceIte])
                            refine hold2 (then_n ?_)
                            refine J_condV rfl ?_
                            (try simp only [go_sem, Nat.reduceEqDiff, ↓reduceIte])
                            rcases ite_cases hP with ⟨hc, hP⟩ | ⟨hc, hP⟩
                            · refine condV_t hc ?_
                              refine J_skip ?_
                              exact join_n (decide (b2i c395 = b2i (bC 10))) (Option.some.inj hP) (so [0, 1, 2, 3, 4])
                            · refine condV_f hc ?_
                              refine J_region (by kernel_rfl) ?_
                              (try simp only [go_sem, Nat.reduceEqDiff, ↓reduceIte])
                              obtain ⟨c396, hc396, hP⟩ := bind_cases hP
                              refine ixS_of hc396 ?_
                              (try simp only [go_sem, Nat.reduceEqDiff, ↓reduceIte])
                              refine hold2 ?_
                              exact join_n (!decide (b2i c396 = b2i (bC 10))) (Option.some.inj hP) (so [0, 1, 2, 3, 4])
                          · intro j397 hs
                            subst hs
                            have hP := hQ394
                            clear hQ394
                            refine J_condV rfl ?_
                            (try simp only [go_sem, Nat.reduceEqDiff, ↓reduceIte])
                            rcases ite_cases hP with ⟨hc, hP⟩ | ⟨hc, hP⟩
                            · refine condV_t hc ?_
                              refine J_regionP (by kernel_rfl) ?_
                              (try simp only [go_sem, Nat.reduceEqDiff, ↓reduceIte])
                              obtain ⟨r398, hr398, hP⟩ := bind_cases hP
                              rcases r398 with p399 | r400 <;> dsimp only at hP
                              · refine callP_p [.int .i64 (iadd .i64 l361 r384), .int .i64 10] (head_fail_ok hr398) ⟨argR_m false rfl, argR_m false rfl, trivial⟩ (holdP (block_p (then_p (finIX_p ?_))))
                                exact told_of ⟨(p399.1, p399.2), Option.some.inj hP, sp [2, 3, 4]⟩
                              · cases hP
                            · refine condV_f hc ?_
                              refine J_skip (block_n (then_n ?_))
                              refine J_seq ?_
                              refine J_region (by kernel_rfl) ?_
                              (try simp only [go_sem, Nat.reduceEqDiff, ↓reduceIte])
                              refine hold2 (then_n ?_)
                              refine J_seq ?_
                              refine J_region (by kernel_rfl) ?_
                              (try simp only [go_sem, Nat.reduceEqDiff, ↓reduceIte])
                              obtain ⟨s401, hs401, hP⟩ := bind_cases hP
                              refine slS_of hs401 ?_
                              (try simp only [go_sem, Nat.reduceEqDiff, ↓reduceIte])
                              refine hold2 (then_n ?_)
                              refine J_ret (finIX_ret ?_)
                              exact told_of ⟨(s401, iadd .i64 (iadd .i64 l361 r384) 2), Option.some.inj hP, sr [0, 1, 2, 3, 4]⟩
                    · intro a405 hs
                      subst hs
                      have hP := hQ402
                      dsimp only at hP
                      clear hQ402
                      (try simp only [go_sem, Nat.reduceEqDiff, ↓reduceIte])
                      refine hold2 (then_n ?_)
                      refine J_seq ?_
                      refine J_block ?_
                      obtain ⟨o406, hP, hQ406⟩ := bind_cases hP
                      refine J_join (fun (s : Bool) => envL [(0, .bptr 0 0), (3, .own 1 0 0 (List.length l362)), (4, .str a405.1), (5, .int .i64 l361), (11, .bool s), (49, .bptr 2 0), (50, .bptr 4 0), (107, .str r58.1), (108, .str r68.1), (118, .fn 14 [.bptr 2 0, .bptr 4 0])]) (fun (s : Bool) => [.box 76 [.str s1, .int .i64 a405.2], .slice 0 49 2 (List.map enc_api_Field l362), .box 25 [.str [], .str [], .own 3 0 0 (List.length ([] : List ((List UInt8) × (List UInt8))))], .slice 0 49 2 (List.map enc_api_Field ([] : List ((List UInt8) × (List UInt8)))), .box 27 [.sc .nilIface]]) (fun s => s = o406) ?_ ?_
                      · clear hQ406
                        refine J_regionq follows_mixed (by kernel_rfl) (by kernel_rfl) ?_
                        (try simp only [go_sem, Nat.reduceEqDiff, ↓reduceIte])
                        rcases ite_cases hP with ⟨hc, hP⟩ | ⟨hc, hP⟩
                        · refine guard_is hc ?_
                          (try simp only [go_sem, Nat.reduceEqDiff, ↓reduceIte])
                          refine hold2 ?_
                          exact join_n (decide (a405.2 < (List.length s1 : Int))) (Option.some.inj hP) (so [0, 1, 2, 3, 4])
                        · refine guard_not hc ?_
                          (try simp only [go_sem, Nat.reduceEqDiff, ↓reduceIte])
                          refine hold2 ?_
                          exact join_n false (Option.some.inj hP) (so [0, 1, 2, 3, 4])
                      · intro j407 hs
                        subst hs
                        have hP := hQ406
                        clear hQ406
                        refine J_condV rfl ?_
                        (try simp only [go_sem, Nat.reduceEqDiff, ↓reduceIte])
                        rcases ite_cases hP with ⟨hc, hP⟩ | ⟨hc, hP⟩
                        · refine condV_t hc ?_
                          refine J_regionP (by kernel_rfl) ?_
                          (try simp only [go_sem, Nat.reduceEqDiff, ↓reduceIte])
                          obtain ⟨r408, hr408, hP⟩ := bind_cases hP
                          rcases r408 with p409 | r410 <;> dsimp only at hP
                          · refine callP_p [.int .i64 a405.2, .int .i64 1] (head_fail_ok hr408) ⟨argR_m false rfl, argR_m false rfl, trivial⟩ (holdP (block_p (then_p (block_p (loop_p (block_p (finIX_p ?_)))))))
                            exact told_of ⟨(p409.1, p409.2), Option.some.inj hP, sp [2, 3, 4]⟩
                          · cases hP
                        · refine condV_f hc ?_
                          refine J_seq ?_
                          refine J_region (by kernel_rfl) ?_
                          (try simp only [go_sem, Nat.reduceEqDiff, ↓reduceIte])
                          refine hold2 (then_n ?_)
                          refine J_condV rfl ?_
                          (try simp only [go_sem, Nat.reduceEqDiff, ↓reduceIte])
                          rcases ite_cases hP with ⟨hc, hP⟩ | ⟨hc, hP⟩
                          · refine condV_t hc ?_
                            refine J_seq ?_
                            refine J_region (by kernel_rfl) ?_
                            (try simp only [go_sem, Nat.reduceEqDiff, ↓reduceIte])
                            refine hold2 (then_n ?_)
                            refine J_ret (block_ret (then_ret (block_ret (loop_ret (block_ret (finIX_ret ?_))))))
                            exact told_of ⟨l362, Option.some.inj hP, sr [2, 3, 4, 1]⟩
                          · refine condV_f hc ?_
                            refine J_seq ?_
                            refine J_region (by kernel_rfl) ?_
                            (try simp only [go_sem, Nat.reduceEqDiff, ↓reduceIte])
                            refine hold2 (then_n ?_)
                            refine J_condV rfl ?_
                            (try simp only [go_sem, Nat.reduceEqDiff, ↓reduceIte])
                            rcases ite_cases hP with ⟨hc, hP⟩ | ⟨hc, hP⟩
                            · refine condV_t hc ?_
                              refine J_regionP (by kernel_rfl) ?_
                              (try simp only [go_sem, Nat.reduceEqDiff, ↓reduceIte])
                              obtain ⟨r411, hr411, hP⟩ := bind_cases hP
                              rcases r411 with p412 | r413 <;> dsimp only at hP
                              · refine callP_p [.int .i64 l361, .int .i64 18] (head_fail_ok hr411) ⟨argR_m false rfl, argR_m false rfl, trivial⟩ (holdP (block_p (then_p (block_p (loop_p (block_p (finIX_p ?_)))))))
                                exact told_of ⟨(p412.1, p412.2), Option.some.inj hP, sp [2, 3, 4]⟩
                              · cases hP
                            · refine condV_f hc ?_
                              refine J_skip (block_n (then_n ?_))
                              refine J_regionP (by kernel_rfl) ?_
                              (try simp only [go_sem, Nat.reduceEqDiff, ↓reduceIte, Nat.reduceAdd, Nat.reduceSub, Nat.reduceLT, Nat.reduceMul, reduceCtorEq, Int.reduceToNat, Int.reduceLE, Int.reduceLT, Nat.reduceLeDiff])
                              obtain ⟨r414, hr414, hP⟩ := bind_cases hP
                              rcases r414 with p415 | r416 <;> dsimp only at hP
                              · refine callP_p [.str a405.1, .int .i64 l361] (head_field_ok hr414) ⟨argR_m false rfl, argR_m false rfl, trivial⟩ (holdP (block_p (loop_p (block_p (finIX_p ?_)))))
                                exact told_of ⟨(p415.1, p415.2), Option.some.inj hP, sp [2, 3, 4]⟩
                              · refine callP_n (call_ok [.str a405.1, .int .i64 l361] (CallX.ok (head_field_ok hr414)) ⟨argR_m false rfl, argR_m false rfl, trivial⟩ ?_)
                                (try simp only [go_sem, Nat.reduceEqDiff, ↓reduceIte, Nat.reduceAdd, Nat.reduceSub, Nat.reduceLT, Nat.reduceMul, reduceCtorEq, Int.reduceToNat, Int.reduceLE, Int.reduceLT, Nat.reduceLeDiff])
                                obtain ⟨_, hz417, hP⟩ := bind_cases hP
                                refine app_ownW (f := enc_api_Field) (l362 : List ((List UInt8) × (List UInt8))) ([(r416.1, r416.2)] : List ((List UInt8) × (List UInt8))) rfl tyS_23 (by decide) (by simp only [go_sem, Nat.reduceEqDiff, ↓reduceIte, Nat.reduceAdd, Nat.reduceSub, Nat.reduceLT, Nat.reduceMul, reduceCtorEq, Int.reduceToNat, Int.reduceLE, Int.reduceLT, Nat.reduceLeDiff]; first | done | rfl | exact ⟨rfl, rfl⟩) hz417 ?_
                                (try simp only [go_sem, Nat.reduceEqDiff, ↓reduceIte])
                                refine hold2 (block_n ?_)
                                exact loop_n (k363, a405.2, l362 ++ [(r416.1, r416.2)]) hP (Nat.lt_succ_self _) (so [0, 1, 2, 3, 4])
                    · intro a404 hs
                      subst hs
                      have hP := hQ402
                      dsimp only at hP
                      clear hQ402
                      refine holdP (then_p (block_p (loop_p (block_p (finIX_p ?_)))))
                      exact told_of ⟨(a404.1, a404.2), Option.some.inj hP, sp [0, 1, 2]⟩
                · intro a424 hs
                  subst hs
                  have hP := hQ419
                  dsimp only at hP
                  clear hQ419
                  (try simp only [go_sem, Nat.reduceEqDiff, ↓reduceIte, Nat.reduceAdd, Nat.reduceSub, Nat.reduceLT, Nat.reduceMul, reduceCtorEq, Int.reduceToNat, Int.reduceLE, Int.reduceLT, Nat.reduceLeDiff])
                  refine hold2 (then_n ?_)
                  refine J_seq ?_
                  refine J_seq ?_
                  refine J_region (by kernel_rfl) ?_
                  (try simp only [go_sem, Nat.reduceEqDiff, ↓reduceIte])
                  obtain ⟨r425, hr425, hP⟩ := bind_cases hP
                  refine call_ok [.view 2 (List.map enc_api_Field a424)] (head_host_ok hr425) ⟨argR_m false (by simp only [arg, go_sem, Nat.reduceEqDiff, ↓reduceIte]), trivial⟩ ?_
                  (try simp only [go_sem, Nat.reduceEqDiff, ↓reduceIte])
                  refine hold2 (then_n ?_)
                  refine J_condV rfl ?_
                  (try simp only [go_sem, Nat.reduceEqDiff, ↓reduceIte])
                  rcases ite_cases hP with ⟨hc, hP⟩ | ⟨hc, hP⟩
                  · refine condV_t hc ?_
                    refine J_regionP (by kernel_rfl) ?_
                    (try simp only [go_sem, Nat.reduceEqDiff, ↓reduceIte])
                    obtain ⟨r426, hr426, hP⟩ := bind_cases hP
                    rcases r426 with p427 | r428 <;> dsimp only at hP
                    · refine callP_p [.int .i64 0, .int .i64 16] (head_fail_ok hr426) ⟨argR_m false rfl, argR_m false rfl, trivial⟩ (holdP (then_p (finD_p _ (by simp [AV.pl, AV.plL]) rfl (by simp) ?_)))
                      unfold Caught
                      refine J_seq ?_
                      refine J_region (by kernel_rfl) ?_
                      (try simp only [go_sem, Nat.reduceEqDiff, ↓reduceIte])
                      refine hold2 (then_n ?_)
                      refine J_condV rfl ?_
                      (try simp only [go_sem, Nat.reduceEqDiff, ↓reduceIte])
                      refine J_regionP (by kernel_rfl) ?_
                      (try simp only [go_sem, Nat.reduceEqDiff, ↓reduceIte])
                      obtain ⟨o430, hP, hQ429⟩ := bind_cases hP
                      refine callP_n (call_join (fun (s : Unit) => .iface 74 .dead) (fun (s : Unit) => envL [(0, .bptr 0 0), (1, .bptr 2 0), (6, .agg [.str [], .str [], .sc (.slice none 0 0)]), (11, .bptr 0 0), (12, .bptr 2 0), (80, .fn 14 [.bptr 0 0, .bptr 2 0])]) (fun (s : Unit) => [.box 25 [.str r58.1, .str r68.1, .own 1 0 0 (List.length a424)], .slice 0 49 2 (List.map enc_api_Field a424), .box 27 [.sc .nilIface]]) (fun s => s = o430) (callI_of (n := 15) (rs := [.tmp 2]) Tryd.func15 rfl (by decide) rfl rfl (by simp) rfl ?_) ?_)
                      · clear hQ429
                        refine J_seq ?_
                        refine J_region (by kernel_rfl) ?_
                        (try simp only [go_sem, Nat.reduceEqDiff, ↓reduceIte])
                        refine hold2 (then_n ?_)
                        refine J_seq ?_
                        refine J_region (by kernel_rfl) ?_
                        (try simp only [go_sem, Nat.reduceEqDiff, ↓reduceIte, Nat.reduceAdd, Nat.reduceSub, Nat.reduceLT, Nat.reduceMul, reduceCtorEq, Int.reduceToNat, Int.reduceLE, Int.reduceLT, Nat.reduceLeDiff])
                        refine hold2 (then_n ?_)
                        refine J_seq ?_
                        refine J_seq ?_
                        refine J_region (by kernel_rfl) ?_
                        (try simp only [go_sem, Nat.reduceEqDiff, ↓reduceIte])
                        refine hold2 (then_n ?_)
                        refine J_condV rfl ?_
                        (try simp only [go_sem, Nat.reduceEqDiff, ↓reduceIte])
                        refine J_skip (then_n ?_)
                        refine J_seq ?_
                        refine J_region (by kernel_rfl) ?_
                        (try simp only [go_sem, Nat.reduceEqDiff, ↓reduceIte])
                        refine hold2 (then_n ?_)
                        refine J_ret (finI_ret ?_)
                        exact told_of ⟨(), Option.some.inj hP, sr [0, 3, 2]⟩
                      · intro a429 hs
                        subst hs
                        have hP := hQ429
                        clear hQ429
                        (try simp only [go_sem, Nat.reduceEqDiff, ↓reduceIte])
                        refine hold2 ?_
                        refine finC_prom 49 2 (by decide) 0 2 _ _ rfl rfl ?_
                        (try simp only [go_sem, Nat.reduceEqDiff, ↓reduceIte])
                        refine finC_n ?_
                        obtain rfl := Option.some.inj hP
                        (try simp only [go_sem, Nat.reduceEqDiff, ↓reduceIte])
                        exact fo [3]
                    · cases hP
                  · refine condV_f hc ?_
                    refine J_skip (then_n ?_)
                    refine J_seq ?_
                    refine J_region (by kernel_rfl) ?_
                    (try simp only [go_sem, Nat.reduceEqDiff, ↓reduceIte])
                    refine hold2 (then_n ?_)
                    refine J_ret (finD_ret _ rfl (by simp) ?_)
                    unfold Caught
                    refine J_seq ?_
                    refine J_region (by kernel_rfl) ?_
                    (try simp only [go_sem, Nat.reduceEqDiff, ↓reduceIte])
                    refine hold2 (then_n ?_)
                    refine J_condV rfl ?_
                    (try simp only [go_sem, Nat.reduceEqDiff, ↓reduceIte])
                    refine J_skip (finC_n ?_)
                    obtain rfl := Option.some.inj hP
                    (try simp only [go_sem, Nat.reduceEqDiff, ↓reduceIte])
                    exact fo [3]
                · intro a421 hs
                  subst hs
                  have hP := hQ419
                  dsimp only at hP
                  clear hQ419
                  refine holdP (then_p (finD_p _ (by simp [AV.pl, AV.plL]) rfl (by simp) ?_))
                  unfold Caught
                  refine J_seq ?_
                  refine J_region (by kernel_rfl) ?_
                  (try simp only [go_sem, Nat.reduceEqDiff, ↓reduceIte])
                  refine hold2 (then_n ?_)
                  refine J_condV rfl ?_
                  (try simp only [go_sem, Nat.reduceEqDiff, ↓reduceIte])
                  refine J_regionP (by kernel_rfl) ?_
                  (try simp only [go_sem, Nat.reduceEqDiff, ↓reduceIte])
                  obtain ⟨o423, hP, hQ422⟩ := bind_cases hP
                  refine callP_n (call_join (fun (s : Unit) => .iface 74 .dead) (fun (s : Unit) => envL [(0, .bptr 0 0), (1, .bptr 2 0), (6, .agg [.str [], .str [], .sc (.slice none 0 0)]), (11, .bptr 0 0), (12, .bptr 2 0), (80, .fn 14 [.bptr 0 0, .bptr 2 0])]) (fun (s : Unit) => [.box 25 [.str [], .str [], .own 1 0 0 (List.length ([] : List ((List UInt8) × (List UInt8))))], .slice 0 49 2 (List.map enc_api_Field ([] : List ((List UInt8) × (List UInt8)))), .box 27 [.sc .nilIface]]) (fun s => s = o423) (callI_of (n := 15) (rs := [.tmp 2]) Tryd.func15 rfl (by decide) rfl rfl (by simp) rfl ?_) ?_)
                  · clear hQ422
                    refine J_seq ?_
                    refine J_region (by kernel_rfl) ?_
                    (try simp only [go_sem, Nat.reduceEqDiff, ↓reduceIte])
                    refine hold2 (then_n ?_)
                    refine J_seq ?_
                    refine J_region (by kernel_rfl) ?_
                    (try simp only [go_sem, Nat.reduceEqDiff, ↓reduceIte, Nat.reduceAdd, Nat.reduceSub, Nat.reduceLT, Nat.reduceMul, reduceCtorEq, Int.reduceToNat, Int.reduceLE, Int.reduceLT, Nat.reduceLeDiff])
                    refine hold2 (then_n ?_)
                    refine J_seq ?_
                    refine J_seq ?_
                    refine J_region (by kernel_rfl) ?_
                    (try simp only [go_sem, Nat.reduceEqDiff, ↓reduceIte])
                    refine hold2 (then_n ?_)
                    refine J_condV rfl ?_
                    (try simp only [go_sem, Nat.reduceEqDiff, ↓reduceIte])
                    refine J_skip (then_n ?_)
                    refine J_seq ?_
                    refine J_region (by kernel_rfl) ?_
                    (try simp only [go_sem, Nat.reduceEqDiff, ↓reduceIte])
                    refine hold2 (then_n ?_)
                    refine J_ret (finI_ret ?_)
                    exact told_of ⟨(), Option.some.inj hP, sr [0, 1, 2]⟩
                  · intro a422 hs
                    subst hs
                    have hP := hQ422
                    clear hQ422
                    (try simp only [go_sem, Nat.reduceEqDiff, ↓reduceIte])
                    refine hold2 ?_
                    refine finC_prom 49 2 (by decide) 0 2 _ _ rfl rfl ?_
                    (try simp only [go_sem, Nat.reduceEqDiff, ↓reduceIte])
                    refine finC_n ?_
                    obtain rfl := Option.some.inj hP
                    (try simp only [go_sem, Nat.reduceEqDiff, ↓reduceIte])
                    exact fo [3]
    · intro a54 hs
      subst hs
      have hP := hQ52
      dsimp only at hP
      clear hQ52
      refine holdP (then_p (finD_p _ (by simp [AV.pl, AV.plL]) rfl (by simp) ?_))
      unfold Caught
      refine J_seq ?_
      refine J_region (by kernel_rfl) ?_
      (try simp only [go_sem, Nat.reduceEqDiff, ↓reduceIte])
      refine hold2 (then_n ?_)
      refine J_condV rfl ?_
      (try simp only [go_sem, Nat.reduceEqDiff, ↓reduceIte])
      refine J_regionP (by kernel_rfl) ?_
      (try simp only [go_sem, Nat.reduceEqDiff, ↓reduceIte])
      obtain ⟨o56, hP, hQ55⟩ := bind_cases hP
      refine callP_n (call_join (fun (s : Unit) => .iface 74 .dead) (fun (s : Unit) => envL [(0, .bptr 0 0), (1, .bptr 2 0), (6, .agg [.str [], .str [], .sc (.slice none 0 0)]), (11, .bptr 0 0), (12, .bptr 2 0), (80, .fn 14 [.bptr 0 0, .bptr 2 0])]) (fun (s : Unit) => [.box 25 [.str [], .str [], .own 1 0 0 (List.length ([] : List ((List UInt8) × (List UInt8))))], .slice 0 49 2 (List.map enc_api_Field ([] : List ((List UInt8) × (List UInt8)))), .box 27 [.sc .nilIface]]) (fun s => s = o56) (callI_of (n := 15) (rs := [.tmp 2]) Tryd.func15 rfl (by decide) rfl rfl (by simp) rfl ?_) ?_)
      · clear hQ55
        refine J_seq ?_
        refine J_region (by kernel_rfl) ?_
        (try simp only [go_sem, Nat.reduceEqDiff, ↓reduceIte])
        refine hold2 (then_n ?_)
        refine J_seq ?_
        refine J_region (by kernel_rfl) ?_
        (try simp only [go_sem, Nat.reduceEqDiff, ↓reduceIte, Nat.reduceAdd, Nat.reduceSub, Nat.reduceLT, Nat.reduceMul, reduceCtorEq, Int.reduceToNat, Int.reduceLE, Int.reduceLT, Nat.reduceLeDiff])
        refine hold2 (then_n ?_)
        refine J_seq ?_
        refine J_seq ?_
        refine J_region (by kernel_rfl) ?_
        (try simp only [go_sem, Nat.reduceEqDiff, ↓reduceIte])
        refine hold2 (then_n ?_)
        refine J_condV rfl ?_
        (try simp only [go_sem, Nat.reduceEqDiff, ↓reduceIte])
        refine J_skip (then_n ?_)
        refine J_seq ?_
        refine J_region (by kernel_rfl) ?_
        (try simp only [go_sem, Nat.reduceEqDiff, ↓reduceIte])
        refine hold2 (then_n ?_)
        refine J_ret (finI_ret ?_)
        exact told_of ⟨(), Option.some.inj hP, sr [0, 1, 2]⟩
      · intro a55 hs
        subst hs
        have hP := hQ55
        clear hQ55
        (try simp only [go_sem, Nat.reduceEqDiff, ↓reduceIte])
        refine hold2 ?_
        refine finC_prom 49 2 (by decide) 0 2 _ _ rfl rfl ?_
        (try simp only [go_sem, Nat.reduceEqDiff, ↓reduceIte])
        refine finC_n ?_
        obtain rfl := Option.some.inj hP
        (try simp only [go_sem, Nat.reduceEqDiff, ↓reduceIte])
        exact fo [3]
  · intro a10 hs
    subst hs
    have hP := hQ8
    dsimp only at hP
    clear hQ8
    refine holdP (then_p (finD_p _ (by simp [AV.pl, AV.plL]) rfl (by simp) ?_))
    unfold Caught
    refine J_seq ?_
    refine J_region (by kernel_rfl) ?_
    (try simp only [go_sem, Nat.reduceEqDiff, ↓reduceIte])
    refine hold2 (then_n ?_)
    refine J_condV rfl ?_
    (try simp only [go_sem, Nat.reduceEqDiff, ↓reduceIte])
    refine J_regionP (by kernel_rfl) ?_
    (try simp only [go_sem, Nat.reduceEqDiff, ↓reduceIte])
    obtain ⟨o12, hP, hQ11⟩ := bind_cases hP
    refine callP_n (call_join (fun (s : Unit) => .iface 74 .dead) (fun (s : Unit) => envL [(0, .bptr 0 0), (1, .bptr 2 0), (6, .agg [.str [], .str [], .sc (.slice none 0 0)]), (11, .bptr 0 0), (12, .bptr 2 0), (80, .fn 14 [.bptr 0 0, .bptr 2 0])]) (fun (s : Unit) => [.box 25 [.str [], .str [], .own 1 0 0 (List.length ([] : List ((List UInt8) × (List UInt8))))], .slice 0 49 2 (List.map enc_api_Field ([] : List ((List UInt8) × (List UInt8)))), .box 27 [.sc .nilIface]]) (fun s => s = o12) (callI_of (n := 15) (rs := [.tmp 2]) Tryd.func15 rfl (by decide) rfl rfl (by simp) rfl ?_) ?_)
    · clear hQ11
      refine J_seq ?_
      refine J_region (by kernel_rfl) ?_
      (try simp only [go_sem, Nat.reduceEqDiff, ↓reduceIte])
      refine hold2 (then_n ?_)
      refine J_seq ?_
      refine J_region (by kernel_rfl) ?_
      (try simp only [go_sem, Nat.reduceEqDiff, ↓reduceIte, Nat.reduceAdd, Nat.reduceSub, Nat.reduceLT, Nat.reduceMul, reduceCtorEq, Int.reduceToNat, Int.reduceLE, Int.reduceLT, Nat.reduceLeDiff])
      refine hold2 (then_n ?_)
      refine J_seq ?_
      refine J_seq ?_
      refine J_region (by kernel_rfl) ?_
      (try simp only [go_sem, Nat.reduceEqDiff, ↓reduceIte])
      refine hold2 (then_n ?_)
      refine J_condV rfl ?_
      (try simp only [go_sem, Nat.reduceEqDiff, ↓reduceIte])
      refine J_skip (then_n ?_)
      refine J_seq ?_
      refine J_region (by kernel_rfl) ?_
      (try simp only [go_sem, Nat.reduceEqDiff, ↓reduceIte])
      refine hold2 (then_n ?_)
      refine J_ret (finI_ret ?_)
      exact told_of ⟨(), Option.some.inj hP, sr [0, 1, 2]⟩
    · intro a11 hs
      subst hs
      have hP := hQ11
      clear hQ11
      (try simp only [go_sem, Nat.reduceEqDiff, ↓reduceIte])
      refine hold2 ?_
      refine finC_prom 49 2 (by decide) 0 2 _ _ rfl rfl ?_
      (try simp only [go_sem, Nat.reduceEqDiff, ↓reduceIte])
      refine finC_n ?_
      obtain rfl := Option.some.inj hP
      (try simp only [go_sem, Nat.reduceEqDiff, ↓reduceIte])
      exact fo [3]
end Go.Proofs.YtbcmngnmfneeaaaDoor
