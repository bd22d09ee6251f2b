/- Functions of the program, and pure ones that go the same ways: that the program's return what these compute. -/
import Derived.Test.YtfhlehkgiamejaaGreatDoorGC
import Derived.Test.YtfhlehkgiamejaaGreatDoorAvPj
namespace Go.Proofs.YtfhlehkgiamejaaGreatDoor
open Go.Av
set_option linter.unusedVariables false
set_option linter.unusedSimpArgs false
/-- colander/head.Response -/
def head_text_rows_L368 (s1 : List UInt8) : Nat → Int → (List ((List UInt8) × (List UInt8))) → Option (Sum (Int × Int) ((List ((List UInt8) × (List UInt8)))))
  | 0, _, _ => none
  | k368 + 1, l366, l367 =>
    (show Option (Sum (Int × Int) ((List UInt8) × Int)) from
      (slL s1 l366 (List.length s1 : Int)).bind fun s388 =>
      (indexAnyY s388 [13, 10]).bind fun r389 =>
      (show Option (Bool) from
        if decide (r389 < 0) then
          some (decide (r389 < 0))
        else
          (ixL s1 (iadd .i64 l366 r389)).bind fun c392 =>
          if decide (b2i c392 = b2i (bC 13)) then
            some (decide (iadd .i64 (iadd .i64 l366 r389) 1 = (List.length s1 : Int)))
          else
            some false).bind fun j393 =>
        if j393 then
          (head_fail (List.length s1 : Int) 24).bind fun r394 => match r394 with
          | Sum.inl p395 =>
            some (Sum.inl (p395.1, p395.2))
          | Sum.inr r396 =>
            none
        else
          (show Option (Bool) from
            (ixL s1 (iadd .i64 l366 r389)).bind fun c400 =>
            if decide (b2i c400 = b2i (bC 10)) then
              some (decide (b2i c400 = b2i (bC 10)))
            else
              (ixL s1 (iadd .i64 (iadd .i64 l366 r389) 1)).bind fun c401 =>
              some (!decide (b2i c401 = b2i (bC 10)))).bind fun j402 =>
            if j402 then
              (head_fail (iadd .i64 l366 r389) 10).bind fun r403 => match r403 with
              | Sum.inl p404 =>
                some (Sum.inl (p404.1, p404.2))
              | Sum.inr r405 =>
                none
            else
              (slL s1 l366 (iadd .i64 l366 r389)).bind fun s406 =>
              some (Sum.inr (s406, iadd .i64 (iadd .i64 l366 r389) 2))).bind fun o408 => match o408 with
    | Sum.inl a409 =>
      some (Sum.inl (a409.1, a409.2))
    | Sum.inr a410 =>
      (show Option (Bool) from
        if decide (a410.1 = []) then
          some (decide (a410.2 < (List.length s1 : Int)))
        else
          some false).bind fun j412 =>
        if j412 then
          (head_fail a410.2 1).bind fun r413 => match r413 with
          | Sum.inl p414 =>
            some (Sum.inl (p414.1, p414.2))
          | Sum.inr r415 =>
            none
        else
          if decide (a410.1 = []) then
            some (Sum.inr l367)
          else
            if decide (((List.length l367 : Nat) : Int) = 32) then
              (head_fail l366 18).bind fun r416 => match r416 with
              | Sum.inl p417 =>
                some (Sum.inl (p417.1, p417.2))
              | Sum.inr r418 =>
                none
            else
              (head_field a410.1 l366).bind fun r419 => match r419 with
              | Sum.inl p420 =>
                some (Sum.inl (p420.1, p420.2))
              | Sum.inr r421 =>
                (szC (64 * List.length (l367 ++ [(r421.1, r421.2)] : List ((List UInt8) × (List UInt8))))).bind fun _ =>
                head_text_rows_L368 s1 k368 a410.2 (l367 ++ [(r421.1, r421.2)])
def head_Response (s1 : List UInt8) : Option ((Int × (List UInt8) × (List ((List UInt8) × (List UInt8)))) × Bool) :=
  (show Option (Sum (Int × Int) (Unit)) from
    if decide (2048 < (List.length s1 : Int)) then
      (head_fail 2048 17).bind fun r5 => match r5 with
      | Sum.inl p6 =>
        some (Sum.inl (p6.1, p6.2))
      | Sum.inr r7 =>
        none
    else
      some (Sum.inr ())).bind fun o9 => match o9 with
  | Sum.inl a10 =>
    (show Option (Unit) from
      some ()).bind fun a11 =>
      some ((0, [], ([] : List ((List UInt8) × (List UInt8)))), false)
  | Sum.inr a13 =>
    (show Option (Sum (Int × Int) ((List UInt8) × Int)) from
      (slL s1 0 (List.length s1 : Int)).bind fun s33 =>
      (indexAnyY s33 [13, 10]).bind fun r34 =>
      (show Option (Bool) from
        if decide (r34 < 0) then
          some (decide (r34 < 0))
        else
          (ixL s1 (iadd .i64 0 r34)).bind fun c37 =>
          if decide (b2i c37 = b2i (bC 13)) then
            some (decide (iadd .i64 (iadd .i64 0 r34) 1 = (List.length s1 : Int)))
          else
            some false).bind fun j38 =>
        if j38 then
          (head_fail (List.length s1 : Int) 24).bind fun r39 => match r39 with
          | Sum.inl p40 =>
            some (Sum.inl (p40.1, p40.2))
          | Sum.inr r41 =>
            none
        else
          (show Option (Bool) from
            (ixL s1 (iadd .i64 0 r34)).bind fun c45 =>
            if decide (b2i c45 = b2i (bC 10)) then
              some (decide (b2i c45 = b2i (bC 10)))
            else
              (ixL s1 (iadd .i64 (iadd .i64 0 r34) 1)).bind fun c46 =>
              some (!decide (b2i c46 = b2i (bC 10)))).bind fun j47 =>
            if j47 then
              (head_fail (iadd .i64 0 r34) 10).bind fun r48 => match r48 with
              | Sum.inl p49 =>
                some (Sum.inl (p49.1, p49.2))
              | Sum.inr r50 =>
                none
            else
              (slL s1 0 (iadd .i64 0 r34)).bind fun s51 =>
              some (Sum.inr (s51, iadd .i64 (iadd .i64 0 r34) 2))).bind fun o53 => match o53 with
    | Sum.inl a54 =>
      (show Option (Unit) from
        some ()).bind fun a55 =>
        some ((0, [], ([] : List ((List UInt8) × (List UInt8)))), false)
    | Sum.inr a57 =>
      (strings_CutPrefix a57.1 [72, 84, 84, 80, 47, 49, 46, 49, 32]).bind fun r58 =>
      if !r58.2 then
        (head_fail 0 14).bind fun r59 => match r59 with
        | Sum.inl p60 =>
          (show Option (Unit) from
            some ()).bind fun a62 =>
            some ((0, [], ([] : List ((List UInt8) × (List UInt8)))), false)
        | Sum.inr r61 =>
          none
      else
        (show Option (Bool) from
          if decide ((List.length r58.1 : Int) < 4) then
            some true
          else
            (ixL r58.1 3).bind fun c66 =>
            some (!decide (b2i c66 = b2i (bC 32)))).bind fun j67 =>
          if j67 then
            (head_fail 9 15).bind fun r68 => match r68 with
            | Sum.inl p69 =>
              (show Option (Unit) from
                some ()).bind fun a71 =>
                some ((0, [], ([] : List ((List UInt8) × (List UInt8)))), false)
            | Sum.inr r70 =>
              none
          else
            (slL r58.1 0 3).bind fun s73 =>
            (num_Decimal s73).bind fun r74 =>
            (show Option (Bool) from
              if !decide (r74.2 = 0) then
                some true
              else
                if decide (r74.1 < 200) then
                  some true
                else
                  some (decide (599 < r74.1))).bind fun j76 =>
              if j76 then
                (head_fail 9 15).bind fun r77 => match r77 with
                | Sum.inl p78 =>
                  (show Option (Unit) from
                    some ()).bind fun a80 =>
                    some ((0, [], ([] : List ((List UInt8) × (List UInt8)))), false)
                | Sum.inr r79 =>
                  none
              else
                (head_clean a57.1 0 13).bind fun r82 => match r82 with
                | Sum.inl p83 =>
                  (show Option (Unit) from
                    some ()).bind fun a85 =>
                    some ((0, [], ([] : List ((List UInt8) × (List UInt8)))), false)
                | Sum.inr r84 =>
                  (slL r58.1 4 (List.length r58.1 : Int)).bind fun s87 =>
                  (show Option (Sum (Int × Int) ((List ((List UInt8) × (List UInt8))))) from
                    head_text_rows_L368 s1 141836999983104 a57.2 ([] : List ((List UInt8) × (List UInt8)))).bind fun o425 => match o425 with
                  | Sum.inl a426 =>
                    (show Option (Unit) from
                      some ()).bind fun a427 =>
                      some ((0, [], ([] : List ((List UInt8) × (List UInt8)))), false)
                  | Sum.inr a429 =>
                    some ((r74.1, s87, a429), true)
set_option maxRecDepth 100000 in
set_option maxHeartbeats 40000000 in
theorem head_Response_ok {s1 : List UInt8} {r : (Int × (List UInt8) × (List ((List UInt8) × (List UInt8)))) × Bool} (hP : head_Response s1 = some r) : CallOK Tryz.prog 60 [.str s1] (.tup [.agg [.int .i64 r.1.1, .str r.1.2.1, .own 0 0 0 (List.length r.1.2.2)], errA 121 r.2]) [.slice 0 126 2 (List.map enc_api_Field r.1.2.2)] := by
  unfold head_Response at hP
  refine callOK_defers (n := 61) (m := 9) (rs := [.cell 2 93, .cell 3 95]) (capsT := [2, 3]) Tryz.func60 rfl (by decide) rfl rfl (by simp) rfl (by first | rfl | simp [AV.vf, AV.vfL]) (by first | (intro o ho; simp at ho; done) | (simp [vfO, AV.vf, AV.vfL, encB, encI, encS, encO, enc_api_Body, enc_api_Fault, enc_head_text, enc_api_Field]; done) | (simp [vfO, AV.vf, AV.vfL, encB, encI, encS, encO, enc_api_Body, enc_api_Fault, enc_head_text, enc_api_Field]; intros; subst_vars; simp [AV.vf, AV.vfL])) Tryz.func65 rfl (by decide) rfl rfl (by decide) (by decide) (by decide) (by decide) ?_
  refine J_region (by kernel_rfl) ?_
  (try simp only [go_sem, Nat.reduceEqDiff, ↓reduceIte])
  refine hold2 (under_n ?_)
  refine J_prom 126 2 (by decide) 0 2 _ _ rfl rfl ?_
  (try simp only [go_sem, Nat.reduceEqDiff, ↓reduceIte])
  (try simp only [List.map_cons, List.map_nil, go_sem, Nat.reduceEqDiff, ↓reduceIte])
  refine J_seq ?_
  refine J_regionP (by kernel_rfl) ?_
  (try simp only [go_sem, Nat.reduceEqDiff, ↓reduceIte])
  obtain ⟨o9, hP, hQ8⟩ := bind_cases hP
  refine callP_join (fun (s : Unit) => .bptr 3 0) (fun (s : Unit) => envL [(2, .bptr 0 0), (3, .bptr 2 0), (61, .fn 65 [.bptr 0 0, .bptr 2 0])]) (fun (s : Unit) => [.box 93 [.int .i64 0, .str [], .own 1 0 0 (List.length ([] : List ((List UInt8) × (List UInt8))))], .slice 0 126 2 (List.map enc_api_Field ([] : List ((List UInt8) × (List UInt8)))), .box 95 [.sc .nilIface], .box 123 [.str s1, .int .i64 0]]) (fun s => Sum.inr s = o9) (fun (s : Int × Int) => .iface 119 (.agg [.int .i64 s.1, .int .i64 s.2])) (fun (s : Int × Int) => envL [(2, .bptr 0 0), (3, .bptr 2 0), (61, .fn 65 [.bptr 0 0, .bptr 2 0])]) (fun (s : Int × Int) => [.box 93 [.int .i64 0, .str [], .own 1 0 0 (List.length ([] : List ((List UInt8) × (List UInt8))))], .slice 0 126 2 (List.map enc_api_Field ([] : List ((List UInt8) × (List UInt8)))), .box 95 [.sc .nilIface]]) (fun s => Sum.inl s = o9) (callIX_of (n := 10) (rs := [.tmp 2]) Tryz.func67 rfl (by decide) rfl rfl (by simp) rfl ?_) ?_ ?_
  · clear hQ8
    refine J_seq ?_
    refine J_region (by kernel_rfl) ?_
    (try simp only [go_sem, Nat.reduceEqDiff, ↓reduceIte])
    refine hold2 (then_n ?_)
    refine J_seq ?_
    refine J_seq ?_
    refine J_region (by kernel_rfl) ?_
    (try simp only [go_sem, Nat.reduceEqDiff, ↓reduceIte])
    refine hold2 (then_n ?_)
    refine J_condV rfl ?_
    (try simp only [go_sem, Nat.reduceEqDiff, ↓reduceIte])
    rcases ite_cases hP with ⟨hc, hP⟩ | ⟨hc, hP⟩
    · refine condV_t hc ?_
      refine J_regionP (by kernel_rfl) ?_
      (try simp only [go_sem, Nat.reduceEqDiff, ↓reduceIte])
      obtain ⟨r5, hr5, hP⟩ := bind_cases hP
      rcases r5 with p6 | r7 <;> dsimp only at hP
      · refine callP_p [.int .i64 2048, .int .i64 17] (head_fail_ok hr5) ⟨argR_m false rfl, argR_m false rfl, trivial⟩ (holdP (then_p (finIX_p ?_)))
        exact told_of ⟨(p6.1, p6.2), Option.some.inj hP, sp [0, 2, 1]⟩
      · cases hP
    · refine condV_f hc ?_
      refine J_skip (then_n ?_)
      refine J_seq ?_
      refine J_region (by kernel_rfl) ?_
      (try simp only [go_sem, Nat.reduceEqDiff, ↓reduceIte, Nat.reduceAdd, Nat.reduceSub, Nat.reduceLT, Nat.reduceMul, reduceCtorEq, Int.reduceToNat, Int.reduceLE, Int.reduceLT, Nat.reduceLeDiff])
      refine hold2 (then_n ?_)
      refine J_ret (finIX_ret ?_)
      exact told_of ⟨(), Option.some.inj hP, sr [0, 2, 1, 3]⟩
  · intro a13 hs
    subst hs
    have hP := hQ8
    dsimp only at hP
    clear hQ8
    (try simp only [go_sem, Nat.reduceEqDiff, ↓reduceIte])
    refine hold2 (then_n ?_)
    refine J_seq ?_
    refine J_regionP (by kernel_rfl) ?_
    (try simp only [go_sem, Nat.reduceEqDiff, ↓reduceIte])
    obtain ⟨o53, hP, hQ52⟩ := bind_cases hP
    refine callP_join (fun (s : (List UInt8) × Int) => .tup [.str s.1, .int .i64 0]) (fun (s : (List UInt8) × Int) => envL [(2, .bptr 0 0), (3, .bptr 2 0), (4, .bptr 3 0), (61, .fn 65 [.bptr 0 0, .bptr 2 0])]) (fun (s : (List UInt8) × Int) => [.box 93 [.int .i64 0, .str [], .own 1 0 0 (List.length ([] : List ((List UInt8) × (List UInt8))))], .slice 0 126 2 (List.map enc_api_Field ([] : List ((List UInt8) × (List UInt8)))), .box 95 [.sc .nilIface], .box 123 [.str s1, .int .i64 s.2]]) (fun s => Sum.inr s = o53) (fun (s : Int × Int) => .iface 119 (.agg [.int .i64 s.1, .int .i64 s.2])) (fun (s : Int × Int) => envL [(2, .bptr 0 0), (3, .bptr 2 0), (61, .fn 65 [.bptr 0 0, .bptr 2 0])]) (fun (s : Int × Int) => [.box 93 [.int .i64 0, .str [], .own 1 0 0 (List.length ([] : List ((List UInt8) × (List UInt8))))], .slice 0 126 2 (List.map enc_api_Field ([] : List ((List UInt8) × (List UInt8)))), .box 95 [.sc .nilIface]]) (fun s => Sum.inl s = o53) (callIX_of (n := 82) (rs := [.tmp 2, .tmp 3]) Tryz.func68 rfl (by decide) rfl rfl (by simp) rfl ?_) ?_ ?_
    · clear hQ52
      refine J_seq ?_
      refine J_region (by kernel_rfl) ?_
      (try simp only [go_sem, Nat.reduceEqDiff, ↓reduceIte])
      refine hold2 (then_n ?_)
      refine J_seq ?_
      refine J_region (by kernel_rfl) ?_
      (try simp only [go_sem, Nat.reduceEqDiff, ↓reduceIte])
      refine hold2 (then_n ?_)
      refine J_seq ?_
      refine J_region (by kernel_rfl) ?_
      (try simp only [go_sem, Nat.reduceEqDiff, ↓reduceIte])
      obtain ⟨s33, hs33, hP⟩ := bind_cases hP
      refine slS_of hs33 ?_
      (try simp only [go_sem, Nat.reduceEqDiff, ↓reduceIte])
      obtain ⟨r34, hr34, hP⟩ := bind_cases hP
      refine call_ok [.str s33, .str [13, 10]] (indexAnyY_ok hr34) ⟨argR_m false rfl, argR_m false rfl, trivial⟩ ?_
      (try simp only [go_sem, Nat.reduceEqDiff, ↓reduceIte])
      refine hold2 (then_n ?_)
      refine J_seq ?_
      refine J_seq ?_
      refine J_region (by kernel_rfl) ?_
      (try simp only [go_sem, Nat.reduceEqDiff, ↓reduceIte])
      refine hold2 (then_n ?_)
      refine J_block ?_
      obtain ⟨o36, hP, hQ36⟩ := bind_cases hP
      refine J_join (fun (s : Bool) => envL [(0, .bptr 0 0), (4, .int .i64 0), (5, .int .i64 r34), (6, .int .i64 (iadd .i64 0 r34)), (21, .bool s), (84, .bptr 1 0), (85, .bptr 3 0), (86, .bptr 0 0), (143, .fn 65 [.bptr 1 0, .bptr 3 0])]) (fun (s : Bool) => [.box 123 [.str s1, .int .i64 0], .box 93 [.int .i64 0, .str [], .own 2 0 0 (List.length ([] : List ((List UInt8) × (List UInt8))))], .slice 0 126 2 (List.map enc_api_Field ([] : List ((List UInt8) × (List UInt8)))), .box 95 [.sc .nilIface]]) (fun s => s = o36) ?_ ?_
      · clear hQ36
        refine J_seq ?_
        refine J_region (by kernel_rfl) ?_
        (try simp only [go_sem, Nat.reduceEqDiff, ↓reduceIte])
        refine hold2 (then_n ?_)
        refine J_condV rfl ?_
        (try simp only [go_sem, Nat.reduceEqDiff, ↓reduceIte])
        rcases ite_cases hP with ⟨hc, hP⟩ | ⟨hc, hP⟩
        · refine condV_t hc ?_
          refine J_skip ?_
          exact join_n (decide (r34 < 0)) (Option.some.inj hP) (so [3, 0, 1, 2])
        · refine condV_f hc ?_
          refine J_region (by kernel_rfl) ?_
          (try simp only [go_sem, Nat.reduceEqDiff, ↓reduceIte])
          obtain ⟨c37, hc37, hP⟩ := bind_cases hP
          refine ixS_of hc37 ?_
          (try simp only [go_sem, Nat.reduceEqDiff, ↓reduceIte])
          rcases ite_cases hP with ⟨hc, hP⟩ | ⟨hc, hP⟩
          · refine guard_is hc ?_
            (try simp only [go_sem, Nat.reduceEqDiff, ↓reduceIte])
            refine hold2 ?_
            exact join_n (decide (iadd .i64 (iadd .i64 0 r34) 1 = (List.length s1 : Int))) (Option.some.inj hP) (so [3, 0, 1, 2])
          · refine guard_not hc ?_
            (try simp only [go_sem, Nat.reduceEqDiff, ↓reduceIte])
            refine hold2 ?_
            exact join_n false (Option.some.inj hP) (so [3, 0, 1, 2])
      · intro j38 hs
        subst hs
        have hP := hQ36
        clear hQ36
        refine J_condV rfl ?_
        (try simp only [go_sem, Nat.reduceEqDiff, ↓reduceIte])
        rcases ite_cases hP with ⟨hc, hP⟩ | ⟨hc, hP⟩
        · refine condV_t hc ?_
          refine J_regionP (by kernel_rfl) ?_
          (try simp only [go_sem, Nat.reduceEqDiff, ↓reduceIte])
          obtain ⟨r39, hr39, hP⟩ := bind_cases hP
          rcases r39 with p40 | r41 <;> dsimp only at hP
          · refine callP_p [.int .i64 (List.length s1 : Int), .int .i64 24] (head_fail_ok hr39) ⟨argR_m false rfl, argR_m false rfl, trivial⟩ (holdP (block_p (then_p (finIX_p ?_))))
            exact told_of ⟨(p40.1, p40.2), Option.some.inj hP, sp [1, 2, 3]⟩
          · cases hP
        · refine condV_f hc ?_
          obtain ⟨o44, hP, hQ44⟩ := bind_cases hP
          refine J_join (fun (s : Bool) => envL [(0, .bptr 0 0), (4, .int .i64 0), (5, .int .i64 r34), (6, .int .i64 (iadd .i64 0 r34)), (47, .bool s), (84, .bptr 1 0), (85, .bptr 3 0), (86, .bptr 0 0), (143, .fn 65 [.bptr 1 0, .bptr 3 0])]) (fun (s : Bool) => [.box 123 [.str s1, .int .i64 0], .box 93 [.int .i64 0, .str [], .own 2 0 0 (List.length ([] : List ((List UInt8) × (List UInt8))))], .slice 0 126 2 (List.map enc_api_Field ([] : List ((List UInt8) × (List UInt8)))), .box 95 [.sc .nilIface]]) (fun s => s = o44) ?_ ?_
          · clear hQ44
            refine J_seq ?_
            refine J_region (by kernel_rfl) ?_
            (try simp only [go_sem, Nat.reduceEqDiff, ↓reduceIte])
            obtain ⟨c45, hc45, hP⟩ := bind_cases hP
            refine ixS_of hc45 ?_
            (try simp only [go_sem, Nat.reduceEqDiff, ↓reduceIte])
            refine hold2 (then_n ?_)
            refine J_condV rfl ?_
            (try simp only [go_sem, Nat.reduceEqDiff, ↓reduceIte])
            rcases ite_cases hP with ⟨hc, hP⟩ | ⟨hc, hP⟩
            · refine condV_t hc ?_
              refine J_skip ?_
              exact join_n (decide (b2i c45 = b2i (bC 10))) (Option.some.inj hP) (so [0, 1, 2, 3])
            · refine condV_f hc ?_
              refine J_region (by kernel_rfl) ?_
              (try simp only [go_sem, Nat.reduceEqDiff, ↓reduceIte])
              obtain ⟨c46, hc46, hP⟩ := bind_cases hP
              refine ixS_of hc46 ?_
              (try simp only [go_sem, Nat.reduceEqDiff, ↓reduceIte])
              refine hold2 ?_
              exact join_n (!decide (b2i c46 = b2i (bC 10))) (Option.some.inj hP) (so [0, 1, 2, 3])
          · intro j47 hs
            subst hs
            have hP := hQ44
            clear hQ44
            refine J_condV rfl ?_
            (try simp only [go_sem, Nat.reduceEqDiff, ↓reduceIte])
            rcases ite_cases hP with ⟨hc, hP⟩ | ⟨hc, hP⟩
            · refine condV_t hc ?_
              refine J_regionP (by kernel_rfl) ?_
              (try simp only [go_sem, Nat.reduceEqDiff, ↓reduceIte])
              obtain ⟨r48, hr48, hP⟩ := bind_cases hP
              rcases r48 with p49 | r50 <;> dsimp only at hP
              · refine callP_p [.int .i64 (iadd .i64 0 r34), .int .i64 10] (head_fail_ok hr48) ⟨argR_m false rfl, argR_m false rfl, trivial⟩ (holdP (block_p (then_p (finIX_p ?_))))
                exact told_of ⟨(p49.1, p49.2), Option.some.inj hP, sp [1, 2, 3]⟩
              · cases hP
            · refine condV_f hc ?_
              refine J_skip (block_n (then_n ?_))
              refine J_seq ?_
              refine J_region (by kernel_rfl) ?_
              (try simp only [go_sem, Nat.reduceEqDiff, ↓reduceIte])
              refine hold2 (then_n ?_)
              refine J_seq ?_
              refine J_region (by kernel_rfl) ?_
              (try simp only [go_sem, Nat.reduceEqDiff, ↓reduceIte])
              obtain ⟨s51, hs51, hP⟩ := bind_cases hP
              refine slS_of hs51 ?_
              (try simp only [go_sem, Nat.reduceEqDiff, ↓reduceIte])
              refine hold2 (then_n ?_)
              refine J_ret (finIX_ret ?_)
              exact told_of ⟨(s51, iadd .i64 (iadd .i64 0 r34) 2), Option.some.inj hP, sr [1, 2, 3, 0]⟩
    · intro a57 hs
      subst hs
      have hP := hQ52
      dsimp only at hP
      clear hQ52
      (try simp only [go_sem, Nat.reduceEqDiff, ↓reduceIte])
      refine hold2 (then_n ?_)
      refine J_seq ?_
      refine J_region (by kernel_rfl) ?_
      (try simp only [go_sem, Nat.reduceEqDiff, ↓reduceIte])
      obtain ⟨r58, hr58, hP⟩ := bind_cases hP
      refine call_ok [.str a57.1, .str [72, 84, 84, 80, 47, 49, 46, 49, 32]] (strings_CutPrefix_ok hr58) ⟨argR_m false rfl, argR_m false rfl, trivial⟩ ?_
      (try simp only [go_sem, Nat.reduceEqDiff, ↓reduceIte])
      refine hold2 (then_n ?_)
      refine J_seq ?_
      refine J_seq ?_
      refine J_region (by kernel_rfl) ?_
      (try simp only [go_sem, Nat.reduceEqDiff, ↓reduceIte])
      refine hold2 (then_n ?_)
      refine J_condV rfl ?_
      (try simp only [go_sem, Nat.reduceEqDiff, ↓reduceIte])
      rcases ite_cases hP with ⟨hc, hP⟩ | ⟨hc, hP⟩
      · refine condV_t hc ?_
        refine J_regionP (by kernel_rfl) ?_
        (try simp only [go_sem, Nat.reduceEqDiff, ↓reduceIte])
        obtain ⟨r59, hr59, hP⟩ := bind_cases hP
        rcases r59 with p60 | r61 <;> dsimp only at hP
        · refine callP_p [.int .i64 0, .int .i64 14] (head_fail_ok hr59) ⟨argR_m false rfl, argR_m false rfl, trivial⟩ (holdP (then_p (finD_p _ (by simp [AV.pl, AV.plL]) rfl (by simp) ?_)))
          unfold Caught
          refine J_seq ?_
          refine J_region (by kernel_rfl) ?_
          (try simp only [go_sem, Nat.reduceEqDiff, ↓reduceIte])
          refine hold2 (then_n ?_)
          refine J_condV rfl ?_
          (try simp only [go_sem, Nat.reduceEqDiff, ↓reduceIte])
          refine J_regionP (by kernel_rfl) ?_
          (try simp only [go_sem, Nat.reduceEqDiff, ↓reduceIte])
          obtain ⟨o63, hP, hQ62⟩ := bind_cases hP
          refine callP_n (call_join (fun (s : Unit) => .iface 121 .dead) (fun (s : Unit) => envL [(0, .bptr 0 0), (1, .bptr 2 0), (6, .agg [.int .i64 0, .str [], .sc (.slice none 0 0)]), (11, .bptr 0 0), (12, .bptr 2 0), (70, .fn 65 [.bptr 0 0, .bptr 2 0])]) (fun (s : Unit) => [.box 93 [.int .i64 0, .str [], .own 1 0 0 (List.length ([] : List ((List UInt8) × (List UInt8))))], .slice 0 126 2 (List.map enc_api_Field ([] : List ((List UInt8) × (List UInt8)))), .box 95 [.sc .nilIface]]) (fun s => s = o63) (callI_of (n := 15) (rs := [.tmp 2]) Tryz.func66 rfl (by decide) rfl rfl (by simp) rfl ?_) ?_)
          · clear hQ62
            refine J_seq ?_
            refine J_region (by kernel_rfl) ?_
            (try simp only [go_sem, Nat.reduceEqDiff, ↓reduceIte])
            refine hold2 (then_n ?_)
            refine J_seq ?_
            refine J_region (by kernel_rfl) ?_
            (try simp only [go_sem, Nat.reduceEqDiff, ↓reduceIte, Nat.reduceAdd, Nat.reduceSub, Nat.reduceLT, Nat.reduceMul, reduceCtorEq, Int.reduceToNat, Int.reduceLE, Int.reduceLT, Nat.reduceLeDiff])
            refine hold2 (then_n ?_)
            refine J_seq ?_
            refine J_seq ?_
            refine J_region (by kernel_rfl) ?_
            (try simp only [go_sem, Nat.reduceEqDiff, ↓reduceIte])
            refine hold2 (then_n ?_)
            refine J_condV rfl ?_
            (try simp only [go_sem, Nat.reduceEqDiff, ↓reduceIte])
            refine J_skip (then_n ?_)
            refine J_seq ?_
            refine J_region (by kernel_rfl) ?_
            (try simp only [go_sem, Nat.reduceEqDiff, ↓reduceIte])
            refine hold2 (then_n ?_)
            refine J_ret (finI_ret ?_)
            exact told_of ⟨(), Option.some.inj hP, sr [0, 1, 2]⟩
          · intro a62 hs
            subst hs
            have hP := hQ62
            clear hQ62
            (try simp only [go_sem, Nat.reduceEqDiff, ↓reduceIte])
            refine hold2 ?_
            refine finC_prom 126 2 (by decide) 0 2 _ _ rfl rfl ?_
            (try simp only [go_sem, Nat.reduceEqDiff, ↓reduceIte])
            refine finC_n ?_
            obtain rfl := Option.some.inj hP
            (try simp only [go_sem, Nat.reduceEqDiff, ↓reduceIte])
            exact fo [3]
        · cases hP
      · refine condV_f hc ?_
        refine J_skip (then_n ?_)
        refine J_seq ?_
        obtain ⟨o65, hP, hQ65⟩ := bind_cases hP
        refine J_join (fun (s : Bool) => envL [(2, .bptr 0 0), (3, .bptr 2 0), (4, .bptr 3 0), (5, .str a57.1), (7, .str r58.1), (34, .bool s), (61, .fn 65 [.bptr 0 0, .bptr 2 0])]) (fun (s : Bool) => [.box 93 [.int .i64 0, .str [], .own 1 0 0 (List.length ([] : List ((List UInt8) × (List UInt8))))], .slice 0 126 2 (List.map enc_api_Field ([] : List ((List UInt8) × (List UInt8)))), .box 95 [.sc .nilIface], .box 123 [.str s1, .int .i64 a57.2]]) (fun s => s = o65) ?_ ?_
        · clear hQ65
          refine J_region (by kernel_rfl) ?_
          (try simp only [go_sem, Nat.reduceEqDiff, ↓reduceIte])
          rcases ite_cases hP with ⟨hc, hP⟩ | ⟨hc, hP⟩
          · refine guard_not hc ?_
            (try simp only [go_sem, Nat.reduceEqDiff, ↓reduceIte])
            refine hold2 ?_
            exact join_n true (Option.some.inj hP) (so [0, 1, 2, 3])
          · refine guard_is hc ?_
            (try simp only [go_sem, Nat.reduceEqDiff, ↓reduceIte])
            obtain ⟨c66, hc66, hP⟩ := bind_cases hP
            refine ixS_of hc66 ?_
            (try simp only [go_sem, Nat.reduceEqDiff, ↓reduceIte])
            refine hold2 ?_
            exact join_n (!decide (b2i c66 = b2i (bC 32))) (Option.some.inj hP) (so [0, 1, 2, 3])
        · intro j67 hs
          subst hs
          have hP := hQ65
          clear hQ65
          refine J_condV rfl ?_
          (try simp only [go_sem, Nat.reduceEqDiff, ↓reduceIte])
          rcases ite_cases hP with ⟨hc, hP⟩ | ⟨hc, hP⟩
          · refine condV_t hc ?_
            refine J_regionP (by kernel_rfl) ?_
            (try simp only [go_sem, Nat.reduceEqDiff, ↓reduceIte])
            obtain ⟨r68, hr68, hP⟩ := bind_cases hP
            rcases r68 with p69 | r70 <;> dsimp only at hP
            · refine callP_p [.int .i64 9, .int .i64 15] (head_fail_ok hr68) ⟨argR_m false rfl, argR_m false rfl, trivial⟩ (holdP (then_p (finD_p _ (by simp [AV.pl, AV.plL]) rfl (by simp) ?_)))
              unfold Caught
              refine J_seq ?_
              refine J_region (by kernel_rfl) ?_
              (try simp only [go_sem, Nat.reduceEqDiff, ↓reduceIte])
              refine hold2 (then_n ?_)
              refine J_condV rfl ?_
              (try simp only [go_sem, Nat.reduceEqDiff, ↓reduceIte])
              refine J_regionP (by kernel_rfl) ?_
              (try simp only [go_sem, Nat.reduceEqDiff, ↓reduceIte])
              obtain ⟨o72, hP, hQ71⟩ := bind_cases hP
              refine callP_n (call_join (fun (s : Unit) => .iface 121 .dead) (fun (s : Unit) => envL [(0, .bptr 0 0), (1, .bptr 2 0), (6, .agg [.int .i64 0, .str [], .sc (.slice none 0 0)]), (11, .bptr 0 0), (12, .bptr 2 0), (70, .fn 65 [.bptr 0 0, .bptr 2 0])]) (fun (s : Unit) => [.box 93 [.int .i64 0, .str [], .own 1 0 0 (List.length ([] : List ((List UInt8) × (List UInt8))))], .slice 0 126 2 (List.map enc_api_Field ([] : List ((List UInt8) × (List UInt8)))), .box 95 [.sc .nilIface]]) (fun s => s = o72) (callI_of (n := 15) (rs := [.tmp 2]) Tryz.func66 rfl (by decide) rfl rfl (by simp) rfl ?_) ?_)
              · clear hQ71
                refine J_seq ?_
                refine J_region (by kernel_rfl) ?_
                (try simp only [go_sem, Nat.reduceEqDiff, ↓reduceIte])
                refine hold2 (then_n ?_)
                refine J_seq ?_
                refine J_region (by kernel_rfl) ?_
                (try simp only [go_sem, Nat.reduceEqDiff, ↓reduceIte, Nat.reduceAdd, Nat.reduceSub, Nat.reduceLT, Nat.reduceMul, reduceCtorEq, Int.reduceToNat, Int.reduceLE, Int.reduceLT, Nat.reduceLeDiff])
                refine hold2 (then_n ?_)
                refine J_seq ?_
                refine J_seq ?_
                refine J_region (by kernel_rfl) ?_
                (try simp only [go_sem, Nat.reduceEqDiff, ↓reduceIte])
                refine hold2 (then_n ?_)
                refine J_condV rfl ?_
                (try simp only [go_sem, Nat.reduceEqDiff, ↓reduceIte])
                refine J_skip (then_n ?_)
                refine J_seq ?_
                refine J_region (by kernel_rfl) ?_
                (try simp only [go_sem, Nat.reduceEqDiff, ↓reduceIte])
                refine hold2 (then_n ?_)
                refine J_ret (finI_ret ?_)
                exact told_of ⟨(), Option.some.inj hP, sr [0, 1, 2]⟩
              · intro a71 hs
                subst hs
                have hP := hQ71
                clear hQ71
                (try simp only [go_sem, Nat.reduceEqDiff, ↓reduceIte])
                refine hold2 ?_
                refine finC_prom 126 2 (by decide) 0 2 _ _ rfl rfl ?_
                (try simp only [go_sem, Nat.reduceEqDiff, ↓reduceIte])
                refine finC_n ?_
                obtain rfl := Option.some.inj hP
                (try simp only [go_sem, Nat.reduceEqDiff, ↓reduceIte])
                exact fo [3]
            · cases hP
          · refine condV_f hc ?_
            refine J_skip (then_n ?_)
            refine J_seq ?_
            refine J_region (by kernel_rfl) ?_
            (try simp only [go_sem, Nat.reduceEqDiff, ↓reduceIte])
            obtain ⟨s73, hs73, hP⟩ := bind_cases hP
            refine slS_of hs73 ?_
            (try simp only [go_sem, Nat.reduceEqDiff, ↓reduceIte])
            obtain ⟨r74, hr74, hP⟩ := bind_cases hP
            refine call_ok [.str s73] (num_Decimal_ok hr74) ⟨argR_m false rfl, trivial⟩ ?_
            (try simp only [go_sem, Nat.reduceEqDiff, ↓reduceIte])
            refine hold2 (then_n ?_)
            refine J_seq ?_
            obtain ⟨o75, hP, hQ75⟩ := bind_cases hP
            refine J_join (fun (s : Bool) => envL [(2, .bptr 0 0), (3, .bptr 2 0), (4, .bptr 3 0), (5, .str a57.1), (7, .str r58.1), (9, .int .i64 r74.1), (51, .bool s), (61, .fn 65 [.bptr 0 0, .bptr 2 0])]) (fun (s : Bool) => [.box 93 [.int .i64 0, .str [], .own 1 0 0 (List.length ([] : List ((List UInt8) × (List UInt8))))], .slice 0 126 2 (List.map enc_api_Field ([] : List ((List UInt8) × (List UInt8)))), .box 95 [.sc .nilIface], .box 123 [.str s1, .int .i64 a57.2]]) (fun s => s = o75) ?_ ?_
            · clear hQ75
              refine J_region (by kernel_rfl) ?_
              (try simp only [go_sem, Nat.reduceEqDiff, ↓reduceIte])
              rcases ite_cases hP with ⟨hc, hP⟩ | ⟨hc, hP⟩
              · refine guard_not hc ?_
                (try simp only [go_sem, Nat.reduceEqDiff, ↓reduceIte])
                refine hold2 ?_
                exact join_n true (Option.some.inj hP) (so [0, 1, 2, 3])
              · refine guard_is hc ?_
                (try simp only [go_sem, Nat.reduceEqDiff, ↓reduceIte])
                rcases ite_cases hP with ⟨hc, hP⟩ | ⟨hc, hP⟩
                · refine guard_not hc ?_
                  (try simp only [go_sem, Nat.reduceEqDiff, ↓reduceIte])
                  refine hold2 ?_
                  exact join_n true (Option.some.inj hP) (so [0, 1, 2, 3])
                · refine guard_is hc ?_
                  (try simp only [go_sem, Nat.reduceEqDiff, ↓reduceIte])
                  refine hold2 ?_
                  exact join_n (decide (599 < r74.1)) (Option.some.inj hP) (so [0, 1, 2, 3])
            · intro j76 hs
              subst hs
              have hP := hQ75
              clear hQ75
              refine J_condV rfl ?_
              (try simp only [go_sem, Nat.reduceEqDiff, ↓reduceIte])
              rcases ite_cases hP with ⟨hc, hP⟩ | ⟨hc, hP⟩
              · refine condV_t hc ?_
                refine J_regionP (by kernel_rfl) ?_
                (try simp only [go_sem, Nat.reduceEqDiff, ↓reduceIte])
                obtain ⟨r77, hr77, hP⟩ := bind_cases hP
                rcases r77 with p78 | r79 <;> dsimp only at hP
                · refine callP_p [.int .i64 9, .int .i64 15] (head_fail_ok hr77) ⟨argR_m false rfl, argR_m false rfl, trivial⟩ (holdP (then_p (finD_p _ (by simp [AV.pl, AV.plL]) rfl (by simp) ?_)))
                  unfold Caught
                  refine J_seq ?_
                  refine J_region (by kernel_rfl) ?_
                  (try simp only [go_sem, Nat.reduceEqDiff, ↓reduceIte])
                  refine hold2 (then_n ?_)
                  refine J_condV rfl ?_
                  (try simp only [go_sem, Nat.reduceEqDiff, ↓reduceIte])
                  refine J_regionP (by kernel_rfl) ?_
                  (try simp only [go_sem, Nat.reduceEqDiff, ↓reduceIte])
                  obtain ⟨o81, hP, hQ80⟩ := bind_cases hP
                  refine callP_n (call_join (fun (s : Unit) => .iface 121 .dead) (fun (s : Unit) => envL [(0, .bptr 0 0), (1, .bptr 2 0), (6, .agg [.int .i64 0, .str [], .sc (.slice none 0 0)]), (11, .bptr 0 0), (12, .bptr 2 0), (70, .fn 65 [.bptr 0 0, .bptr 2 0])]) (fun (s : Unit) => [.box 93 [.int .i64 0, .str [], .own 1 0 0 (List.length ([] : List ((List UInt8) × (List UInt8))))], .slice 0 126 2 (List.map enc_api_Field ([] : List ((List UInt8) × (List UInt8)))), .box 95 [.sc .nilIface]]) (fun s => s = o81) (callI_of (n := 15) (rs := [.tmp 2]) Tryz.func66 rfl (by decide) rfl rfl (by simp) rfl ?_) ?_)
                  · clear hQ80
                    refine J_seq ?_
                    refine J_region (by kernel_rfl) ?_
                    (try simp only [go_sem, Nat.reduceEqDiff, ↓reduceIte])
                    refine hold2 (then_n ?_)
                    refine J_seq ?_
                    refine J_region (by kernel_rfl) ?_
                    (try simp only [go_sem, Nat.reduceEqDiff, ↓reduceIte, Nat.reduceAdd, Nat.reduceSub, Nat.reduceLT, Nat.reduceMul, reduceCtorEq, Int.reduceToNat, Int.reduceLE, Int.reduceLT, Nat.reduceLeDiff])
                    refine hold2 (then_n ?_)
                    refine J_seq ?_
                    refine J_seq ?_
                    refine J_region (by kernel_rfl) ?_
                    (try simp only [go_sem, Nat.reduceEqDiff, ↓reduceIte])
                    refine hold2 (then_n ?_)
                    refine J_condV rfl ?_
                    (try simp only [go_sem, Nat.reduceEqDiff, ↓reduceIte])
                    refine J_skip (then_n ?_)
                    refine J_seq ?_
                    refine J_region (by kernel_rfl) ?_
                    (try simp only [go_sem, Nat.reduceEqDiff, ↓reduceIte])
                    refine hold2 (then_n ?_)
                    refine J_ret (finI_ret ?_)
                    exact told_of ⟨(), Option.some.inj hP, sr [0, 1, 2]⟩
                  · intro a80 hs
                    subst hs
                    have hP := hQ80
                    clear hQ80
                    (try simp only [go_sem, Nat.reduceEqDiff, ↓reduceIte])
                    refine hold2 ?_
                    refine finC_prom 126 2 (by decide) 0 2 _ _ rfl rfl ?_
                    (try simp only [go_sem, Nat.reduceEqDiff, ↓reduceIte])
                    refine finC_n ?_
                    obtain rfl := Option.some.inj hP
                    (try simp only [go_sem, Nat.reduceEqDiff, ↓reduceIte])
                    exact fo [3]
                · cases hP
              · refine condV_f hc ?_
                refine J_skip (then_n ?_)
                refine J_seq ?_
                refine J_regionP (by kernel_rfl) ?_
                (try simp only [go_sem, Nat.reduceEqDiff, ↓reduceIte])
                obtain ⟨r82, hr82, hP⟩ := bind_cases hP
                rcases r82 with p83 | r84 <;> dsimp only at hP
                · refine callP_p [.str a57.1, .int .i64 0, .int .i64 13] (head_clean_ok hr82) ⟨argR_m false rfl, argR_m false rfl, argR_m false rfl, trivial⟩ (holdP (then_p (finD_p _ (by simp [AV.pl, AV.plL]) rfl (by simp) ?_)))
                  unfold Caught
                  refine J_seq ?_
                  refine J_region (by kernel_rfl) ?_
                  (try simp only [go_sem, Nat.reduceEqDiff, ↓reduceIte])
                  refine hold2 (then_n ?_)
                  refine J_condV rfl ?_
                  (try simp only [go_sem, Nat.reduceEqDiff, ↓reduceIte])
                  refine J_regionP (by kernel_rfl) ?_
                  (try simp only [go_sem, Nat.reduceEqDiff, ↓reduceIte])
                  obtain ⟨o86, hP, hQ85⟩ := bind_cases hP
                  refine callP_n (call_join (fun (s : Unit) => .iface 121 .dead) (fun (s : Unit) => envL [(0, .bptr 0 0), (1, .bptr 2 0), (6, .agg [.int .i64 0, .str [], .sc (.slice none 0 0)]), (11, .bptr 0 0), (12, .bptr 2 0), (70, .fn 65 [.bptr 0 0, .bptr 2 0])]) (fun (s : Unit) => [.box 93 [.int .i64 0, .str [], .own 1 0 0 (List.length ([] : List ((List UInt8) × (List UInt8))))], .slice 0 126 2 (List.map enc_api_Field ([] : List ((List UInt8) × (List UInt8)))), .box 95 [.sc .nilIface]]) (fun s => s = o86) (callI_of (n := 15) (rs := [.tmp 2]) Tryz.func66 rfl (by decide) rfl rfl (by simp) rfl ?_) ?_)
                  · clear hQ85
                    refine J_seq ?_
                    refine J_region (by kernel_rfl) ?_
                    (try simp only [go_sem, Nat.reduceEqDiff, ↓reduceIte])
                    refine hold2 (then_n ?_)
                    refine J_seq ?_
                    refine J_region (by kernel_rfl) ?_
                    (try simp only [go_sem, Nat.reduceEqDiff, ↓reduceIte, Nat.reduceAdd, Nat.reduceSub, Nat.reduceLT, Nat.reduceMul, reduceCtorEq, Int.reduceToNat, Int.reduceLE, Int.reduceLT, Nat.reduceLeDiff])
                    refine hold2 (then_n ?_)
                    refine J_seq ?_
                    refine J_seq ?_
                    refine J_region (by kernel_rfl) ?_
                    (try simp only [go_sem, Nat.reduceEqDiff, ↓reduceIte])
                    refine hold2 (then_n ?_)
                    refine J_condV rfl ?_
                    (try simp only [go_sem, Nat.reduceEqDiff, ↓reduceIte])
                    refine J_skip (then_n ?_)
                    refine J_seq ?_
                    refine J_region (by kernel_rfl) ?_
                    (try simp only [go_sem, Nat.reduceEqDiff, ↓reduceIte])
                    refine hold2 (then_n ?_)
                    refine J_ret (finI_ret ?_)
                    exact told_of ⟨(), Option.some.inj hP, sr [0, 1, 2]⟩
                  · intro a85 hs
                    subst hs
                    have hP := hQ85
                    clear hQ85
                    (try simp only [go_sem, Nat.reduceEqDiff, ↓reduceIte])
                    refine hold2 ?_
                    refine finC_prom 126 2 (by decide) 0 2 _ _ rfl rfl ?_
                    (try simp only [go_sem, Nat.reduceEqDiff, ↓reduceIte])
                    refine finC_n ?_
                    obtain rfl := Option.some.inj hP
                    (try simp only [go_sem, Nat.reduceEqDiff, ↓reduceIte])
                    exact fo [3]
                · refine callP_n (call_ok [.str a57.1, .int .i64 0, .int .i64 13] (CallX.ok (head_clean_ok hr82)) ⟨argR_m false rfl, argR_m false rfl, argR_m false rfl, trivial⟩ ?_)
                  (try simp only [go_sem, Nat.reduceEqDiff, ↓reduceIte])
                  refine hold2 (then_n ?_)
                  refine J_seq ?_
                  refine J_regionW [(0, true), (1, true), (2, true), (3, true), (4, false), (5, false), (6, false), (7, false)] [55, 56, 57, 58, 59, 60] follows_mixed (by kernel_rfl) (by kernel_rfl) (by kernel_rfl) (by kernel_rfl) (by decide) (by kernel_rfl) ?_
                  simp only [pickL_cons, pickL_nil, go_sem, Nat.reduceEqDiff, ↓reduceIte]
                  (try simp only [go_sem, Nat.reduceEqDiff, ↓reduceIte])
                  obtain ⟨s87, hs87, hP⟩ := bind_cases hP
                  refine slS_of hs87 ?_
                  (try simp only [go_sem, Nat.reduceEqDiff, ↓reduceIte])
                  obtain ⟨o425, hP, hQ424⟩ := bind_cases hP
                  refine callP_join (fun (s : (List ((List UInt8) × (List UInt8)))) => .own 3 0 0 (List.length s)) (fun (s : (List ((List UInt8) × (List UInt8)))) => envL [(2, .bptr 0 0), (3, .bptr 2 0), (55, .int .i64 r74.1), (57, .str s87), (61, .fn 65 [.bptr 0 0, .bptr 2 0])]) (fun (s : (List ((List UInt8) × (List UInt8)))) => [.box 93 [.int .i64 0, .str [], .own 1 0 0 (List.length ([] : List ((List UInt8) × (List UInt8))))], .slice 0 126 2 (List.map enc_api_Field ([] : List ((List UInt8) × (List UInt8)))), .box 95 [.sc .nilIface], .slice 0 126 2 (List.map enc_api_Field s)]) (fun s => Sum.inr s = o425) (fun (s : Int × Int) => .iface 119 (.agg [.int .i64 s.1, .int .i64 s.2])) (fun (s : Int × Int) => envL [(2, .bptr 0 0), (3, .bptr 2 0), (61, .fn 65 [.bptr 0 0, .bptr 2 0])]) (fun (s : Int × Int) => [.box 93 [.int .i64 0, .str [], .own 1 0 0 (List.length ([] : List ((List UInt8) × (List UInt8))))], .slice 0 126 2 (List.map enc_api_Field ([] : List ((List UInt8) × (List UInt8)))), .box 95 [.sc .nilIface]]) (fun s => Sum.inl s = o425) (callIX_of (n := 47) (rs := [.tmp 2]) Tryz.func73 rfl (by decide) rfl rfl (by simp) rfl ?_) ?_ ?_
                  · clear hQ424
                    refine J_seq ?_
                    refine J_region (by kernel_rfl) ?_
                    (try simp only [go_sem, Nat.reduceEqDiff, ↓reduceIte])
                    refine hold2 (then_n ?_)
                    refine J_seq ?_
                    refine J_region (by kernel_rfl) ?_
                    (try simp only [go_sem, Nat.reduceEqDiff, ↓reduceIte])
                    refine hold2 (then_n ?_)
                    refine J_block ?_
                    refine J_loop (σ := Nat × Int × (List ((List UInt8) × (List UInt8)))) (fun (s : Nat × Int × (List ((List UInt8) × (List UInt8)))) => envL [(0, .bptr 0 0), (3, .own 1 0 0 (List.length s.2.2)), (49, .bptr 2 0), (50, .bptr 4 0), (102, .int .i64 r74.1), (104, .str s87), (108, .fn 65 [.bptr 2 0, .bptr 4 0])]) (fun (s : Nat × Int × (List ((List UInt8) × (List UInt8)))) => [.box 123 [.str s1, .int .i64 s.2.1], .slice 0 126 2 (List.map enc_api_Field s.2.2), .box 93 [.int .i64 0, .str [], .own 3 0 0 (List.length ([] : List ((List UInt8) × (List UInt8))))], .slice 0 126 2 (List.map enc_api_Field ([] : List ((List UInt8) × (List UInt8)))), .box 95 [.sc .nilIface]]) (fun s => head_text_rows_L368 s1 s.1 s.2.1 s.2.2 = some o425) (fun s => s.1) (141836999983104, a57.2, ([] : List ((List UInt8) × (List UInt8)))) hP (so [3, 5, 0, 1, 2]) ?_
                    rintro ⟨k368, l366, l367⟩ hP
                    dsimp only at hP ⊢
                    cases k368 with
                    | zero => simp [head_text_rows_L368] at hP
                    | succ k368 =>
                      simp only [head_text_rows_L368] at hP
                      refine J_block ?_
                      refine J_seq ?_
                      refine J_regionP (by kernel_rfl) ?_
                      (try simp only [go_sem, Nat.reduceEqDiff, ↓reduceIte])
                      obtain ⟨o408, hP, hQ407⟩ := bind_cases hP
                      refine callP_join (fun (s : (List UInt8) × Int) => .tup [.str s.1, .int .i64 l366]) (fun (s : (List UInt8) × Int) => envL [(0, .bptr 0 0), (3, .own 1 0 0 (List.length l367)), (49, .bptr 2 0), (50, .bptr 4 0), (102, .int .i64 r74.1), (104, .str s87), (108, .fn 65 [.bptr 2 0, .bptr 4 0])]) (fun (s : (List UInt8) × Int) => [.box 123 [.str s1, .int .i64 s.2], .slice 0 126 2 (List.map enc_api_Field l367), .box 93 [.int .i64 0, .str [], .own 3 0 0 (List.length ([] : List ((List UInt8) × (List UInt8))))], .slice 0 126 2 (List.map enc_api_Field ([] : List ((List UInt8) × (List UInt8)))), .box 95 [.sc .nilIface]]) (fun s => Sum.inr s = o408) (fun (s : Int × Int) => .iface 119 (.agg [.int .i64 s.1, .int .i64 s.2])) (fun (s : Int × Int) => envL [(49, .bptr 0 0), (50, .bptr 2 0), (108, .fn 65 [.bptr 0 0, .bptr 2 0])]) (fun (s : Int × Int) => [.box 93 [.int .i64 0, .str [], .own 1 0 0 (List.length ([] : List ((List UInt8) × (List UInt8))))], .slice 0 126 2 (List.map enc_api_Field ([] : List ((List UInt8) × (List UInt8)))), .box 95 [.sc .nilIface]]) (fun s => Sum.inl s = o408) (callIX_of (n := 82) (rs := [.tmp 2, .tmp 3]) Tryz.func68 rfl (by decide) rfl rfl (by simp) rfl ?_) ?_ ?_
                      · clear hQ407
                        refine J_seq ?_
                        refine J_region (by kernel_rfl) ?_
                        (try simp only [go_sem, Nat.reduceEqDiff, ↓reduceIte])
                        refine hold2 (then_n ?_)
                        refine J_seq ?_
                        refine J_region (by kernel_rfl) ?_
                        (try simp only [go_sem, Nat.reduceEqDiff, ↓reduceIte])
                        refine hold2 (then_n ?_)
                        refine J_seq ?_
                        refine J_region (by kernel_rfl) ?_
                        (try simp only [go_sem, Nat.reduceEqDiff, ↓reduceIte])
                        obtain ⟨s388, hs388, hP⟩ := bind_cases hP
                        refine slS_of hs388 ?_
                        (try simp only [go_sem, Nat.reduceEqDiff, ↓reduceIte])
                        obtain ⟨r389, hr389, hP⟩ := bind_cases hP
                        refine call_ok [.str s388, .str [13, 10]] (indexAnyY_ok hr389) ⟨argR_m false rfl, argR_m false rfl, trivial⟩ ?_
                        (try simp only [go_sem, Nat.reduceEqDiff, ↓reduceIte])
                        refine hold2 (then_n ?_)
                        refine J_seq ?_
                        refine J_seq ?_
                        refine J_region (by kernel_rfl) ?_
                        (try simp only [go_sem, Nat.reduceEqDiff, ↓reduceIte])
                        refine hold2 (then_n ?_)
                        refine J_block ?_
                        obtain ⟨o391, hP, hQ391⟩ := bind_cases hP
                        refine J_join (fun (s : Bool) => envL [(0, .bptr 0 0), (4, .int .i64 l366), (5, .int .i64 r389), (6, .int .i64 (iadd .i64 l366 r389)), (21, .bool s), (82, .bptr 0 0), (85, .own 1 0 0 (List.length l367)), (131, .bptr 2 0), (132, .bptr 4 0), (184, .int .i64 r74.1), (186, .str s87), (190, .fn 65 [.bptr 2 0, .bptr 4 0])]) (fun (s : Bool) => [.box 123 [.str s1, .int .i64 l366], .slice 0 126 2 (List.map enc_api_Field l367), .box 93 [.int .i64 0, .str [], .own 3 0 0 (List.length ([] : List ((List UInt8) × (List UInt8))))], .slice 0 126 2 (List.map enc_api_Field ([] : List ((List UInt8) × (List UInt8)))), .box 95 [.sc .nilIface]]) (fun s => s = o391) ?_ ?_
                        · clear hQ391
                          refine J_seq ?_
                          refine J_region (by kernel_rfl) ?_
                          (try simp only [go_sem, Nat.reduceEqDiff, ↓reduceIte])
                          refine hold2 (then_n ?_)
                          refine J_condV rfl ?_
                          (try simp only [go_sem, Nat.reduceEqDiff, ↓reduceIte])
                          rcases ite_cases hP with ⟨hc, hP⟩ | ⟨hc, hP⟩
                          · refine condV_t hc ?_
                            refine J_skip ?_
                            exact join_n (decide (r389 < 0)) (Option.some.inj hP) (so [0, 1, 2, 3, 4])
                          · refine condV_f hc ?_
                            refine J_region (by kernel_rfl) ?_
                            (try simp only [go_sem, Nat.reduceEqDiff, ↓reduceIte])
                            obtain ⟨c392, hc392, hP⟩ := bind_cases hP
                            refine ixS_of hc392 ?_
                            (try simp only [go_sem, Nat.reduceEqDiff, ↓reduceIte])
                            rcases ite_cases hP with ⟨hc, hP⟩ | ⟨hc, hP⟩
                            · refine guard_is hc ?_
                              (try simp only [go_sem, Nat.reduceEqDiff, ↓reduceIte])
                              refine hold2 ?_
                              exact join_n (decide (iadd .i64 (iadd .i64 l366 r389) 1 = (List.length s1 : Int))) (Option.some.inj hP) (so [0, 1, 2, 3, 4])
                            · refine guard_not hc ?_
                              (try simp only [go_sem, Nat.reduceEqDiff, ↓reduceIte])
                              refine hold2 ?_
                              exact join_n false (Option.some.inj hP) (so [0, 1, 2, 3, 4])
                        · intro j393 hs
                          subst hs
                          have hP := hQ391
                          clear hQ391
                          refine J_condV rfl ?_
                          (try simp only [go_sem, Nat.reduceEqDiff, ↓reduceIte])
                          rcases ite_cases hP with ⟨hc, hP⟩ | ⟨hc, hP⟩
                          · refine condV_t hc ?_
                            refine J_regionP (by kernel_rfl) ?_
                            (try simp only [go_sem, Nat.reduceEqDiff, ↓reduceIte])
                            obtain ⟨r394, hr394, hP⟩ := bind_cases hP
                            rcases r394 with p395 | r396 <;> dsimp only at hP
                            · refine callP_p [.int .i64 (List.length s1 : Int), .int .i64 24] (head_fail_ok hr394) ⟨argR_m false rfl, argR_m false rfl, trivial⟩ (holdP (block_p (then_p (finIX_p ?_))))
                              exact told_of ⟨(p395.1, p395.2), Option.some.inj hP, sp [2, 3, 4]⟩
                            · cases hP
                          · refine condV_f hc ?_
                            obtain ⟨o399, hP, hQ399⟩ := bind_cases hP
                            refine J_join (fun (s : Bool) => envL [(0, .bptr 0 0), (4, .int .i64 l366), (5, .int .i64 r389), (6, .int .i64 (iadd .i64 l366 r389)), (47, .bool s), (82, .bptr 0 0), (85, .own 1 0 0 (List.length l367)), (131, .bptr 2 0), (132, .bptr 4 0), (184, .int .i64 r74.1), (186, .str s87), (190, .fn 65 [.bptr 2 0, .bptr 4 0])]) (fun (s : Bool) => [.box 123 [.str s1, .int .i64 l366], .slice 0 126 2 (List.map enc_api_Field l367), .box 93 [.int .i64 0, .str [], .own 3 0 0 (List.length ([] : List ((List UInt8) × (List UInt8))))], .slice 0 126 2 (List.map enc_api_Field ([] : List ((List UInt8) × (List UInt8)))), .box 95 [.sc .nilIface]]) (fun s => s = o399) ?_ ?_
                            · clear hQ399
                              refine J_seq ?_
                              refine J_region (by kernel_rfl) ?_
                              (try simp only [go_sem, Nat.reduceEqDiff, ↓reduceIte])
                              obtain ⟨c400, hc400, hP⟩ := bind_cases hP
                              refine ixS_of hc400 ?_
                              (try simp only [go_sem, Nat.reduceEqDiff, ↓reduceIte])
                              refine hold2 (then_n ?_)
                              refine J_condV rfl ?_
                              (try simp only [go_sem, Nat.reduceEqDiff, ↓reduceIte])
                              rcases ite_cases hP with ⟨hc, hP⟩ | ⟨hc, hP⟩
                              · refine condV_t hc ?_
                                refine J_skip ?_
                                exact join_n (decide (b2i c400 = b2i (bC 10))) (Option.some.inj hP) (so [0, 1, 2, 3, 4])
                              · refine condV_f hc ?_
                                refine J_region (by kernel_rfl) ?_
                                (try simp only [go_sem, Nat.reduceEqDiff, ↓reduceIte])
                                obtain ⟨c401, hc401, hP⟩ := bind_cases hP
                                refine ixS_of hc401 ?_
                                (try simp only [go_sem, Nat.reduceEqDiff, ↓reduceIte])
                                refine hold2 ?_
                                exact join_n (!decide (b2i c401 = b2i (bC 10))) (Option.some.inj hP) (so [0, 1, 2, 3, 4])
                            · intro j402 hs
                              subst hs
                              have hP := hQ399
                              clear hQ399
                              refine J_condV rfl ?_
                              (try simp only [go_sem, Nat.reduceEqDiff, ↓reduceIte])
                              rcases ite_cases hP with ⟨hc, hP⟩ | ⟨hc, hP⟩
                              · refine condV_t hc ?_
                                refine J_regionP (by kernel_rfl) ?_
                                (try simp only [go_sem, Nat.reduceEqDiff, ↓reduceIte])
                                obtain ⟨r403, hr403, hP⟩ := bind_cases hP
                                rcases r403 with p404 | r405 <;> dsimp only at hP
                                · refine callP_p [.int .i64 (iadd .i64 l366 r389), .int .i64 10] (head_fail_ok hr403) ⟨argR_m false rfl, argR_m false rfl, trivial⟩ (holdP (block_p (then_p (finIX_p ?_))))
                                  exact told_of ⟨(p404.1, p404.2), Option.some.inj hP, sp [2, 3, 4]⟩
                                · cases hP
                              · refine condV_f hc ?_
                                refine J_skip (block_n (then_n ?_))
                                refine J_seq ?_
                                refine J_region (by kernel_rfl) ?_
                                (try simp only [go_sem, Nat.reduceEqDiff, ↓reduceIte])
                                refine hold2 (then_n ?_)
                                refine J_seq ?_
                                refine J_region (by kernel_rfl) ?_
                                (try simp only [go_sem, Nat.reduceEqDiff, ↓reduceIte])
                                obtain ⟨s406, hs406, hP⟩ := bind_cases hP
                                refine slS_of hs406 ?_
                                (try simp only [go_sem, Nat.reduceEqDiff, ↓reduceIte])
                                refine hold2 (then_n ?_)
                                refine J_ret (finIX_ret ?_)
                                exact told_of ⟨(s406, iadd .i64 (iadd .i64 l366 r389) 2), Option.some.inj hP, sr [0, 1, 2, 3, 4]⟩
                      · intro a410 hs
                        subst hs
                        have hP := hQ407
                        dsimp only at hP
                        clear hQ407
                        (try simp only [go_sem, Nat.reduceEqDiff, ↓reduceIte])
                        refine hold2 (then_n ?_)
                        refine J_seq ?_
                        refine J_block ?_
                        obtain ⟨o411, hP, hQ411⟩ := bind_cases hP
                        refine J_join (fun (s : Bool) => envL [(0, .bptr 0 0), (3, .own 1 0 0 (List.length l367)), (4, .str a410.1), (5, .int .i64 l366), (11, .bool s), (49, .bptr 2 0), (50, .bptr 4 0), (102, .int .i64 r74.1), (104, .str s87), (108, .fn 65 [.bptr 2 0, .bptr 4 0])]) (fun (s : Bool) => [.box 123 [.str s1, .int .i64 a410.2], .slice 0 126 2 (List.map enc_api_Field l367), .box 93 [.int .i64 0, .str [], .own 3 0 0 (List.length ([] : List ((List UInt8) × (List UInt8))))], .slice 0 126 2 (List.map enc_api_Field ([] : List ((List UInt8) × (List UInt8)))), .box 95 [.sc .nilIface]]) (fun s => s = o411) ?_ ?_
                        · clear hQ411
                          refine J_regionq follows_mixed (by kernel_rfl) (by kernel_rfl) ?_
                          (try simp only [go_sem, Nat.reduceEqDiff, ↓reduceIte])
                          rcases ite_cases hP with ⟨hc, hP⟩ | ⟨hc, hP⟩
                          · refine guard_is hc ?_
                            (try simp only [go_sem, Nat.reduceEqDiff, ↓reduceIte])
                            refine hold2 ?_
                            exact join_n (decide (a410.2 < (List.length s1 : Int))) (Option.some.inj hP) (so [0, 1, 2, 3, 4])
                          · refine guard_not hc ?_
                            (try simp only [go_sem, Nat.reduceEqDiff, ↓reduceIte])
                            refine hold2 ?_
                            exact join_n false (Option.some.inj hP) (so [0, 1, 2, 3, 4])
                        · intro j412 hs
                          subst hs
                          have hP := hQ411
                          clear hQ411
                          refine J_condV rfl ?_
                          (try simp only [go_sem, Nat.reduceEqDiff, ↓reduceIte])
                          rcases ite_cases hP with ⟨hc, hP⟩ | ⟨hc, hP⟩
                          · refine condV_t hc ?_
                            refine J_regionP (by kernel_rfl) ?_
                            (try simp only [go_sem, Nat.reduceEqDiff, ↓reduceIte])
                            obtain ⟨r413, hr413, hP⟩ := bind_cases hP
                            rcases r413 with p414 | r415 <;> dsimp only at hP
                            · refine callP_p [.int .i64 a410.2, .int .i64 1] (head_fail_ok hr413) ⟨argR_m false rfl, argR_m false rfl, trivial⟩ (holdP (block_p (then_p (block_p (loop_p (block_p (finIX_p ?_)))))))
                              exact told_of ⟨(p414.1, p414.2), Option.some.inj hP, sp [2, 3, 4]⟩
                            · cases hP
                          · refine condV_f hc ?_
                            refine J_seq ?_
                            refine J_region (by kernel_rfl) ?_
                            (try simp only [go_sem, Nat.reduceEqDiff, ↓reduceIte])
                            refine hold2 (then_n ?_)
                            refine J_condV rfl ?_
                            (try simp only [go_sem, Nat.reduceEqDiff, ↓reduceIte])
                            rcases ite_cases hP with ⟨hc, hP⟩ | ⟨hc, hP⟩
                            · refine condV_t hc ?_
                              refine J_seq ?_
                              refine J_region (by kernel_rfl) ?_
                              (try simp only [go_sem, Nat.reduceEqDiff, ↓reduceIte])
                              refine hold2 (then_n ?_)
                              refine J_ret (block_ret (then_ret (block_ret (loop_ret (block_ret (finIX_ret ?_))))))
                              exact told_of ⟨l367, Option.some.inj hP, sr [2, 3, 4, 1]⟩
                            · refine condV_f hc ?_
                              refine J_seq ?_
                              refine J_region (by kernel_rfl) ?_
                              (try simp only [go_sem, Nat.reduceEqDiff, ↓reduceIte])
                              refine hold2 (then_n ?_)
                              refine J_condV rfl ?_
                              (try simp only [go_sem, Nat.reduceEqDiff, ↓reduceIte])
                              rcases ite_cases hP with ⟨hc, hP⟩ | ⟨hc, hP⟩
                              · refine condV_t hc ?_
                                refine J_regionP (by kernel_rfl) ?_
                                (try simp only [go_sem, Nat.reduceEqDiff, ↓reduceIte])
                                obtain ⟨r416, hr416, hP⟩ := bind_cases hP
                                rcases r416 with p417 | r418 <;> dsimp only at hP
                                · refine callP_p [.int .i64 l366, .int .i64 18] (head_fail_ok hr416) ⟨argR_m false rfl, argR_m false rfl, trivial⟩ (holdP (block_p (then_p (block_p (loop_p (block_p (finIX_p ?_)))))))
                                  exact told_of ⟨(p417.1, p417.2), Option.some.inj hP, sp [2, 3, 4]⟩
                                · cases hP
                              · refine condV_f hc ?_
                                refine J_skip (block_n (then_n ?_))
                                refine J_regionP (by kernel_rfl) ?_
                                (try simp only [go_sem, Nat.reduceEqDiff, ↓reduceIte, Nat.reduceAdd, Nat.reduceSub, Nat.reduceLT, Nat.reduceMul, reduceCtorEq, Int.reduceToNat, Int.reduceLE, Int.reduceLT, Nat.reduceLeDiff])
                                obtain ⟨r419, hr419, hP⟩ := bind_cases hP
                                rcases r419 with p420 | r421 <;> dsimp only at hP
                                · refine callP_p [.str a410.1, .int .i64 l366] (head_field_ok hr419) ⟨argR_m false rfl, argR_m false rfl, trivial⟩ (holdP (block_p (loop_p (block_p (finIX_p ?_)))))
                                  exact told_of ⟨(p420.1, p420.2), Option.some.inj hP, sp [2, 3, 4]⟩
                                · refine callP_n (call_ok [.str a410.1, .int .i64 l366] (CallX.ok (head_field_ok hr419)) ⟨argR_m false rfl, argR_m false rfl, trivial⟩ ?_)
                                  (try simp only [go_sem, Nat.reduceEqDiff, ↓reduceIte, Nat.reduceAdd, Nat.reduceSub, Nat.reduceLT, Nat.reduceMul, reduceCtorEq, Int.reduceToNat, Int.reduceLE, Int.reduceLT, Nat.reduceLeDiff])
                                  obtain ⟨_, hz422, hP⟩ := bind_cases hP
                                  refine app_ownW (f := enc_api_Field) (l367 : List ((List UInt8) × (List UInt8))) ([(r421.1, r421.2)] : List ((List UInt8) × (List UInt8))) rfl tyS_91 (by decide) (by simp only [go_sem, Nat.reduceEqDiff, ↓reduceIte, Nat.reduceAdd, Nat.reduceSub, Nat.reduceLT, Nat.reduceMul, reduceCtorEq, Int.reduceToNat, Int.reduceLE, Int.reduceLT, Nat.reduceLeDiff]; first | done | rfl | exact ⟨rfl, rfl⟩) hz422 ?_
                                  (try simp only [go_sem, Nat.reduceEqDiff, ↓reduceIte])
                                  refine hold2 (block_n ?_)
                                  exact loop_n (k368, a410.2, l367 ++ [(r421.1, r421.2)]) hP (Nat.lt_succ_self _) (so [0, 1, 2, 3, 4])
                      · intro a409 hs
                        subst hs
                        have hP := hQ407
                        dsimp only at hP
                        clear hQ407
                        refine holdP (then_p (block_p (loop_p (block_p (finIX_p ?_)))))
                        exact told_of ⟨(a409.1, a409.2), Option.some.inj hP, sp [0, 1, 2]⟩
                  · intro a429 hs
                    subst hs
                    have hP := hQ424
                    dsimp only at hP
                    clear hQ424
                    (try simp only [go_sem, Nat.reduceEqDiff, ↓reduceIte, Nat.reduceAdd, Nat.reduceSub, Nat.reduceLT, Nat.reduceMul, reduceCtorEq, Int.reduceToNat, Int.reduceLE, Int.reduceLT, Nat.reduceLeDiff])
                    refine hold2 (then_n ?_)
                    refine J_ret (finD_ret _ rfl (by simp) ?_)
                    unfold Caught
                    refine J_seq ?_
                    refine J_region (by kernel_rfl) ?_
                    (try simp only [go_sem, Nat.reduceEqDiff, ↓reduceIte])
                    refine hold2 (then_n ?_)
                    refine J_condV rfl ?_
                    (try simp only [go_sem, Nat.reduceEqDiff, ↓reduceIte])
                    refine J_skip (finC_n ?_)
                    obtain rfl := Option.some.inj hP
                    (try simp only [go_sem, Nat.reduceEqDiff, ↓reduceIte])
                    exact fo [3]
                  · intro a426 hs
                    subst hs
                    have hP := hQ424
                    dsimp only at hP
                    clear hQ424
                    refine holdP (then_p (finD_p _ (by simp [AV.pl, AV.plL]) rfl (by simp) ?_))
                    unfold Caught
                    refine J_seq ?_
                    refine J_region (by kernel_rfl) ?_
                    (try simp only [go_sem, Nat.reduceEqDiff, ↓reduceIte])
                    refine hold2 (then_n ?_)
                    refine J_condV rfl ?_
                    (try simp only [go_sem, Nat.reduceEqDiff, ↓reduceIte])
                    refine J_regionP (by kernel_rfl) ?_
                    (try simp only [go_sem, Nat.reduceEqDiff, ↓reduceIte])
                    obtain ⟨o428, hP, hQ427⟩ := bind_cases hP
                    refine callP_n (call_join (fun (s : Unit) => .iface 121 .dead) (fun (s : Unit) => envL [(0, .bptr 0 0), (1, .bptr 2 0), (6, .agg [.int .i64 0, .str [], .sc (.slice none 0 0)]), (11, .bptr 0 0), (12, .bptr 2 0), (70, .fn 65 [.bptr 0 0, .bptr 2 0])]) (fun (s : Unit) => [.box 93 [.int .i64 0, .str [], .own 1 0 0 (List.length ([] : List ((List UInt8) × (List UInt8))))], .slice 0 126 2 (List.map enc_api_Field ([] : List ((List UInt8) × (List UInt8)))), .box 95 [.sc .nilIface]]) (fun s => s = o428) (callI_of (n := 15) (rs := [.tmp 2]) Tryz.func66 rfl (by decide) rfl rfl (by simp) rfl ?_) ?_)
                    · clear hQ427
                      refine J_seq ?_
                      refine J_region (by kernel_rfl) ?_
                      (try simp only [go_sem, Nat.reduceEqDiff, ↓reduceIte])
                      refine hold2 (then_n ?_)
                      refine J_seq ?_
                      refine J_region (by kernel_rfl) ?_
                      (try simp only [go_sem, Nat.reduceEqDiff, ↓reduceIte, Nat.reduceAdd, Nat.reduceSub, Nat.reduceLT, Nat.reduceMul, reduceCtorEq, Int.reduceToNat, Int.reduceLE, Int.reduceLT, Nat.reduceLeDiff])
                      refine hold2 (then_n ?_)
                      refine J_seq ?_
                      refine J_seq ?_
                      refine J_region (by kernel_rfl) ?_
                      (try simp only [go_sem, Nat.reduceEqDiff, ↓reduceIte])
                      refine hold2 (then_n ?_)
                      refine J_condV rfl ?_
                      (try simp only [go_sem, Nat.reduceEqDiff, ↓reduceIte])
                      refine J_skip (then_n ?_)
                      refine J_seq ?_
                      refine J_region (by kernel_rfl) ?_
                      (try simp only [go_sem, Nat.reduceEqDiff, ↓reduceIte])
                      refine hold2 (then_n ?_)
                      refine J_ret (finI_ret ?_)
                      exact told_of ⟨(), Option.some.inj hP, sr [0, 1, 2]⟩
                    · intro a427 hs
                      subst hs
                      have hP := hQ427
                      clear hQ427
                      (try simp only [go_sem, Nat.reduceEqDiff, ↓reduceIte])
                      refine hold2 ?_
                      refine finC_prom 126 2 (by decide) 0 2 _ _ rfl rfl ?_
                      (try simp only [go_sem, Nat.reduceEqDiff, ↓reduceIte])
                      refine finC_n ?_
                      obtain rfl := Option.some.inj hP
                      (try simp only [go_sem, Nat.reduceEqDiff, ↓reduceIte])
                      exact fo [3]
    · intro a54 hs
      subst hs
      have hP := hQ52
      dsimp only at hP
      clear hQ52
      refine holdP (then_p (finD_p _ (by simp [AV.pl, AV.plL]) rfl (by simp) ?_))
      unfold Caught
      refine J_seq ?_
      refine J_region (by kernel_rfl) ?_
      (try simp only [go_sem, Nat.reduceEqDiff, ↓reduceIte])
      refine hold2 (then_n ?_)
      refine J_condV rfl ?_
      (try simp only [go_sem, Nat.reduceEqDiff, ↓reduceIte])
      refine J_regionP (by kernel_rfl) ?_
      (try simp only [go_sem, Nat.reduceEqDiff, ↓reduceIte])
      obtain ⟨o56, hP, hQ55⟩ := bind_cases hP
      refine callP_n (call_join (fun (s : Unit) => .iface 121 .dead) (fun (s : Unit) => envL [(0, .bptr 0 0), (1, .bptr 2 0), (6, .agg [.int .i64 0, .str [], .sc (.slice none 0 0)]), (11, .bptr 0 0), (12, .bptr 2 0), (70, .fn 65 [.bptr 0 0, .bptr 2 0])]) (fun (s : Unit) => [.box 93 [.int .i64 0, .str [], .own 1 0 0 (List.length ([] : List ((List UInt8) × (List UInt8))))], .slice 0 126 2 (List.map enc_api_Field ([] : List ((List UInt8) × (List UInt8)))), .box 95 [.sc .nilIface]]) (fun s => s = o56) (callI_of (n := 15) (rs := [.tmp 2]) Tryz.func66 rfl (by decide) rfl rfl (by simp) rfl ?_) ?_)
      · clear hQ55
        refine J_seq ?_
        refine J_region (by kernel_rfl) ?_
        (try simp only [go_sem, Nat.reduceEqDiff, ↓reduceIte])
        refine hold2 (then_n ?_)
        refine J_seq ?_
        refine J_region (by kernel_rfl) ?_
        (try simp only [go_sem, Nat.reduceEqDiff, ↓reduceIte, Nat.reduceAdd, Nat.reduceSub, Nat.reduceLT, Nat.reduceMul, reduceCtorEq, Int.reduceToNat, Int.reduceLE, Int.reduceLT, Nat.reduceLeDiff])
        refine hold2 (then_n ?_)
        refine J_seq ?_
        refine J_seq ?_
        refine J_region (by kernel_rfl) ?_
        (try simp only [go_sem, Nat.reduceEqDiff, ↓reduceIte])
        refine hold2 (then_n ?_)
        refine J_condV rfl ?_
        (try simp only [go_sem, Nat.reduceEqDiff, ↓reduceIte])
        refine J_skip (then_n ?_)
        refine J_seq ?_
        refine J_region (by kernel_rfl) ?_
        (try simp only [go_sem, Nat.reduceEqDiff, ↓reduceIte])
        refine hold2 (then_n ?_)
        refine J_ret (finI_ret ?_)
        exact told_of ⟨(), Option.some.inj hP, sr [0, 1, 2]⟩
      · intro a55 hs
        subst hs
        have hP := hQ55
        clear hQ55
        (try simp only [go_sem, Nat.reduceEqDiff, ↓reduceIte])
        refine hold2 ?_
        refine finC_prom 126 2 (by decide) 0 2 _ _ rfl rfl ?_
        (try simp only [go_sem, Nat.reduceEqDiff, ↓reduceIte])
        refine finC_n ?_
        obtain rfl := Option.some.inj hP
        (try simp only [go_sem, Nat.reduceEqDiff, ↓reduceIte])
        exact fo [3]
  · intro a10 hs
    subst hs
    have hP := hQ8
    dsimp only at hP
    clear hQ8
    refine holdP (then_p (finD_p _ (by simp [AV.pl, AV.plL]) rfl (by simp) ?_))
    unfold Caught
    refine J_seq ?_
    refine J_region (by kernel_rfl) ?_
    (try simp only [go_sem, Nat.reduceEqDiff, ↓reduceIte])
    refine hold2 (then_n ?_)
    refine J_condV rfl ?_
    (try simp only [go_sem, Nat.reduceEqDiff, ↓reduceIte])
    refine J_regionP (by kernel_rfl) ?_
    (try simp only [go_sem, Nat.reduceEqDiff, ↓reduceIte])
    obtain ⟨o12, hP, hQ11⟩ := bind_cases hP
    refine callP_n (call_join (fun (s : Unit) => .iface 121 .dead) (fun (s : Unit) => envL [(0, .bptr 0 0), (1, .bptr 2 0), (6, .agg [.int .i64 0, .str [], .sc (.slice none 0 0)]), (11, .bptr 0 0), (12, .bptr 2 0), (70, .fn 65 [.bptr 0 0, .bptr 2 0])]) (fun (s : Unit) => [.box 93 [.int .i64 0, .str [], .own 1 0 0 (List.length ([] : List ((List UInt8) × (List UInt8))))], .slice 0 126 2 (List.map enc_api_Field ([] : List ((List UInt8) × (List UInt8)))), .box 95 [.sc .nilIface]]) (fun s => s = o12) (callI_of (n := 15) (rs := [.tmp 2]) Tryz.func66 rfl (by decide) rfl rfl (by simp) rfl ?_) ?_)
    · clear hQ11
      refine J_seq ?_
      refine J_region (by kernel_rfl) ?_
      (try simp only [go_sem, Nat.reduceEqDiff, ↓reduceIte])
      refine hold2 (then_n ?_)
      refine J_seq ?_
      refine J_region (by kernel_rfl) ?_
      (try simp only [go_sem, Nat.reduceEqDiff, ↓reduceIte, Nat.reduceAdd, Nat.reduceSub, Nat.reduceLT, Nat.reduceMul, reduceCtorEq, Int.reduceToNat, Int.reduceLE, Int.reduceLT, Nat.reduceLeDiff])
      refine hold2 (then_n ?_)
      refine J_seq ?_
      refine J_seq ?_
      refine J_region (by kernel_rfl) ?_
      (try simp only [go_sem, Nat.reduceEqDiff, ↓reduceIte])
      refine hold2 (then_n ?_)
      refine J_condV rfl ?_
      (try simp only [go_sem, Nat.reduceEqDiff, ↓reduceIte])
      refine J_skip (then_n ?_)
      refine J_seq ?_
      refine J_region (by kernel_rfl) ?_
      (try simp only [go_sem, Nat.reduceEqDiff, ↓reduceIte])
      refine hold2 (then_n ?_)
      refine J_ret (finI_ret ?_)
      exact told_of ⟨(), Option.some.inj hP, sr [0, 1, 2]⟩
    · intro a11 hs
      subst hs
      have hP := hQ11
      clear hQ11
      (try simp only [go_sem, Nat.reduceEqDiff, ↓reduceIte])
      refine hold2 ?_
      refine finC_prom 126 2 (by decide) 0 2 _ _ rfl rfl ?_
      (try simp only [go_sem, Nat.reduceEqDiff, ↓reduceIte])
      refine finC_n ?_
      obtain rfl := Option.some.inj hP
      (try simp only [go_sem, Nat.reduceEqDiff, ↓reduceIte])
      exact fo [3]
end Go.Proofs.YtfhlehkgiamejaaGreatDoor
