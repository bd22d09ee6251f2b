/- Functions of the program, and pure ones that go the same ways: that the program's return what these compute. -/
import Derived.Test.YtbcmngnmfneeaaaDoorGCb
import Derived.Test.YtbcmngnmfneeaaaDoorGCc
import Derived.Test.YtbcmngnmfneeaaaDoorAvJ
namespace Go.Proofs.YtbcmngnmfneeaaaDoor
open Go.Av
set_option linter.unusedVariables false
set_option linter.unusedSimpArgs false
/-- colander/colanderlaw05.shown -/
def head_Reader_Take_L176 : Nat → Int → Bool → Int → (List (UInt8)) → Option (Sum (Int × Bool × Int × (List (UInt8))) (Bool × Int × (List (UInt8))))
  | 0, _, _, _, _ => none
  | k155 + 1, v151, l152, l153, l154 =>
    if decide (v151 < ((List.length [(bC 97), (bC 13), (bC 10), (bC 13), (bC 10), (bC 98)] : Nat) : Int)) then
      (ixL [(bC 97), (bC 13), (bC 10), (bC 13), (bC 10), (bC 98)] v151).bind fun x177 =>
      (show Option (Bool) from
        if l152 then
          some true
        else
          some (!decide (l153 = 0))).bind fun j179 =>
        if j179 then
          some (Sum.inl (v151, l152, l153, l154))
        else
          (show Option (Bool × Int) from
            (show Option (Bool) from
              if decide (0 < ((List.length l154 : Nat) : Int)) then
                (ixL l154 (isub .i64 ((List.length l154 : Nat) : Int) 1)).bind fun x190 =>
                some (decide (b2i x190 = b2i (bC 13)))
              else
                some false).bind fun j191 =>
              (szC (List.length (l154 ++ [x177] : List (UInt8)))).bind fun _ =>
              (slL (l154 ++ [x177]) (max 0 (isub .i64 ((List.length (l154 ++ [x177]) : Nat) : Int) 4)) ((List.length (l154 ++ [x177]) : Nat) : Int)).bind fun s193 =>
              if (decide (b2i x177 = b2i (bC 10))) != j191 then
                some (l152, 10)
              else
                (show Option (Bool) from
                  if decide (s193 = [13, 10]) then
                    some true
                  else
                    some (decide (s193 = [13, 10, 13, 10]))).bind fun j195 =>
                  if j195 then
                    some (true, l153)
                  else
                    if decide (((List.length (l154 ++ [x177]) : Nat) : Int) = 2048) then
                      some (l152, 17)
                    else
                      some (l152, l153)).bind fun a196 =>
            head_Reader_Take_L176 k155 (iadd .i64 v151 1) a196.1 a196.2 (l154 ++ [x177])
    else
      some (Sum.inr (l152, l153, l154))
def law05_shown : Option (Bool) :=
  (head_Request [71, 69, 84, 32, 47, 97, 32, 72, 84, 84, 80, 47, 49, 46, 49, 13, 10, 72, 111, 115, 116, 58, 32, 120, 58, 56, 48, 13, 10, 65, 58, 32, 98, 32, 13, 10, 13, 10]).bind fun r1 =>
  (head_Response [72, 84, 84, 80, 47, 49, 46, 49, 32, 50, 48, 48, 32, 13, 10, 13, 10]).bind fun r2 =>
  (show Option (Unit) from
    some ()).bind fun a3 =>
    (show Option (Bool) from
      if !r1.2 then
        some true
      else
        if !r2.2 then
          some true
        else
          if !decide (((List.length r1.1.2.2 : Nat) : Int) = 2) then
            some true
          else
            some (!decide (r2.1.1 = 200))).bind fun j6 =>
      if j6 then
        some false
      else
        (ixL r1.1.2.2 1).bind fun x7 =>
        if (decide (x7.1 = [65]) && decide (x7.2 = [98])) then
          (show Option (Int × Bool × Int × (List (UInt8))) from
            (head_Reader_Take_L176  1099511627776 0 false 0 ([] : List UInt8)).bind fun o198 => match o198 with
            | Sum.inl r => some r
            | Sum.inr j199 =>
              some (((List.length [(bC 97), (bC 13), (bC 10), (bC 13), (bC 10), (bC 98)] : Nat) : Int), j199.1, j199.2.1, j199.2.2)).bind fun a200 =>
            if decide (a200.1 = 5) then
              (show Option (Unit) from
                some ()).bind fun a202 =>
                some a200.2.1
            else
              some false
        else
          some false
set_option maxRecDepth 100000 in
set_option maxHeartbeats 40000000 in
theorem law05_shown_ok {r : Bool} (hP : law05_shown = some r) : CallOK Tryd.prog 5 [] (.bool r) [] := by
  unfold law05_shown at hP
  refine co 53 [.tmp 0] Tryd.func5 ?_
  refine J_seq ?_
  refine J_region (by kernel_rfl) ?_
  (try simp only [go_sem, Nat.reduceEqDiff, reduceIte])
  refine hold2 (then_n ?_)
  refine J_seq ?_
  refine J_region (by kernel_rfl) ?_
  (try simp only [go_sem, Nat.reduceEqDiff, reduceIte])
  obtain ⟨r1, hr1, hP⟩ := bind_cases hP
  refine call_ok [.str [71, 69, 84, 32, 47, 97, 32, 72, 84, 84, 80, 47, 49, 46, 49, 13, 10, 72, 111, 115, 116, 58, 32, 120, 58, 56, 48, 13, 10, 65, 58, 32, 98, 32, 13, 10, 13, 10]] (head_Request_ok hr1) ⟨argR_m false rfl, trivial⟩ ?_
  (try simp only [go_sem, Nat.reduceEqDiff, reduceIte])
  refine hold2 (then_n ?_)
  refine J_seq ?_
  refine J_region (by kernel_rfl) ?_
  (try simp only [go_sem, Nat.reduceEqDiff, reduceIte])
  obtain ⟨r2, hr2, hP⟩ := bind_cases hP
  refine call_ok [.str [72, 84, 84, 80, 47, 49, 46, 49, 32, 50, 48, 48, 32, 13, 10, 13, 10]] (head_Response_ok hr2) ⟨argR_m false rfl, trivial⟩ ?_
  (try simp only [go_sem, Nat.reduceEqDiff, reduceIte])
  refine hold2 (then_n ?_)
  refine J_seq ?_
  refine J_region (by kernel_rfl) ?_
  (try simp only [go_sem, Nat.reduceEqDiff, reduceIte])
  obtain ⟨o4, hP, hQ3⟩ := bind_cases hP
  refine call_join (fun (s : Unit) => .bptr 4 0) (fun (s : Unit) => envL [(1, .bptr 0 0), (2, errA 74 r1.2), (3, .bptr 2 0), (4, errA 74 r2.2)]) (fun (s : Unit) => [.box 25 [.str r1.1.1, .str r1.1.2.1, .own 1 0 0 (List.length r1.1.2.2)], .slice 0 49 2 (List.map enc_api_Field r1.1.2.2), .box 45 [.int .i64 r2.1.1, .str r2.1.2.1, .own 3 0 0 (List.length r2.1.2.2)], .slice 0 49 2 (List.map enc_api_Field r2.1.2.2), .box 62 [.own 5 0 0 (List.length ([] : List UInt8)), .bool false, .int .i64 0], .slice 0 5 1 (List.map encB ([] : List UInt8))]) (fun s => s = o4) (callI_of (n := 3) (rs := [.tmp 0]) Tryd.func7 rfl (by decide) rfl rfl (by simp) rfl ?_) ?_
  · clear hQ3
    refine J_seq ?_
    refine J_region (by kernel_rfl) ?_
    (try simp only [go_sem, Nat.reduceEqDiff, reduceIte])
    refine hold2 (then_n ?_)
    refine J_seq ?_
    refine J_region (by kernel_rfl) ?_
    (try simp only [go_sem, Nat.reduceEqDiff, reduceIte])
    refine hold2 (then_n ?_)
    refine J_prom 5 1 (by decide) 4 0 _ _ rfl rfl ?_
    (try simp only [go_sem, Nat.reduceEqDiff, reduceIte])
    refine J_ret (finI_ret ?_)
    exact told_of ⟨(), Option.some.inj hP, sr [1, 0, 3, 2, 4, 5]⟩
  · intro a3 hs
    subst hs
    have hP := hQ3
    clear hQ3
    (try simp only [go_sem, Nat.reduceEqDiff, reduceIte])
    refine hold2 (then_n ?_)
    refine J_seq ?_
    obtain ⟨o5, hP, hQ5⟩ := bind_cases hP
    refine J_join (fun (s : Bool) => envL [(1, .bptr 0 0), (5, .bptr 2 0), (35, .bool s)]) (fun (s : Bool) => [.box 25 [.str r1.1.1, .str r1.1.2.1, .own 1 0 0 (List.length r1.1.2.2)], .slice 0 49 2 (List.map enc_api_Field r1.1.2.2), .box 62 [.own 3 0 0 (List.length ([] : List UInt8)), .bool false, .int .i64 0], .slice 0 5 1 (List.map encB ([] : List UInt8))]) (fun s => s = o5) ?_ ?_
    · clear hQ5
      refine J_region (by kernel_rfl) ?_
      (try simp only [go_sem, Nat.reduceEqDiff, reduceIte])
      rcases ite_cases hP with ⟨hc, hP⟩ | ⟨hc, hP⟩
      · refine guard_not hc ?_
        (try simp only [go_sem, Nat.reduceEqDiff, reduceIte])
        refine hold2 ?_
        exact join_n true (Option.some.inj hP) (so [0, 1, 4, 5])
      · refine guard_is hc ?_
        (try simp only [go_sem, Nat.reduceEqDiff, reduceIte])
        rcases ite_cases hP with ⟨hc, hP⟩ | ⟨hc, hP⟩
        · refine guard_not hc ?_
          (try simp only [go_sem, Nat.reduceEqDiff, reduceIte])
          refine hold2 ?_
          exact join_n true (Option.some.inj hP) (so [0, 1, 4, 5])
        · refine guard_is hc ?_
          (try simp only [go_sem, Nat.reduceEqDiff, reduceIte])
          rcases ite_cases hP with ⟨hc, hP⟩ | ⟨hc, hP⟩
          · refine guard_not hc ?_
            (try simp only [go_sem, Nat.reduceEqDiff, reduceIte])
            refine hold2 ?_
            exact join_n true (Option.some.inj hP) (so [0, 1, 4, 5])
          · refine guard_is hc ?_
            (try simp only [go_sem, Nat.reduceEqDiff, reduceIte])
            refine hold2 ?_
            exact join_n (!decide (r2.1.1 = 200)) (Option.some.inj hP) (so [0, 1, 4, 5])
    · intro j6 hs
      subst hs
      have hP := hQ5
      clear hQ5
      refine J_condV rfl ?_
      (try simp only [go_sem, Nat.reduceEqDiff, reduceIte])
      rcases ite_cases hP with ⟨hc, hP⟩ | ⟨hc, hP⟩
      · refine condV_t hc ?_
        refine J_seq ?_
        refine J_region (by kernel_rfl) ?_
        (try simp only [go_sem, Nat.reduceEqDiff, reduceIte])
        refine hold2 (then_n ?_)
        refine J_ret (then_ret (fin_ret ?_))
        obtain rfl := Option.some.inj hP
        (try simp only [go_sem, Nat.reduceEqDiff, reduceIte])
        exact fo []
      · refine condV_f hc ?_
        refine J_skip (then_n ?_)
        refine J_seq ?_
        refine J_region (by kernel_rfl) ?_
        (try simp only [go_sem, Nat.reduceEqDiff, reduceIte])
        obtain ⟨x7, hx7, hP⟩ := bind_cases hP
        refine ixO_of hx7 ?_
        (try simp only [go_sem, Nat.reduceEqDiff, reduceIte])
        refine getK_of (f := enc_api_Field) hx7 ?_
        (try simp only [go_sem, Nat.reduceEqDiff, reduceIte, Nat.reduceAdd, Nat.reduceSub, Nat.reduceLT, Nat.reduceMul, reduceCtorEq, Int.reduceToNat, Int.reduceLE, Int.reduceLT, Nat.reduceLeDiff])
        rcases ite_cases hP with ⟨hc, hP⟩ | ⟨hc, hP⟩
        · refine guard_is hc ?_
          (try simp only [go_sem, Nat.reduceEqDiff, reduceIte])
          obtain ⟨o201, hP, hQ200⟩ := bind_cases hP
          refine call_join (fun (s : Int × Bool × Int × (List (UInt8))) => .int .i64 s.1) (fun (s : Int × Bool × Int × (List (UInt8))) => envL [(5, .bptr 0 0), (42, .bool true)]) (fun (s : Int × Bool × Int × (List (UInt8))) => [.box 62 [.own 1 0 0 (List.length s.2.2.2), .bool s.2.1, .int .i64 s.2.2.1], .slice 0 5 1 (List.map encB s.2.2.2)]) (fun s => s = o201) (callI_of (n := 32) (rs := [.tmp 4]) Tryd.func8 rfl (by decide) rfl rfl (by simp) rfl ?_) ?_
          · clear hQ200
            refine J_seq ?_
            refine J_region (by kernel_rfl) ?_
            (try simp only [go_sem, Nat.reduceEqDiff, reduceIte])
            refine hold2 (then_n ?_)
            refine J_seq ?_
            refine J_seq ?_
            refine J_region (by kernel_rfl) ?_
            (try simp only [go_sem, Nat.reduceEqDiff, reduceIte, Nat.reduceAdd, Nat.reduceSub, Nat.reduceLT, Nat.reduceMul, reduceCtorEq, Int.reduceToNat, Int.reduceLE, Int.reduceLT, Nat.reduceLeDiff])
            refine hold2 (then_n ?_)
            obtain ⟨o198, hP, hQ176⟩ := bind_cases hP
            refine J_joinK (fun (s : Bool × Int × (List (UInt8))) => envL [(1, .own 0 0 0 (List.length [(bC 97), (bC 13), (bC 10), (bC 13), (bC 10), (bC 98)])), (37, .bptr 1 0), (74, .bool true)]) (fun (s : Bool × Int × (List (UInt8))) => [.slice 0 5 1 (List.map encB [(bC 97), (bC 13), (bC 10), (bC 13), (bC 10), (bC 98)]), .box 62 [.own 2 0 0 (List.length s.2.2), .bool s.1, .int .i64 s.2.1], .slice 0 5 1 (List.map encB s.2.2)]) (fun s => Sum.inr s = o198) (by repeat (first | exact subC_then | refine subC_block ?_)) ?_ ?_
            · refine J_block ?_
              refine J_loop (σ := Nat × Int × Bool × Int × (List (UInt8))) (fun (s : Nat × Int × Bool × Int × (List (UInt8))) => envL [(0, .bptr 0 0), (1, .own 2 0 0 (List.length [(bC 97), (bC 13), (bC 10), (bC 13), (bC 10), (bC 98)])), (7, .own 2 0 0 (List.length [(bC 97), (bC 13), (bC 10), (bC 13), (bC 10), (bC 98)])), (8, .int .i64 ((List.length [(bC 97), (bC 13), (bC 10), (bC 13), (bC 10), (bC 98)] : Nat) : Int)), (9, .int .i64 s.2.1), (37, .bptr 0 0), (74, .bool true)]) (fun (s : Nat × Int × Bool × Int × (List (UInt8))) => [.box 62 [.own 1 0 0 (List.length s.2.2.2.2), .bool s.2.2.1, .int .i64 s.2.2.2.1], .slice 0 5 1 (List.map encB s.2.2.2.2), .slice 0 5 1 (List.map encB [(bC 97), (bC 13), (bC 10), (bC 13), (bC 10), (bC 98)])]) (fun s => head_Reader_Take_L176  s.1 s.2.1 s.2.2.1 s.2.2.2.1 s.2.2.2.2 = some o198) (fun s => s.1) (1099511627776, 0, false, 0, ([] : List UInt8)) hP (so [2, 3, 4]) ?_
              rintro ⟨k155, v151, l152, l153, l154⟩ hP
              dsimp only at hP ⊢
              cases k155 with
              | zero => simp [head_Reader_Take_L176] at hP
              | succ k155 =>
                simp only [head_Reader_Take_L176] at hP
                refine J_seq ?_
                refine J_region (by kernel_rfl) ?_
                (try simp only [go_sem, Nat.reduceEqDiff, reduceIte])
                refine hold2 (then_n ?_)
                refine J_seq ?_
                refine J_condV rfl ?_
                (try simp only [go_sem, Nat.reduceEqDiff, reduceIte])
                rcases ite_cases hP with ⟨hc, hP⟩ | ⟨hc, hP⟩
                · refine condV_t hc ?_
                  refine J_skip (then_n ?_)
                  refine J_seq ?_
                  refine J_block ?_
                  refine J_seq ?_
                  refine J_region (by kernel_rfl) ?_
                  (try simp only [go_sem, Nat.reduceEqDiff, reduceIte])
                  obtain ⟨x177, hx177, hP⟩ := bind_cases hP
                  refine ixO_of hx177 ?_
                  (try simp only [go_sem, Nat.reduceEqDiff, reduceIte])
                  refine getK_of (f := encB) hx177 ?_
                  (try simp only [go_sem, Nat.reduceEqDiff, reduceIte])
                  refine hold2 (then_n ?_)
                  refine J_seq ?_
                  obtain ⟨o178, hP, hQ178⟩ := bind_cases hP
                  refine J_join (fun (s : Bool) => envL [(0, .bptr 0 0), (1, .own 2 0 0 (List.length [(bC 97), (bC 13), (bC 10), (bC 13), (bC 10), (bC 98)])), (5, .int .i64 v151), (6, .int .u8 (b2i x177)), (7, .own 2 0 0 (List.length [(bC 97), (bC 13), (bC 10), (bC 13), (bC 10), (bC 98)])), (8, .int .i64 ((List.length [(bC 97), (bC 13), (bC 10), (bC 13), (bC 10), (bC 98)] : Nat) : Int)), (9, .int .i64 v151), (24, .bool s), (37, .bptr 0 0), (74, .bool true)]) (fun (s : Bool) => [.box 62 [.own 1 0 0 (List.length l154), .bool l152, .int .i64 l153], .slice 0 5 1 (List.map encB l154), .slice 0 5 1 (List.map encB [(bC 97), (bC 13), (bC 10), (bC 13), (bC 10), (bC 98)])]) (fun s => s = o178) ?_ ?_
                  · clear hQ178
                    refine J_region (by kernel_rfl) ?_
                    (try simp only [go_sem, Nat.reduceEqDiff, reduceIte])
                    rcases ite_cases hP with ⟨hc, hP⟩ | ⟨hc, hP⟩
                    · refine guard_not hc ?_
                      (try simp only [go_sem, Nat.reduceEqDiff, reduceIte])
                      refine hold2 ?_
                      exact join_n true (Option.some.inj hP) (so [0, 1, 2])
                    · refine guard_is hc ?_
                      (try simp only [go_sem, Nat.reduceEqDiff, reduceIte])
                      refine hold2 ?_
                      exact join_n (!decide (l153 = 0)) (Option.some.inj hP) (so [0, 1, 2])
                  · intro j179 hs
                    subst hs
                    have hP := hQ178
                    clear hQ178
                    refine J_condV rfl ?_
                    (try simp only [go_sem, Nat.reduceEqDiff, reduceIte])
                    rcases ite_cases hP with ⟨hc, hP⟩ | ⟨hc, hP⟩
                    · refine condV_t hc ?_
                      refine J_seq ?_
                      refine J_region (by kernel_rfl) ?_
                      (try simp only [go_sem, Nat.reduceEqDiff, reduceIte])
                      refine hold2 (then_n ?_)
                      refine J_ret (then_ret (block_ret (then_ret (loop_ret (block_ret (join_ret (then_ret (finI_ret ?_))))))))
                      obtain rfl := Option.some.inj hP
                      have hP := hQ176
                      dsimp only at hP
                      exact told_of ⟨(v151, l152, l153, l154), Option.some.inj hP, sr [0, 1]⟩
                    · refine condV_f hc ?_
                      refine J_skip (then_n ?_)
                      refine J_region (by kernel_rfl) ?_
                      (try simp only [go_sem, Nat.reduceEqDiff, reduceIte])
                      obtain ⟨o197, hP, hQ196⟩ := bind_cases hP
                      refine call_join (fun (s : Bool × Int) => .tup []) (fun (s : Bool × Int) => envL [(0, .bptr 0 0), (1, .own 2 0 0 (List.length [(bC 97), (bC 13), (bC 10), (bC 13), (bC 10), (bC 98)])), (7, .own 2 0 0 (List.length [(bC 97), (bC 13), (bC 10), (bC 13), (bC 10), (bC 98)])), (8, .int .i64 ((List.length [(bC 97), (bC 13), (bC 10), (bC 13), (bC 10), (bC 98)] : Nat) : Int)), (9, .int .i64 v151), (37, .bptr 0 0), (74, .bool true)]) (fun (s : Bool × Int) => [.box 62 [.own 1 0 0 (List.length (l154 ++ [x177])), .bool s.1, .int .i64 s.2], .slice 0 5 1 (List.map encB (l154 ++ [x177])), .slice 0 5 1 (List.map encB [(bC 97), (bC 13), (bC 10), (bC 13), (bC 10), (bC 98)])]) (fun s => s = o197) (callI_of (n := 78) (rs := []) Tryd.func24 rfl (by decide) rfl rfl (by simp) rfl ?_) ?_
                      · clear hQ196
                        obtain ⟨o189, hP, hQ189⟩ := bind_cases hP
                        refine J_join (fun (s : Bool) => envL [(0, .bptr 0 0), (1, .int .u8 (b2i x177)), (4, .bool s), (78, .bptr 0 0), (79, .own 2 0 0 (List.length [(bC 97), (bC 13), (bC 10), (bC 13), (bC 10), (bC 98)])), (85, .own 2 0 0 (List.length [(bC 97), (bC 13), (bC 10), (bC 13), (bC 10), (bC 98)])), (86, .int .i64 ((List.length [(bC 97), (bC 13), (bC 10), (bC 13), (bC 10), (bC 98)] : Nat) : Int)), (87, .int .i64 v151), (115, .bptr 0 0), (152, .bool true)]) (fun (s : Bool) => [.box 62 [.own 1 0 0 (List.length l154), .bool l152, .int .i64 l153], .slice 0 5 1 (List.map encB l154), .slice 0 5 1 (List.map encB [(bC 97), (bC 13), (bC 10), (bC 13), (bC 10), (bC 98)])]) (fun s => s = o189) ?_ ?_
                        · clear hQ189
                          refine J_regionq follows_mixed (by kernel_rfl) (by kernel_rfl) ?_
                          (try simp only [go_sem, Nat.reduceEqDiff, reduceIte, Nat.reduceAdd, Nat.reduceSub, Nat.reduceLT, Nat.reduceMul, reduceCtorEq, Int.reduceToNat, Int.reduceLE, Int.reduceLT, Nat.reduceLeDiff])
                          rcases ite_cases hP with ⟨hc, hP⟩ | ⟨hc, hP⟩
                          · refine guard_is hc ?_
                            (try simp only [go_sem, Nat.reduceEqDiff, reduceIte, Nat.reduceAdd, Nat.reduceSub, Nat.reduceLT, Nat.reduceMul, reduceCtorEq, Int.reduceToNat, Int.reduceLE, Int.reduceLT, Nat.reduceLeDiff])
                            obtain ⟨x190, hx190, hP⟩ := bind_cases hP
                            refine ixO_of hx190 ?_
                            (try simp only [go_sem, Nat.reduceEqDiff, reduceIte])
                            refine getK_of (f := encB) hx190 ?_
                            (try simp only [go_sem, Nat.reduceEqDiff, reduceIte, Nat.reduceAdd, Nat.reduceSub, Nat.reduceLT, Nat.reduceMul, reduceCtorEq, Int.reduceToNat, Int.reduceLE, Int.reduceLT, Nat.reduceLeDiff])
                            refine hold2 ?_
                            exact join_n (decide (b2i x190 = b2i (bC 13))) (Option.some.inj hP) (so [0, 1, 2])
                          · refine guard_not hc ?_
                            (try simp only [go_sem, Nat.reduceEqDiff, reduceIte])
                            refine hold2 ?_
                            exact join_n false (Option.some.inj hP) (so [0, 1, 2])
                        · intro j191 hs
                          subst hs
                          have hP := hQ189
                          clear hQ189
                          refine J_seq ?_
                          refine J_region (by kernel_rfl) ?_
                          (try simp only [go_sem, Nat.reduceEqDiff, reduceIte])
                          obtain ⟨_, hz192, hP⟩ := bind_cases hP
                          refine app_own (f := encB) (l154 : List (UInt8)) ([x177] : List (UInt8)) rfl tyS_39 (by decide) (by simp only [go_sem, Nat.reduceEqDiff, reduceIte]; first | done | rfl | exact ⟨rfl, rfl⟩) hz192 ?_
                          (try simp only [go_sem, Nat.reduceEqDiff, reduceIte, Nat.reduceAdd, Nat.reduceSub, Nat.reduceLT, Nat.reduceMul, reduceCtorEq, Int.reduceToNat, Int.reduceLE, Int.reduceLT, Nat.reduceLeDiff])
                          refine hold2 (then_n ?_)
                          refine J_seq ?_
                          refine J_regionq follows_mixed (by kernel_rfl) (by kernel_rfl) ?_
                          (try simp only [go_sem, Nat.reduceEqDiff, reduceIte])
                          obtain ⟨s193, hs193, hP⟩ := bind_cases hP
                          refine slO_of hs193 ?_
                          (try simp only [go_sem, Nat.reduceEqDiff, reduceIte])
                          simp only [own_cut hs193, go_sem, Nat.reduceEqDiff, reduceIte]
                          first | refine bytesK_map ?_ | refine bytesK_of s193 rfl ?_
                          (try simp only [go_sem, Nat.reduceEqDiff, reduceIte])
                          refine hold2 (then_n ?_)
                          refine J_block ?_
                          refine J_seq ?_
                          refine J_region (by kernel_rfl) ?_
                          (try simp only [go_sem, Nat.reduceEqDiff, reduceIte])
                          refine hold2 (then_n ?_)
                          refine J_condV rfl ?_
                          (try simp only [go_sem, Nat.reduceEqDiff, reduceIte])
                          rcases ite_cases hP with ⟨hc, hP⟩ | ⟨hc, hP⟩
                          · refine condV_t hc ?_
                            refine J_region (by kernel_rfl) ?_
                            (try simp only [go_sem, Nat.reduceEqDiff, reduceIte])
                            refine hold2 (block_n (finI_n ?_))
                            exact told_of ⟨(l152, 10), Option.some.inj hP, sr [0, 1, 2]⟩
                          · refine condV_f hc ?_
                            obtain ⟨o194, hP, hQ194⟩ := bind_cases hP
                            refine J_join (fun (s : Bool) => envL [(0, .bptr 0 0), (58, .bool s), (78, .bptr 0 0), (79, .own 2 0 0 (List.length [(bC 97), (bC 13), (bC 10), (bC 13), (bC 10), (bC 98)])), (85, .own 2 0 0 (List.length [(bC 97), (bC 13), (bC 10), (bC 13), (bC 10), (bC 98)])), (86, .int .i64 ((List.length [(bC 97), (bC 13), (bC 10), (bC 13), (bC 10), (bC 98)] : Nat) : Int)), (87, .int .i64 v151), (115, .bptr 0 0), (152, .bool true)]) (fun (s : Bool) => [.box 62 [.own 1 0 0 (List.length (l154 ++ [x177])), .bool l152, .int .i64 l153], .slice 0 5 1 (List.map encB (l154 ++ [x177])), .slice 0 5 1 (List.map encB [(bC 97), (bC 13), (bC 10), (bC 13), (bC 10), (bC 98)])]) (fun s => s = o194) ?_ ?_
                            · clear hQ194
                              refine J_region (by kernel_rfl) ?_
                              (try simp only [go_sem, Nat.reduceEqDiff, reduceIte])
                              rcases ite_cases hP with ⟨hc, hP⟩ | ⟨hc, hP⟩
                              · refine guard_not hc ?_
                                (try simp only [go_sem, Nat.reduceEqDiff, reduceIte])
                                refine hold2 ?_
                                exact join_n true (Option.some.inj hP) (so [0, 1, 2])
                              · refine guard_is hc ?_
                                (try simp only [go_sem, Nat.reduceEqDiff, reduceIte])
                                refine hold2 ?_
                                exact join_n (decide (s193 = [13, 10, 13, 10])) (Option.some.inj hP) (so [0, 1, 2])
                            · intro j195 hs
                              subst hs
                              have hP := hQ194
                              clear hQ194
                              refine J_condV rfl ?_
                              (try simp only [go_sem, Nat.reduceEqDiff, reduceIte])
                              rcases ite_cases hP with ⟨hc, hP⟩ | ⟨hc, hP⟩
                              · refine condV_t hc ?_
                                refine J_region (by kernel_rfl) ?_
                                (try simp only [go_sem, Nat.reduceEqDiff, reduceIte, Nat.reduceAdd, Nat.reduceSub, Nat.reduceLT, Nat.reduceMul, reduceCtorEq, Int.reduceToNat, Int.reduceLE, Int.reduceLT, Nat.reduceLeDiff])
                                refine hold2 (block_n (finI_n ?_))
                                exact told_of ⟨(true, l153), Option.some.inj hP, sr [0, 1, 2]⟩
                              · refine condV_f hc ?_
                                refine J_seq ?_
                                refine J_region (by kernel_rfl) ?_
                                (try simp only [go_sem, Nat.reduceEqDiff, reduceIte])
                                refine hold2 (then_n ?_)
                                refine J_condV rfl ?_
                                (try simp only [go_sem, Nat.reduceEqDiff, reduceIte])
                                rcases ite_cases hP with ⟨hc, hP⟩ | ⟨hc, hP⟩
                                · refine condV_t hc ?_
                                  refine J_region (by kernel_rfl) ?_
                                  (try simp only [go_sem, Nat.reduceEqDiff, reduceIte])
                                  refine hold2 (block_n (finI_n ?_))
                                  exact told_of ⟨(l152, 17), Option.some.inj hP, sr [0, 1, 2]⟩
                                · refine condV_f hc ?_
                                  refine J_skip (block_n (finI_n ?_))
                                  exact told_of ⟨(l152, l153), Option.some.inj hP, sr [0, 1, 2]⟩
                      · intro a196 hs
                        subst hs
                        have hP := hQ196
                        clear hQ196
                        (try simp only [go_sem, Nat.reduceEqDiff, reduceIte])
                        refine hold2 (block_n (then_n ?_))
                        refine J_region (by kernel_rfl) ?_
                        (try simp only [go_sem, Nat.reduceEqDiff, reduceIte])
                        refine hold2 ?_
                        exact loop_n (k155, iadd .i64 v151 1, a196.1, a196.2, l154 ++ [x177]) hP (Nat.lt_succ_self _) (so [0, 1, 2])
                · refine condV_f hc ?_
                  refine J_exit (then_exit (loop_exit (block_eq ?_)))
                  exact join_n (l152, l153, l154) (Option.some.inj hP) (so [2, 0, 1])
            · intro j199 hs
              subst hs
              have hP := hQ176
              dsimp only at hP
              clear hQ176
              refine then_n ?_
              refine J_seq ?_
              refine J_region (by kernel_rfl) ?_
              (try simp only [go_sem, Nat.reduceEqDiff, reduceIte])
              refine hold2 (then_n ?_)
              refine J_ret (finI_ret ?_)
              exact told_of ⟨(((List.length [(bC 97), (bC 13), (bC 10), (bC 13), (bC 10), (bC 98)] : Nat) : Int), j199.1, j199.2.1, j199.2.2), Option.some.inj hP, sr [1, 2]⟩
          · intro a200 hs
            subst hs
            have hP := hQ200
            clear hQ200
            (try simp only [go_sem, Nat.reduceEqDiff, reduceIte])
            rcases ite_cases hP with ⟨hc, hP⟩ | ⟨hc, hP⟩
            · refine guard_is hc ?_
              (try simp only [go_sem, Nat.reduceEqDiff, reduceIte])
              obtain ⟨o203, hP, hQ202⟩ := bind_cases hP
              refine call_join (fun (s : Unit) => .bool a200.2.1) (fun (s : Unit) => envL [(49, .bool true)]) (fun (s : Unit) => []) (fun s => s = o203) (callI_of (n := 7) (rs := [.tmp 2]) Tryd.func10 rfl (by decide) rfl rfl (by simp) rfl ?_) ?_
              · clear hQ202
                refine J_seq ?_
                refine J_region (by kernel_rfl) ?_
                (try simp only [go_sem, Nat.reduceEqDiff, reduceIte])
                refine hold2 (then_n ?_)
                refine J_seq ?_
                refine J_region (by kernel_rfl) ?_
                (try simp only [go_sem, Nat.reduceEqDiff, reduceIte])
                refine hold2 (then_n ?_)
                refine J_ret (finI_ret ?_)
                exact told_of ⟨(), Option.some.inj hP, sr []⟩
              · intro a202 hs
                subst hs
                have hP := hQ202
                clear hQ202
                (try simp only [go_sem, Nat.reduceEqDiff, reduceIte])
                refine hold2 (then_n ?_)
                refine J_ret (fin_ret ?_)
                obtain rfl := Option.some.inj hP
                (try simp only [go_sem, Nat.reduceEqDiff, reduceIte])
                exact fo []
            · refine guard_not hc ?_
              (try simp only [go_sem, Nat.reduceEqDiff, reduceIte])
              refine hold2 (then_n ?_)
              refine J_ret (fin_ret ?_)
              obtain rfl := Option.some.inj hP
              (try simp only [go_sem, Nat.reduceEqDiff, reduceIte, Nat.reduceAdd, Nat.reduceSub, Nat.reduceLT, Nat.reduceMul, reduceCtorEq, Int.reduceToNat, Int.reduceLE, Int.reduceLT, Nat.reduceLeDiff])
              exact fo []
        · refine guard_not hc ?_
          (try simp only [go_sem, Nat.reduceEqDiff, reduceIte])
          refine hold2 (then_n ?_)
          refine J_ret (fin_ret ?_)
          obtain rfl := Option.some.inj hP
          (try simp only [go_sem, Nat.reduceEqDiff, reduceIte])
          exact fo []
end Go.Proofs.YtbcmngnmfneeaaaDoor
