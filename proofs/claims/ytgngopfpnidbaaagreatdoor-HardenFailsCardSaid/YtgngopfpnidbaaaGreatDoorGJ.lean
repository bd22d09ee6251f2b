/- Functions of the program, and pure ones that go the same ways: that the program's return what these compute. -/
import Derived.Test.YtgngopfpnidbaaaGreatDoorGI
import Derived.Test.YtgngopfpnidbaaaGreatDoorAvY
import Derived.Test.YtgngopfpnidbaaaGreatDoorAvJ
namespace Go.Proofs.YtgngopfpnidbaaaGreatDoor
open Go.Av
set_option linter.unusedVariables false
set_option linter.unusedSimpArgs false
/-- colander/colanderref21.Kind -/
def ref21_Kind_L18 (r11 : (List (List UInt8)) × Int) : Nat → Int → Option (Sum (Bool × (List UInt8) × Int) (Unit))
  | 0, _ => none
  | k16 + 1, i15 =>
    if decide (i15 < ((List.length r11.1 : Nat) : Int)) then
      (ixL r11.1 i15).bind fun x19 =>
      (ref03_Same x19 [105, 100, 101, 110, 116, 105, 116, 121]).bind fun r20 =>
      if !r20 then
        some (Sum.inl (false, [], 25))
      else
        ref21_Kind_L18 r11 k16 (iadd .i64 i15 1)
    else
      some (Sum.inr ())
def ref21_Kind_L29 (r4 : ((List UInt8) × (List UInt8) × (List ((List UInt8) × (List UInt8)))) × Int) : Nat → Int → Option (Sum (Bool × (List UInt8) × Int) (Unit))
  | 0, _ => none
  | k27 + 1, i26 =>
    if decide (i26 < ((List.length r4.1.2.2 : Nat) : Int)) then
      (ixL r4.1.2.2 i26).bind fun x30 =>
      if decide (x30.1 = [99, 104, 97, 114, 115, 101, 116]) then
        (ixL r4.1.2.2 i26).bind fun x31 =>
        some (Sum.inl (true, x31.2, 0))
      else
        ref21_Kind_L29 r4 k27 (iadd .i64 i26 1)
    else
      some (Sum.inr ())
def ref21_Kind (p1 : Int × (List UInt8) × (List ((List UInt8) × (List UInt8)))) : Option (Bool × (List UInt8) × Int) :=
  (ref04_All p1.2.2 [99, 111, 110, 116, 101, 110, 116, 45, 116, 121, 112, 101]).bind fun r2 =>
  if decide (((List.length r2 : Nat) : Int) = 0) then
    some (false, [], 0)
  else
    if decide (1 < ((List.length r2 : Nat) : Int)) then
      some (false, [], 6)
    else
      (ixL r2 0).bind fun x3 =>
      (ref03_Media x3).bind fun r4 =>
      (show Option (Bool) from
        if !decide (r4.2 = 0) then
          some true
        else
          if decide (r4.1.2.1 = [120, 109, 108]) then
            some true
          else
            if decide (4 ≤ (List.length r4.1.2.1 : Int)) then
              (slL r4.1.2.1 (isub .i64 (List.length r4.1.2.1 : Int) 4) (List.length r4.1.2.1 : Int)).bind fun s7 =>
              some (decide (s7 = [43, 120, 109, 108]))
            else
              some false).bind fun j8 =>
        if j8 then
          some (false, [], 6)
        else
          (show Option (Bool) from
            if !decide (r4.1.1 = [116, 101, 120, 116]) then
              some true
            else
              some (!decide (r4.1.2.1 = [104, 116, 109, 108]))).bind fun j10 =>
            if j10 then
              some (false, [], 0)
            else
              (ref04_Members p1.2.2 [99, 111, 110, 116, 101, 110, 116, 45, 101, 110, 99, 111, 100, 105, 110, 103]).bind fun r11 =>
              if !decide (r11.2 = 0) then
                some (false, [], 25)
              else
                (ref21_Kind_L18 r11 1099511627776 0).bind fun o21 => match o21 with
                | Sum.inl r => some r
                | Sum.inr j22 =>
                  (ref21_Kind_L29 r4 1099511627776 0).bind fun o32 => match o32 with
                  | Sum.inl r => some r
                  | Sum.inr j33 =>
                    some (true, [], 0)
set_option maxRecDepth 100000 in
set_option maxHeartbeats 40000000 in
theorem ref21_Kind_ok {p1 : Int × (List UInt8) × (List ((List UInt8) × (List UInt8)))} {r : Bool × (List UInt8) × Int} (hP : ref21_Kind p1 = some r) : CallOK Tryz.prog 10 [.agg [.int .i64 p1.1, .str p1.2.1, .view 2 (List.map enc_api_Field p1.2.2)]] (.tup [.bool r.1, .str r.2.1, .int .i64 r.2.2]) [] := by
  unfold ref21_Kind at hP
  refine co 100 [.tmp 2, .tmp 3, .tmp 4] Tryz.func10 ?_
  refine J_seq ?_
  refine J_region (by kernel_rfl) ?_
  (try simp only [go_sem, Nat.reduceEqDiff, reduceIte])
  refine hold2 (then_n ?_)
  refine J_seq ?_
  refine J_region (by kernel_rfl) ?_
  (try simp only [go_sem, Nat.reduceEqDiff, reduceIte])
  obtain ⟨r2, hr2, hP⟩ := bind_cases hP
  refine call_ok [.view 2 (List.map enc_api_Field p1.2.2), .str [99, 111, 110, 116, 101, 110, 116, 45, 116, 121, 112, 101]] (ref04_All_ok hr2) ⟨argR_m false rfl, argR_m false rfl, trivial⟩ ?_
  (try simp only [go_sem, Nat.reduceEqDiff, reduceIte])
  refine hold2 (then_n ?_)
  refine J_seq ?_
  refine J_seq ?_
  refine J_region (by kernel_rfl) ?_
  (try simp only [go_sem, Nat.reduceEqDiff, reduceIte])
  refine hold2 (then_n ?_)
  refine J_condV rfl ?_
  (try simp only [go_sem, Nat.reduceEqDiff, reduceIte])
  rcases ite_cases hP with ⟨hc, hP⟩ | ⟨hc, hP⟩
  · refine condV_t hc ?_
    refine J_seq ?_
    refine J_region (by kernel_rfl) ?_
    (try simp only [go_sem, Nat.reduceEqDiff, reduceIte])
    refine hold2 (then_n ?_)
    refine J_ret (then_ret (fin_ret ?_))
    obtain rfl := Option.some.inj hP
    (try simp only [go_sem, Nat.reduceEqDiff, reduceIte])
    exact fo []
  · refine condV_f hc ?_
    refine J_skip (then_n ?_)
    refine J_seq ?_
    refine J_seq ?_
    refine J_region (by kernel_rfl) ?_
    (try simp only [go_sem, Nat.reduceEqDiff, reduceIte])
    refine hold2 (then_n ?_)
    refine J_condV rfl ?_
    (try simp only [go_sem, Nat.reduceEqDiff, reduceIte])
    rcases ite_cases hP with ⟨hc, hP⟩ | ⟨hc, hP⟩
    · refine condV_t hc ?_
      refine J_seq ?_
      refine J_region (by kernel_rfl) ?_
      (try simp only [go_sem, Nat.reduceEqDiff, reduceIte])
      refine hold2 (then_n ?_)
      refine J_ret (then_ret (fin_ret ?_))
      obtain rfl := Option.some.inj hP
      (try simp only [go_sem, Nat.reduceEqDiff, reduceIte])
      exact fo []
    · refine condV_f hc ?_
      refine J_skip (then_n ?_)
      refine J_seq ?_
      refine J_region (by kernel_rfl) ?_
      (try simp only [go_sem, Nat.reduceEqDiff, reduceIte])
      obtain ⟨x3, hx3, hP⟩ := bind_cases hP
      refine ixO_of hx3 ?_
      (try simp only [go_sem, Nat.reduceEqDiff, reduceIte])
      refine getK_of (f := encS) hx3 ?_
      (try simp only [go_sem, Nat.reduceEqDiff, reduceIte])
      obtain ⟨r4, hr4, hP⟩ := bind_cases hP
      refine call_ok [.str x3] (ref03_Media_ok hr4) ⟨argR_m false rfl, trivial⟩ ?_
      (try simp only [go_sem, Nat.reduceEqDiff, reduceIte])
      refine hold2 (then_n ?_)
      refine J_seq ?_
      obtain ⟨o6, hP, hQ6⟩ := bind_cases hP
      refine J_join (fun (s : Bool) => envL [(1, .bptr 0 0), (6, .bptr 1 0), (50, .bool s)]) (fun (s : Bool) => [.box 24 [.int .i64 p1.1, .str p1.2.1, .view 2 (List.map enc_api_Field p1.2.2)], .box 65 [.str r4.1.1, .str r4.1.2.1, .own 2 0 0 (List.length r4.1.2.2)], .slice 0 74 2 (List.map enc_api_Param r4.1.2.2)]) (fun s => s = o6) ?_ ?_
      · clear hQ6
        refine J_region (by kernel_rfl) ?_
        (try simp only [go_sem, Nat.reduceEqDiff, reduceIte])
        rcases ite_cases hP with ⟨hc, hP⟩ | ⟨hc, hP⟩
        · refine guard_not hc ?_
          (try simp only [go_sem, Nat.reduceEqDiff, reduceIte])
          refine hold2 ?_
          exact join_n true (Option.some.inj hP) (so [0, 3, 2])
        · refine guard_is hc ?_
          (try simp only [go_sem, Nat.reduceEqDiff, reduceIte])
          rcases ite_cases hP with ⟨hc, hP⟩ | ⟨hc, hP⟩
          · refine guard_not hc ?_
            (try simp only [go_sem, Nat.reduceEqDiff, reduceIte])
            refine hold2 ?_
            exact join_n true (Option.some.inj hP) (so [0, 3, 2])
          · refine guard_is hc ?_
            (try simp only [go_sem, Nat.reduceEqDiff, reduceIte])
            rcases ite_cases hP with ⟨hc, hP⟩ | ⟨hc, hP⟩
            · refine guard_is hc ?_
              (try simp only [go_sem, Nat.reduceEqDiff, reduceIte])
              obtain ⟨s7, hs7, hP⟩ := bind_cases hP
              refine slS_of hs7 ?_
              (try simp only [go_sem, Nat.reduceEqDiff, reduceIte])
              refine hold2 ?_
              exact join_n (decide (s7 = [43, 120, 109, 108])) (Option.some.inj hP) (so [0, 3, 2])
            · refine guard_not hc ?_
              (try simp only [go_sem, Nat.reduceEqDiff, reduceIte])
              refine hold2 ?_
              exact join_n false (Option.some.inj hP) (so [0, 3, 2])
      · intro j8 hs
        subst hs
        have hP := hQ6
        clear hQ6
        refine J_condV rfl ?_
        (try simp only [go_sem, Nat.reduceEqDiff, reduceIte])
        rcases ite_cases hP with ⟨hc, hP⟩ | ⟨hc, hP⟩
        · refine condV_t hc ?_
          refine J_seq ?_
          refine J_region (by kernel_rfl) ?_
          (try simp only [go_sem, Nat.reduceEqDiff, reduceIte])
          refine hold2 (then_n ?_)
          refine J_ret (then_ret (fin_ret ?_))
          obtain rfl := Option.some.inj hP
          (try simp only [go_sem, Nat.reduceEqDiff, reduceIte])
          exact fo []
        · refine condV_f hc ?_
          refine J_skip (then_n ?_)
          refine J_seq ?_
          obtain ⟨o9, hP, hQ9⟩ := bind_cases hP
          refine J_join (fun (s : Bool) => envL [(1, .bptr 0 0), (6, .bptr 1 0), (58, .bool s)]) (fun (s : Bool) => [.box 24 [.int .i64 p1.1, .str p1.2.1, .view 2 (List.map enc_api_Field p1.2.2)], .box 65 [.str r4.1.1, .str r4.1.2.1, .own 2 0 0 (List.length r4.1.2.2)], .slice 0 74 2 (List.map enc_api_Param r4.1.2.2)]) (fun s => s = o9) ?_ ?_
          · clear hQ9
            refine J_region (by kernel_rfl) ?_
            (try simp only [go_sem, Nat.reduceEqDiff, reduceIte])
            rcases ite_cases hP with ⟨hc, hP⟩ | ⟨hc, hP⟩
            · refine guard_not hc ?_
              (try simp only [go_sem, Nat.reduceEqDiff, reduceIte])
              refine hold2 ?_
              exact join_n true (Option.some.inj hP) (so [0, 1, 2])
            · refine guard_is hc ?_
              (try simp only [go_sem, Nat.reduceEqDiff, reduceIte])
              refine hold2 ?_
              exact join_n (!decide (r4.1.2.1 = [104, 116, 109, 108])) (Option.some.inj hP) (so [0, 1, 2])
          · intro j10 hs
            subst hs
            have hP := hQ9
            clear hQ9
            refine J_condV rfl ?_
            (try simp only [go_sem, Nat.reduceEqDiff, reduceIte])
            rcases ite_cases hP with ⟨hc, hP⟩ | ⟨hc, hP⟩
            · refine condV_t hc ?_
              refine J_seq ?_
              refine J_region (by kernel_rfl) ?_
              (try simp only [go_sem, Nat.reduceEqDiff, reduceIte])
              refine hold2 (then_n ?_)
              refine J_ret (then_ret (fin_ret ?_))
              obtain rfl := Option.some.inj hP
              (try simp only [go_sem, Nat.reduceEqDiff, reduceIte])
              exact fo []
            · refine condV_f hc ?_
              refine J_skip (then_n ?_)
              refine J_seq ?_
              refine J_region (by kernel_rfl) ?_
              (try simp only [go_sem, Nat.reduceEqDiff, reduceIte])
              obtain ⟨r11, hr11, hP⟩ := bind_cases hP
              refine call_ok [.view 2 (List.map enc_api_Field p1.2.2), .str [99, 111, 110, 116, 101, 110, 116, 45, 101, 110, 99, 111, 100, 105, 110, 103]] (ref04_Members_ok hr11) ⟨argR_m false rfl, argR_m false rfl, trivial⟩ ?_
              (try simp only [go_sem, Nat.reduceEqDiff, reduceIte])
              refine hold2 (then_n ?_)
              refine J_seq ?_
              refine J_seq ?_
              refine J_region (by kernel_rfl) ?_
              (try simp only [go_sem, Nat.reduceEqDiff, reduceIte])
              refine hold2 (then_n ?_)
              refine J_condV rfl ?_
              (try simp only [go_sem, Nat.reduceEqDiff, reduceIte])
              rcases ite_cases hP with ⟨hc, hP⟩ | ⟨hc, hP⟩
              · refine condV_t hc ?_
                refine J_seq ?_
                refine J_region (by kernel_rfl) ?_
                (try simp only [go_sem, Nat.reduceEqDiff, reduceIte])
                refine hold2 (then_n ?_)
                refine J_ret (then_ret (fin_ret ?_))
                obtain rfl := Option.some.inj hP
                (try simp only [go_sem, Nat.reduceEqDiff, reduceIte])
                exact fo []
              · refine condV_f hc ?_
                refine J_skip (then_n ?_)
                refine J_seq ?_
                refine J_seq ?_
                refine J_region (by kernel_rfl) ?_
                (try simp only [go_sem, Nat.reduceEqDiff, reduceIte])
                refine hold2 (then_n ?_)
                obtain ⟨o21, hP, hQ18⟩ := bind_cases hP
                refine J_joinK (fun (s : Unit) => envL [(6, .bptr 0 0)]) (fun (s : Unit) => [.box 65 [.str r4.1.1, .str r4.1.2.1, .own 1 0 0 (List.length r4.1.2.2)], .slice 0 74 2 (List.map enc_api_Param r4.1.2.2)]) (fun s => Sum.inr s = o21) (by repeat (first | exact subC_then | refine subC_block ?_)) ?_ ?_
                · refine J_block ?_
                  refine J_loop (σ := Nat × Int) (fun (s : Nat × Int) => envL [(6, .bptr 0 0), (8, .own 2 0 0 (List.length r11.1)), (9, .int .i64 s.2)]) (fun (s : Nat × Int) => [.box 65 [.str r4.1.1, .str r4.1.2.1, .own 1 0 0 (List.length r4.1.2.2)], .slice 0 74 2 (List.map enc_api_Param r4.1.2.2), .slice 0 9 1 (List.map encS r11.1)]) (fun s => ref21_Kind_L18 r11 s.1 s.2 = some o21) (fun s => s.1) (1099511627776, 0) hP (so [1, 2, 3]) ?_
                  rintro ⟨k16, i15⟩ hP
                  dsimp only at hP ⊢
                  cases k16 with
                  | zero => simp [ref21_Kind_L18] at hP
                  | succ k16 =>
                    simp only [ref21_Kind_L18] at hP
                    refine J_seq ?_
                    refine J_seq ?_
                    refine J_region (by kernel_rfl) ?_
                    (try simp only [go_sem, Nat.reduceEqDiff, reduceIte])
                    refine hold2 (then_n ?_)
                    refine J_condV rfl ?_
                    (try simp only [go_sem, Nat.reduceEqDiff, reduceIte])
                    rcases ite_cases hP with ⟨hc, hP⟩ | ⟨hc, hP⟩
                    · refine condV_t hc ?_
                      refine J_skip (then_n ?_)
                      refine J_seq ?_
                      refine J_block ?_
                      refine J_seq ?_
                      refine J_region (by kernel_rfl) ?_
                      (try simp only [go_sem, Nat.reduceEqDiff, reduceIte])
                      obtain ⟨x19, hx19, hP⟩ := bind_cases hP
                      refine ixO_of hx19 ?_
                      (try simp only [go_sem, Nat.reduceEqDiff, reduceIte])
                      refine getK_of (f := encS) hx19 ?_
                      (try simp only [go_sem, Nat.reduceEqDiff, reduceIte])
                      obtain ⟨r20, hr20, hP⟩ := bind_cases hP
                      refine call_ok [.str x19, .str [105, 100, 101, 110, 116, 105, 116, 121]] (ref03_Same_ok hr20) ⟨argR_m false rfl, argR_m false rfl, trivial⟩ ?_
                      (try simp only [go_sem, Nat.reduceEqDiff, reduceIte])
                      refine hold2 (then_n ?_)
                      refine J_seq ?_
                      refine J_region (by kernel_rfl) ?_
                      (try simp only [go_sem, Nat.reduceEqDiff, reduceIte])
                      refine hold2 (then_n ?_)
                      refine J_condV rfl ?_
                      (try simp only [go_sem, Nat.reduceEqDiff, reduceIte])
                      rcases ite_cases hP with ⟨hc, hP⟩ | ⟨hc, hP⟩
                      · refine condV_t hc ?_
                        refine J_seq ?_
                        refine J_region (by kernel_rfl) ?_
                        (try simp only [go_sem, Nat.reduceEqDiff, reduceIte])
                        refine hold2 (then_n ?_)
                        refine J_ret (block_ret (then_ret (loop_ret (block_ret (join_ret (then_ret (fin_ret ?_)))))))
                        obtain rfl := Option.some.inj hP
                        have hP := hQ18
                        dsimp only at hP
                        obtain rfl := Option.some.inj hP
                        (try simp only [go_sem, Nat.reduceEqDiff, reduceIte])
                        exact fo []
                      · refine condV_f hc ?_
                        refine J_skip (block_n (then_n ?_))
                        refine J_region (by kernel_rfl) ?_
                        (try simp only [go_sem, Nat.reduceEqDiff, reduceIte])
                        refine hold2 ?_
                        exact loop_n (k16, iadd .i64 i15 1) hP (Nat.lt_succ_self _) (so [0, 1, 2])
                    · refine condV_f hc ?_
                      refine J_exit (then_exit (loop_exit (block_eq ?_)))
                      exact join_n () (Option.some.inj hP) (so [0, 1])
                · intro j22 hs
                  subst hs
                  have hP := hQ18
                  dsimp only at hP
                  clear hQ18
                  refine then_n ?_
                  refine J_seq ?_
                  refine J_seq ?_
                  refine J_region (by kernel_rfl) ?_
                  (try simp only [go_sem, Nat.reduceEqDiff, reduceIte])
                  refine hold2 (then_n ?_)
                  obtain ⟨o32, hP, hQ29⟩ := bind_cases hP
                  refine J_joinK (fun (s : Unit) => envL []) (fun (s : Unit) => []) (fun s => Sum.inr s = o32) (by repeat (first | exact subC_then | refine subC_block ?_)) ?_ ?_
                  · refine J_block ?_
                    refine J_loop (σ := Nat × Int) (fun (s : Nat × Int) => envL [(6, .bptr 0 0), (11, .int .i64 s.2)]) (fun (s : Nat × Int) => [.box 65 [.str r4.1.1, .str r4.1.2.1, .own 1 0 0 (List.length r4.1.2.2)], .slice 0 74 2 (List.map enc_api_Param r4.1.2.2)]) (fun s => ref21_Kind_L29 r4 s.1 s.2 = some o32) (fun s => s.1) (1099511627776, 0) hP (so [0, 1]) ?_
                    rintro ⟨k27, i26⟩ hP
                    dsimp only at hP ⊢
                    cases k27 with
                    | zero => simp [ref21_Kind_L29] at hP
                    | succ k27 =>
                      simp only [ref21_Kind_L29] at hP
                      refine J_seq ?_
                      refine J_seq ?_
                      refine J_region (by kernel_rfl) ?_
                      (try simp only [go_sem, Nat.reduceEqDiff, reduceIte])
                      refine hold2 (then_n ?_)
                      refine J_condV rfl ?_
                      (try simp only [go_sem, Nat.reduceEqDiff, reduceIte])
                      rcases ite_cases hP with ⟨hc, hP⟩ | ⟨hc, hP⟩
                      · refine condV_t hc ?_
                        refine J_skip (then_n ?_)
                        refine J_seq ?_
                        refine J_block ?_
                        refine J_seq ?_
                        refine J_region (by kernel_rfl) ?_
                        (try simp only [go_sem, Nat.reduceEqDiff, reduceIte])
                        obtain ⟨x30, hx30, hP⟩ := bind_cases hP
                        refine ixO_of hx30 ?_
                        (try simp only [go_sem, Nat.reduceEqDiff, reduceIte])
                        refine getK_of (f := enc_api_Param) hx30 ?_
                        (try simp only [go_sem, Nat.reduceEqDiff, reduceIte])
                        refine getK_of (f := enc_api_Param) hx30 ?_
                        (try simp only [go_sem, Nat.reduceEqDiff, reduceIte])
                        refine hold2 (then_n ?_)
                        refine J_condV rfl ?_
                        (try simp only [go_sem, Nat.reduceEqDiff, reduceIte])
                        rcases ite_cases hP with ⟨hc, hP⟩ | ⟨hc, hP⟩
                        · refine condV_t hc ?_
                          refine J_seq ?_
                          refine J_regionq follows_mixed (by kernel_rfl) (by kernel_rfl) ?_
                          (try simp only [go_sem, Nat.reduceEqDiff, reduceIte])
                          obtain ⟨x31, hx31, hP⟩ := bind_cases hP
                          refine ixO_of hx31 ?_
                          (try simp only [go_sem, Nat.reduceEqDiff, reduceIte])
                          refine getK_of (f := enc_api_Param) hx31 ?_
                          (try simp only [go_sem, Nat.reduceEqDiff, reduceIte])
                          refine getK_of (f := enc_api_Param) hx31 ?_
                          (try simp only [go_sem, Nat.reduceEqDiff, reduceIte])
                          refine hold2 (then_n ?_)
                          refine J_ret (block_ret (then_ret (loop_ret (block_ret (join_ret (then_ret (fin_ret ?_)))))))
                          obtain rfl := Option.some.inj hP
                          have hP := hQ29
                          dsimp only at hP
                          obtain rfl := Option.some.inj hP
                          (try simp only [go_sem, Nat.reduceEqDiff, reduceIte])
                          exact fo []
                        · refine condV_f hc ?_
                          refine J_skip (block_n (then_n ?_))
                          refine J_region (by kernel_rfl) ?_
                          (try simp only [go_sem, Nat.reduceEqDiff, reduceIte])
                          refine hold2 ?_
                          exact loop_n (k27, iadd .i64 i26 1) hP (Nat.lt_succ_self _) (so [0, 1])
                      · refine condV_f hc ?_
                        refine J_exit (then_exit (loop_exit (block_eq ?_)))
                        exact join_n () (Option.some.inj hP) (so [])
                  · intro j33 hs
                    subst hs
                    have hP := hQ29
                    dsimp only at hP
                    clear hQ29
                    refine then_n ?_
                    refine J_seq ?_
                    refine J_region (by kernel_rfl) ?_
                    (try simp only [go_sem, Nat.reduceEqDiff, reduceIte])
                    refine hold2 (then_n ?_)
                    refine J_ret (fin_ret ?_)
                    obtain rfl := Option.some.inj hP
                    (try simp only [go_sem, Nat.reduceEqDiff, reduceIte])
                    exact fo []
/-- colander/colanderref21.hop -/
def ref21_hop_L20 (r2 : (List (List UInt8)) × Int) : Nat → Int → (List (List UInt8)) → Option ((List (List UInt8)))
  | 0, _, _ => none
  | k16 + 1, i14, l15 =>
    if decide (i14 < ((List.length r2.1 : Nat) : Int)) then
      (ixL r2.1 i14).bind fun x21 =>
      (ref03_Same x21 [104, 111, 115, 116]).bind fun r22 =>
      if !r22 then
        (ixL r2.1 i14).bind fun x23 =>
        (szC (List.length (l15 ++ [x23] : List (List UInt8)))).bind fun _ =>
        ref21_hop_L20 r2 k16 (iadd .i64 i14 1) (l15 ++ [x23])
      else
        ref21_hop_L20 r2 k16 (iadd .i64 i14 1) l15
    else
      some l15
def ref21_hop (l1 : List ((List UInt8) × (List UInt8))) : Option ((List (List UInt8))) :=
  (ref04_Members l1 [99, 111, 110, 110, 101, 99, 116, 105, 111, 110]).bind fun r2 =>
  if !decide (r2.2 = 0) then
    some [[67, 111, 110, 110, 101, 99, 116, 105, 111, 110], [75, 101, 101, 112, 45, 65, 108, 105, 118, 101], [80, 114, 111, 120, 121, 45, 67, 111, 110, 110, 101, 99, 116, 105, 111, 110], [84, 69], [84, 114, 97, 105, 108, 101, 114], [84, 114, 97, 110, 115, 102, 101, 114, 45, 69, 110, 99, 111, 100, 105, 110, 103], [85, 112, 103, 114, 97, 100, 101], [67, 111, 110, 116, 101, 110, 116, 45, 76, 101, 110, 103, 116, 104]]
  else
    (ref21_hop_L20 r2 1099511627776 0 [[67, 111, 110, 110, 101, 99, 116, 105, 111, 110], [75, 101, 101, 112, 45, 65, 108, 105, 118, 101], [80, 114, 111, 120, 121, 45, 67, 111, 110, 110, 101, 99, 116, 105, 111, 110], [84, 69], [84, 114, 97, 105, 108, 101, 114], [84, 114, 97, 110, 115, 102, 101, 114, 45, 69, 110, 99, 111, 100, 105, 110, 103], [85, 112, 103, 114, 97, 100, 101], [67, 111, 110, 116, 101, 110, 116, 45, 76, 101, 110, 103, 116, 104]]).bind fun j26 =>
      some j26
set_option maxRecDepth 100000 in
set_option maxHeartbeats 40000000 in
theorem ref21_hop_ok {l1 : List ((List UInt8) × (List UInt8))} {r : (List (List UInt8))} (hP : ref21_hop l1 = some r) : CallOK Tryz.prog 45 [.view 2 (List.map enc_api_Field l1)] (.own 0 0 0 (List.length r)) [.slice 0 9 1 (List.map encS r)] := by
  unfold ref21_hop at hP
  refine co 38 [.tmp 2] Tryz.func45 ?_
  refine J_seq ?_
  refine J_region (by kernel_rfl) ?_
  (try simp only [go_sem, Nat.reduceEqDiff, reduceIte])
  refine hold2 (then_n ?_)
  refine J_seq ?_
  refine J_region (by kernel_rfl) ?_
  (try simp only [go_sem, Nat.reduceEqDiff, reduceIte])
  refine hold2 (then_n ?_)
  refine J_seq ?_
  refine J_region (by kernel_rfl) ?_
  (try simp only [go_sem, Nat.reduceEqDiff, reduceIte])
  obtain ⟨r2, hr2, hP⟩ := bind_cases hP
  refine call_ok [.view 2 (List.map enc_api_Field l1), .str [99, 111, 110, 110, 101, 99, 116, 105, 111, 110]] (ref04_Members_ok hr2) ⟨argR_m false rfl, argR_m false rfl, trivial⟩ ?_
  (try simp only [go_sem, Nat.reduceEqDiff, reduceIte])
  refine hold2 (then_n ?_)
  refine J_seq ?_
  refine J_seq ?_
  refine J_region (by kernel_rfl) ?_
  (try simp only [go_sem, Nat.reduceEqDiff, reduceIte])
  refine hold2 (then_n ?_)
  refine J_condV rfl ?_
  (try simp only [go_sem, Nat.reduceEqDiff, reduceIte])
  rcases ite_cases hP with ⟨hc, hP⟩ | ⟨hc, hP⟩
  · refine condV_t hc ?_
    refine J_seq ?_
    refine J_region (by kernel_rfl) ?_
    (try simp only [go_sem, Nat.reduceEqDiff, reduceIte])
    refine hold2 (then_n ?_)
    refine J_ret (then_ret (fin_ret ?_))
    obtain rfl := Option.some.inj hP
    (try simp only [go_sem, Nat.reduceEqDiff, reduceIte])
    exact fo [1]
  · refine condV_f hc ?_
    refine J_skip (then_n ?_)
    refine J_seq ?_
    refine J_seq ?_
    refine J_region (by kernel_rfl) ?_
    (try simp only [go_sem, Nat.reduceEqDiff, reduceIte])
    refine hold2 (then_n ?_)
    obtain ⟨o25, hP, hQ20⟩ := bind_cases hP
    refine J_joinK (fun (s : (List (List UInt8))) => envL [(3, .own 0 0 0 (List.length s))]) (fun (s : (List (List UInt8))) => [.slice 0 9 1 (List.map encS s)]) (fun s => s = o25) (by repeat (first | exact subC_then | refine subC_block ?_)) ?_ ?_
    · clear hQ20
      refine J_block ?_
      refine J_loop (σ := Nat × Int × (List (List UInt8))) (fun (s : Nat × Int × (List (List UInt8))) => envL [(3, .own 0 0 0 (List.length s.2.2)), (4, .own 1 0 0 (List.length r2.1)), (6, .int .i64 s.2.1)]) (fun (s : Nat × Int × (List (List UInt8))) => [.slice 0 9 1 (List.map encS s.2.2), .slice 0 9 1 (List.map encS r2.1)]) (fun s => ref21_hop_L20 r2 s.1 s.2.1 s.2.2 = some o25) (fun s => s.1) (1099511627776, 0, [[67, 111, 110, 110, 101, 99, 116, 105, 111, 110], [75, 101, 101, 112, 45, 65, 108, 105, 118, 101], [80, 114, 111, 120, 121, 45, 67, 111, 110, 110, 101, 99, 116, 105, 111, 110], [84, 69], [84, 114, 97, 105, 108, 101, 114], [84, 114, 97, 110, 115, 102, 101, 114, 45, 69, 110, 99, 111, 100, 105, 110, 103], [85, 112, 103, 114, 97, 100, 101], [67, 111, 110, 116, 101, 110, 116, 45, 76, 101, 110, 103, 116, 104]]) hP (so [1, 2]) ?_
      rintro ⟨k16, i14, l15⟩ hP
      dsimp only at hP ⊢
      cases k16 with
      | zero => simp [ref21_hop_L20] at hP
      | succ k16 =>
        simp only [ref21_hop_L20] at hP
        refine J_seq ?_
        refine J_seq ?_
        refine J_region (by kernel_rfl) ?_
        (try simp only [go_sem, Nat.reduceEqDiff, reduceIte])
        refine hold2 (then_n ?_)
        refine J_condV rfl ?_
        (try simp only [go_sem, Nat.reduceEqDiff, reduceIte])
        rcases ite_cases hP with ⟨hc, hP⟩ | ⟨hc, hP⟩
        · refine condV_t hc ?_
          refine J_skip (then_n ?_)
          refine J_seq ?_
          refine J_block ?_
          refine J_seq ?_
          refine J_region (by kernel_rfl) ?_
          (try simp only [go_sem, Nat.reduceEqDiff, reduceIte])
          obtain ⟨x21, hx21, hP⟩ := bind_cases hP
          refine ixO_of hx21 ?_
          (try simp only [go_sem, Nat.reduceEqDiff, reduceIte])
          refine getK_of (f := encS) hx21 ?_
          (try simp only [go_sem, Nat.reduceEqDiff, reduceIte])
          obtain ⟨r22, hr22, hP⟩ := bind_cases hP
          refine call_ok [.str x21, .str [104, 111, 115, 116]] (ref03_Same_ok hr22) ⟨argR_m false rfl, argR_m false rfl, trivial⟩ ?_
          (try simp only [go_sem, Nat.reduceEqDiff, reduceIte])
          refine hold2 (then_n ?_)
          refine J_seq ?_
          refine J_region (by kernel_rfl) ?_
          (try simp only [go_sem, Nat.reduceEqDiff, reduceIte])
          refine hold2 (then_n ?_)
          refine J_condV rfl ?_
          (try simp only [go_sem, Nat.reduceEqDiff, reduceIte])
          rcases ite_cases hP with ⟨hc, hP⟩ | ⟨hc, hP⟩
          · refine condV_t hc ?_
            refine J_region (by kernel_rfl) ?_
            (try simp only [go_sem, Nat.reduceEqDiff, reduceIte])
            obtain ⟨x23, hx23, hP⟩ := bind_cases hP
            refine ixO_of hx23 ?_
            (try simp only [go_sem, Nat.reduceEqDiff, reduceIte])
            refine getK_of (f := encS) hx23 ?_
            (try simp only [go_sem, Nat.reduceEqDiff, reduceIte])
            obtain ⟨_, hz24, hP⟩ := bind_cases hP
            refine app_own (f := encS) (l15 : List (List UInt8)) ([x23] : List (List UInt8)) rfl tyS_61 (by decide) (by simp only [go_sem, Nat.reduceEqDiff, reduceIte]; first | done | rfl | exact ⟨rfl, rfl⟩) hz24 ?_
            (try simp only [go_sem, Nat.reduceEqDiff, reduceIte])
            refine hold2 (block_n (then_n ?_))
            refine J_region (by kernel_rfl) ?_
            (try simp only [go_sem, Nat.reduceEqDiff, reduceIte])
            refine hold2 ?_
            exact loop_n (k16, iadd .i64 i14 1, l15 ++ [x23]) hP (Nat.lt_succ_self _) (so [0, 1])
          · refine condV_f hc ?_
            refine J_skip (block_n (then_n ?_))
            refine J_region (by kernel_rfl) ?_
            (try simp only [go_sem, Nat.reduceEqDiff, reduceIte])
            refine hold2 ?_
            exact loop_n (k16, iadd .i64 i14 1, l15) hP (Nat.lt_succ_self _) (so [0, 1])
        · refine condV_f hc ?_
          refine J_exit (then_exit (loop_exit (block_eq ?_)))
          exact join_n l15 (Option.some.inj hP) (so [0])
    · intro j26 hs
      subst hs
      have hP := hQ20
      clear hQ20
      refine then_n ?_
      refine J_seq ?_
      refine J_region (by kernel_rfl) ?_
      (try simp only [go_sem, Nat.reduceEqDiff, reduceIte])
      refine hold2 (then_n ?_)
      refine J_ret (fin_ret ?_)
      obtain rfl := Option.some.inj hP
      (try simp only [go_sem, Nat.reduceEqDiff, reduceIte])
      exact fo [0]
/-- colander/colanderref21.Forward -/
def ref21_Forward (q1 : (List UInt8) × (List UInt8) × (List ((List UInt8) × (List UInt8)))) (length2 : Int) : Option (((List UInt8) × (List UInt8) × (List ((List UInt8) × (List UInt8))))) :=
  (show Option ((List ((List UInt8) × (List UInt8)))) from
    (ref21_hop q1.2.2).bind fun r7 =>
    (szC (List.length (r7 ++ [[65, 99, 99, 101, 112, 116, 45, 69, 110, 99, 111, 100, 105, 110, 103], [69, 120, 112, 101, 99, 116]] : List (List UInt8)))).bind fun _ =>
    (ref04_Without q1.2.2 (r7 ++ [[65, 99, 99, 101, 112, 116, 45, 69, 110, 99, 111, 100, 105, 110, 103], [69, 120, 112, 101, 99, 116]])).bind fun r9 =>
    some r9).bind fun j10 =>
    (show Option ((List ((List UInt8) × (List UInt8)))) from
      if decide (0 ≤ length2) then
        (ref02_Digits length2).bind fun r14 =>
        (szC (List.length (j10 ++ [([67, 111, 110, 116, 101, 110, 116, 45, 76, 101, 110, 103, 116, 104], r14)] : List ((List UInt8) × (List UInt8))))).bind fun _ =>
        some (j10 ++ [([67, 111, 110, 116, 101, 110, 116, 45, 76, 101, 110, 103, 116, 104], r14)])
      else
        some j10).bind fun j16 =>
      some (q1.1, q1.2.1, j16)
set_option maxRecDepth 100000 in
set_option maxHeartbeats 40000000 in
theorem ref21_Forward_ok {q1 : (List UInt8) × (List UInt8) × (List ((List UInt8) × (List UInt8)))} {length2 : Int} {r : ((List UInt8) × (List UInt8) × (List ((List UInt8) × (List UInt8))))} (hP : ref21_Forward q1 length2 = some r) : CallOK Tryz.prog 12 [.agg [.str q1.1, .str q1.2.1, .view 2 (List.map enc_api_Field q1.2.2)], .int .i64 length2] (.agg [.str r.1, .str r.2.1, .own 0 0 0 (List.length r.2.2)]) [.slice 0 37 2 (List.map enc_api_Field r.2.2)] := by
  unfold ref21_Forward at hP
  refine co (hvo := (by first | (intro o ho; simp at ho; done) | (simp [vfO, AV.vf, AV.vfL, encB, encI, encS, encO, enc_api_Field, enc_api_Body, enc_api_Param, enc_api_Fault, enc_head_text]; done) | (simp [vfO, AV.vf, AV.vfL, encB, encI, encS, encO, enc_api_Field, enc_api_Body, enc_api_Param, enc_api_Fault, enc_head_text]; intros; subst_vars; simp [AV.vf, AV.vfL]))) 28 [.cell 4 31] Tryz.func12 ?_
  refine J_seq ?_
  refine J_region (by kernel_rfl) ?_
  (try simp only [go_sem, Nat.reduceEqDiff, reduceIte])
  refine hold2 (then_n ?_)
  refine J_prom 37 2 (by decide) 1 2 _ _ rfl rfl ?_
  (try simp only [go_sem, Nat.reduceEqDiff, reduceIte])
  refine J_seq ?_
  obtain ⟨o6, hP, hQ6⟩ := bind_cases hP
  refine J_joinK0 (fun (s : (List ((List UInt8) × (List UInt8)))) => envL [(1, .int .i64 length2), (2, .bptr 0 0), (4, .bptr 1 0), (5, .own 3 0 0 (List.length s))]) (fun (s : (List ((List UInt8) × (List UInt8)))) => [.box 31 [.str q1.1, .str q1.2.1, .view 2 (List.map enc_api_Field q1.2.2)], .box 31 [.str [], .str [], .own 2 0 0 (List.length ([] : List ((List UInt8) × (List UInt8))))], .slice 0 37 2 (List.map enc_api_Field ([] : List ((List UInt8) × (List UInt8)))), .slice 0 37 2 (List.map enc_api_Field s)]) (fun s => s = o6) ?_ ?_
  · clear hQ6
    refine J_regionT [(0, none), (2, none), (3, some [4, 6, 7, 8])] (.alt (.early 1 (.alt (.early 4 (.early 5 (.step 6 (.early 7 (.early 8 (.done)))))) (.early 5 (.early 4 (.step 6 (.early 7 (.early 8 (.done)))))))) (.alt (.early 4 (.alt (.early 1 (.early 5 (.step 6 (.early 7 (.early 8 (.done)))))) (.early 5 (.alt (.early 1 (.step 6 (.early 7 (.early 8 (.done))))) (.step 6 (.early 1 (.early 7 (.early 8 (.done))))))))) (.early 5 (.alt (.early 1 (.early 4 (.step 6 (.early 7 (.early 8 (.done)))))) (.early 4 (.alt (.early 1 (.step 6 (.early 7 (.early 8 (.done))))) (.step 6 (.early 1 (.early 7 (.early 8 (.done))))))))))) [6] [5, 6, 7, 8, 9, 10, 11, 12, 13] follows_mixed (by kernel_rfl) (by kernel_rfl) (by kernel_rfl) (by kernel_rfl) (by kernel_rfl) (by kernel_rfl) ?_
    simp only [pickT_cons, pickT_nil, go_sem, Nat.reduceEqDiff, reduceIte]
    (try simp only [go_sem, Nat.reduceEqDiff, reduceIte])
    refine ⟨?_, ?_⟩
    · refine ⟨?_, ?_⟩
      · obtain ⟨r7, hr7, hP⟩ := bind_cases hP
        refine callE_ok [.view 2 (List.map enc_api_Field q1.2.2)] (ref21_hop_ok hr7) ⟨argR_m false rfl, trivial⟩ ?_
        (try simp only [go_sem, Nat.reduceEqDiff, reduceIte])
        obtain ⟨_, hz8, hP⟩ := bind_cases hP
        refine app_own (f := encS) (r7 : List (List UInt8)) ([[65, 99, 99, 101, 112, 116, 45, 69, 110, 99, 111, 100, 105, 110, 103], [69, 120, 112, 101, 99, 116]] : List (List UInt8)) rfl tyS_61 (by decide) (by simp only [go_sem, Nat.reduceEqDiff, reduceIte]; first | done | rfl | exact ⟨rfl, rfl⟩) hz8 ?_
        (try simp only [go_sem, Nat.reduceEqDiff, reduceIte])
        obtain ⟨r9, hr9, hP⟩ := bind_cases hP
        refine callE_ok [.view 2 (List.map enc_api_Field q1.2.2), .view 1 (List.map encS (r7 ++ [[65, 99, 99, 101, 112, 116, 45, 69, 110, 99, 111, 100, 105, 110, 103], [69, 120, 112, 101, 99, 116]]))] (ref04_Without_ok hr9) ⟨argR_m false rfl, argR_m false (by simp only [arg, go_sem, Nat.reduceEqDiff, reduceIte]), trivial⟩ ?_
        (try simp only [go_sem, Nat.reduceEqDiff, reduceIte])
        refine hold2 ?_
        exact join_n r9 (Option.some.inj hP) (so [0, 1, 2, 5])
      obtain ⟨r7, hr7, hP⟩ := bind_cases hP
      refine callE_ok [.view 2 (List.map enc_api_Field q1.2.2)] (ref21_hop_ok hr7) ⟨argR_m false rfl, trivial⟩ ?_
      (try simp only [go_sem, Nat.reduceEqDiff, reduceIte])
      obtain ⟨_, hz8, hP⟩ := bind_cases hP
      refine app_own (f := encS) (r7 : List (List UInt8)) ([[65, 99, 99, 101, 112, 116, 45, 69, 110, 99, 111, 100, 105, 110, 103], [69, 120, 112, 101, 99, 116]] : List (List UInt8)) rfl tyS_61 (by decide) (by simp only [go_sem, Nat.reduceEqDiff, reduceIte]; first | done | rfl | exact ⟨rfl, rfl⟩) hz8 ?_
      (try simp only [go_sem, Nat.reduceEqDiff, reduceIte])
      obtain ⟨r9, hr9, hP⟩ := bind_cases hP
      refine callE_ok [.view 2 (List.map enc_api_Field q1.2.2), .view 1 (List.map encS (r7 ++ [[65, 99, 99, 101, 112, 116, 45, 69, 110, 99, 111, 100, 105, 110, 103], [69, 120, 112, 101, 99, 116]]))] (ref04_Without_ok hr9) ⟨argR_m false rfl, argR_m false (by simp only [arg, go_sem, Nat.reduceEqDiff, reduceIte]), trivial⟩ ?_
      (try simp only [go_sem, Nat.reduceEqDiff, reduceIte])
      refine hold2 ?_
      exact join_n r9 (Option.some.inj hP) (so [0, 1, 2, 5])
    refine ⟨?_, ?_⟩
    · obtain ⟨r7, hr7, hP⟩ := bind_cases hP
      refine callE_ok [.view 2 (List.map enc_api_Field q1.2.2)] (ref21_hop_ok hr7) ⟨argR_m false rfl, trivial⟩ ?_
      (try simp only [go_sem, Nat.reduceEqDiff, reduceIte])
      refine ⟨?_, ?_⟩
      · obtain ⟨_, hz8, hP⟩ := bind_cases hP
        refine app_own (f := encS) (r7 : List (List UInt8)) ([[65, 99, 99, 101, 112, 116, 45, 69, 110, 99, 111, 100, 105, 110, 103], [69, 120, 112, 101, 99, 116]] : List (List UInt8)) rfl tyS_61 (by decide) (by simp only [go_sem, Nat.reduceEqDiff, reduceIte]; first | done | rfl | exact ⟨rfl, rfl⟩) hz8 ?_
        (try simp only [go_sem, Nat.reduceEqDiff, reduceIte])
        obtain ⟨r9, hr9, hP⟩ := bind_cases hP
        refine callE_ok [.view 2 (List.map enc_api_Field q1.2.2), .view 1 (List.map encS (r7 ++ [[65, 99, 99, 101, 112, 116, 45, 69, 110, 99, 111, 100, 105, 110, 103], [69, 120, 112, 101, 99, 116]]))] (ref04_Without_ok hr9) ⟨argR_m false rfl, argR_m false (by simp only [arg, go_sem, Nat.reduceEqDiff, reduceIte]), trivial⟩ ?_
        (try simp only [go_sem, Nat.reduceEqDiff, reduceIte])
        refine hold2 ?_
        exact join_n r9 (Option.some.inj hP) (so [0, 1, 2, 5])
      refine ⟨?_, ?_⟩
      · obtain ⟨_, hz8, hP⟩ := bind_cases hP
        refine app_own (f := encS) (r7 : List (List UInt8)) ([[65, 99, 99, 101, 112, 116, 45, 69, 110, 99, 111, 100, 105, 110, 103], [69, 120, 112, 101, 99, 116]] : List (List UInt8)) rfl tyS_61 (by decide) (by simp only [go_sem, Nat.reduceEqDiff, reduceIte]; first | done | rfl | exact ⟨rfl, rfl⟩) hz8 ?_
        (try simp only [go_sem, Nat.reduceEqDiff, reduceIte])
        obtain ⟨r9, hr9, hP⟩ := bind_cases hP
        refine callE_ok [.view 2 (List.map enc_api_Field q1.2.2), .view 1 (List.map encS (r7 ++ [[65, 99, 99, 101, 112, 116, 45, 69, 110, 99, 111, 100, 105, 110, 103], [69, 120, 112, 101, 99, 116]]))] (ref04_Without_ok hr9) ⟨argR_m false rfl, argR_m false (by simp only [arg, go_sem, Nat.reduceEqDiff, reduceIte]), trivial⟩ ?_
        (try simp only [go_sem, Nat.reduceEqDiff, reduceIte])
        refine hold2 ?_
        exact join_n r9 (Option.some.inj hP) (so [0, 1, 2, 5])
      obtain ⟨_, hz8, hP⟩ := bind_cases hP
      refine app_own (f := encS) (r7 : List (List UInt8)) ([[65, 99, 99, 101, 112, 116, 45, 69, 110, 99, 111, 100, 105, 110, 103], [69, 120, 112, 101, 99, 116]] : List (List UInt8)) rfl tyS_61 (by decide) (by simp only [go_sem, Nat.reduceEqDiff, reduceIte]; first | done | rfl | exact ⟨rfl, rfl⟩) hz8 ?_
      (try simp only [go_sem, Nat.reduceEqDiff, reduceIte])
      obtain ⟨r9, hr9, hP⟩ := bind_cases hP
      refine callE_ok [.view 2 (List.map enc_api_Field q1.2.2), .view 1 (List.map encS (r7 ++ [[65, 99, 99, 101, 112, 116, 45, 69, 110, 99, 111, 100, 105, 110, 103], [69, 120, 112, 101, 99, 116]]))] (ref04_Without_ok hr9) ⟨argR_m false rfl, argR_m false (by simp only [arg, go_sem, Nat.reduceEqDiff, reduceIte]), trivial⟩ ?_
      (try simp only [go_sem, Nat.reduceEqDiff, reduceIte])
      refine hold2 ?_
      exact join_n r9 (Option.some.inj hP) (so [0, 1, 2, 5])
    refine ⟨?_, ?_⟩
    · obtain ⟨r7, hr7, hP⟩ := bind_cases hP
      refine callE_ok [.view 2 (List.map enc_api_Field q1.2.2)] (ref21_hop_ok hr7) ⟨argR_m false rfl, trivial⟩ ?_
      (try simp only [go_sem, Nat.reduceEqDiff, reduceIte])
      obtain ⟨_, hz8, hP⟩ := bind_cases hP
      refine app_own (f := encS) (r7 : List (List UInt8)) ([[65, 99, 99, 101, 112, 116, 45, 69, 110, 99, 111, 100, 105, 110, 103], [69, 120, 112, 101, 99, 116]] : List (List UInt8)) rfl tyS_61 (by decide) (by simp only [go_sem, Nat.reduceEqDiff, reduceIte]; first | done | rfl | exact ⟨rfl, rfl⟩) hz8 ?_
      (try simp only [go_sem, Nat.reduceEqDiff, reduceIte])
      obtain ⟨r9, hr9, hP⟩ := bind_cases hP
      refine callE_ok [.view 2 (List.map enc_api_Field q1.2.2), .view 1 (List.map encS (r7 ++ [[65, 99, 99, 101, 112, 116, 45, 69, 110, 99, 111, 100, 105, 110, 103], [69, 120, 112, 101, 99, 116]]))] (ref04_Without_ok hr9) ⟨argR_m false rfl, argR_m false (by simp only [arg, go_sem, Nat.reduceEqDiff, reduceIte]), trivial⟩ ?_
      (try simp only [go_sem, Nat.reduceEqDiff, reduceIte])
      refine hold2 ?_
      exact join_n r9 (Option.some.inj hP) (so [0, 1, 2, 5])
    obtain ⟨r7, hr7, hP⟩ := bind_cases hP
    refine callE_ok [.view 2 (List.map enc_api_Field q1.2.2)] (ref21_hop_ok hr7) ⟨argR_m false rfl, trivial⟩ ?_
    (try simp only [go_sem, Nat.reduceEqDiff, reduceIte])
    refine ⟨?_, ?_⟩
    · obtain ⟨_, hz8, hP⟩ := bind_cases hP
      refine app_own (f := encS) (r7 : List (List UInt8)) ([[65, 99, 99, 101, 112, 116, 45, 69, 110, 99, 111, 100, 105, 110, 103], [69, 120, 112, 101, 99, 116]] : List (List UInt8)) rfl tyS_61 (by decide) (by simp only [go_sem, Nat.reduceEqDiff, reduceIte]; first | done | rfl | exact ⟨rfl, rfl⟩) hz8 ?_
      (try simp only [go_sem, Nat.reduceEqDiff, reduceIte])
      obtain ⟨r9, hr9, hP⟩ := bind_cases hP
      refine callE_ok [.view 2 (List.map enc_api_Field q1.2.2), .view 1 (List.map encS (r7 ++ [[65, 99, 99, 101, 112, 116, 45, 69, 110, 99, 111, 100, 105, 110, 103], [69, 120, 112, 101, 99, 116]]))] (ref04_Without_ok hr9) ⟨argR_m false rfl, argR_m false (by simp only [arg, go_sem, Nat.reduceEqDiff, reduceIte]), trivial⟩ ?_
      (try simp only [go_sem, Nat.reduceEqDiff, reduceIte])
      refine hold2 ?_
      exact join_n r9 (Option.some.inj hP) (so [0, 1, 2, 5])
    obtain ⟨_, hz8, hP⟩ := bind_cases hP
    refine app_own (f := encS) (r7 : List (List UInt8)) ([[65, 99, 99, 101, 112, 116, 45, 69, 110, 99, 111, 100, 105, 110, 103], [69, 120, 112, 101, 99, 116]] : List (List UInt8)) rfl tyS_61 (by decide) (by simp only [go_sem, Nat.reduceEqDiff, reduceIte]; first | done | rfl | exact ⟨rfl, rfl⟩) hz8 ?_
    (try simp only [go_sem, Nat.reduceEqDiff, reduceIte])
    obtain ⟨r9, hr9, hP⟩ := bind_cases hP
    refine callE_ok [.view 2 (List.map enc_api_Field q1.2.2), .view 1 (List.map encS (r7 ++ [[65, 99, 99, 101, 112, 116, 45, 69, 110, 99, 111, 100, 105, 110, 103], [69, 120, 112, 101, 99, 116]]))] (ref04_Without_ok hr9) ⟨argR_m false rfl, argR_m false (by simp only [arg, go_sem, Nat.reduceEqDiff, reduceIte]), trivial⟩ ?_
    (try simp only [go_sem, Nat.reduceEqDiff, reduceIte])
    refine hold2 ?_
    exact join_n r9 (Option.some.inj hP) (so [0, 1, 2, 5])
  · intro j10 hs
    subst hs
    have hP := hQ6
    clear hQ6
    refine then_n ?_
    obtain ⟨o13, hP, hQ13⟩ := bind_cases hP
    refine J_join (fun (s : (List ((List UInt8) × (List UInt8)))) => envL [(2, .bptr 0 0), (4, .bptr 1 0), (5, .own 3 0 0 (List.length s))]) (fun (s : (List ((List UInt8) × (List UInt8)))) => [.box 31 [.str q1.1, .str q1.2.1, .view 2 (List.map enc_api_Field q1.2.2)], .box 31 [.str [], .str [], .own 2 0 0 (List.length ([] : List ((List UInt8) × (List UInt8))))], .slice 0 37 2 (List.map enc_api_Field ([] : List ((List UInt8) × (List UInt8)))), .slice 0 37 2 (List.map enc_api_Field s)]) (fun s => s = o13) ?_ ?_
    · clear hQ13
      refine J_seq ?_
      refine J_region (by kernel_rfl) ?_
      (try simp only [go_sem, Nat.reduceEqDiff, reduceIte, Nat.reduceAdd, Nat.reduceSub, Nat.reduceLT, Nat.reduceMul, reduceCtorEq, Int.reduceToNat, Int.reduceLE, Int.reduceLT, Nat.reduceLeDiff])
      refine hold2 (then_n ?_)
      refine J_condV rfl ?_
      (try simp only [go_sem, Nat.reduceEqDiff, reduceIte, Nat.reduceAdd, Nat.reduceSub, Nat.reduceLT, Nat.reduceMul, reduceCtorEq, Int.reduceToNat, Int.reduceLE, Int.reduceLT, Nat.reduceLeDiff])
      rcases ite_cases hP with ⟨hc, hP⟩ | ⟨hc, hP⟩
      · refine condV_t hc ?_
        refine J_region (by kernel_rfl) ?_
        (try simp only [go_sem, Nat.reduceEqDiff, reduceIte, Nat.reduceAdd, Nat.reduceSub, Nat.reduceLT, Nat.reduceMul, reduceCtorEq, Int.reduceToNat, Int.reduceLE, Int.reduceLT, Nat.reduceLeDiff])
        obtain ⟨r14, hr14, hP⟩ := bind_cases hP
        refine call_ok [.int .i64 length2] (ref02_Digits_ok hr14) ⟨argR_m false rfl, trivial⟩ ?_
        (try simp only [go_sem, Nat.reduceEqDiff, reduceIte, Nat.reduceAdd, Nat.reduceSub, Nat.reduceLT, Nat.reduceMul, reduceCtorEq, Int.reduceToNat, Int.reduceLE, Int.reduceLT, Nat.reduceLeDiff])
        obtain ⟨_, hz15, hP⟩ := bind_cases hP
        refine app_own (f := enc_api_Field) (j10 : List ((List UInt8) × (List UInt8))) ([([67, 111, 110, 116, 101, 110, 116, 45, 76, 101, 110, 103, 116, 104], r14)] : List ((List UInt8) × (List UInt8))) rfl tyS_22 (by decide) (by simp only [go_sem, Nat.reduceEqDiff, reduceIte, Nat.reduceAdd, Nat.reduceSub, Nat.reduceLT, Nat.reduceMul, reduceCtorEq, Int.reduceToNat, Int.reduceLE, Int.reduceLT, Nat.reduceLeDiff]; first | done | rfl | exact ⟨rfl, rfl⟩) hz15 ?_
        (try simp only [go_sem, Nat.reduceEqDiff, reduceIte])
        refine hold2 ?_
        exact join_n (j10 ++ [([67, 111, 110, 116, 101, 110, 116, 45, 76, 101, 110, 103, 116, 104], r14)]) (Option.some.inj hP) (so [0, 1, 2, 3])
      · refine condV_f hc ?_
        refine J_skip ?_
        exact join_n j10 (Option.some.inj hP) (so [0, 1, 2, 3])
    · intro j16 hs
      subst hs
      have hP := hQ13
      clear hQ13
      refine J_seq ?_
      refine J_region (by kernel_rfl) ?_
      (try simp only [go_sem, Nat.reduceEqDiff, reduceIte, Nat.reduceAdd, Nat.reduceSub, Nat.reduceLT, Nat.reduceMul, reduceCtorEq, Int.reduceToNat, Int.reduceLE, Int.reduceLT, Nat.reduceLeDiff])
      refine hold2 (then_n ?_)
      refine J_ret (fin_ret ?_)
      obtain rfl := Option.some.inj hP
      (try simp only [go_sem, Nat.reduceEqDiff, reduceIte])
      exact fo [3]
/-- colander/colanderref21.Keeps -/
def ref21_Keeps_L9 (r2 : (List (List UInt8)) × Int) : Nat → Int → Option (Sum (Bool) (Unit))
  | 0, _ => none
  | k7 + 1, i6 =>
    if decide (i6 < ((List.length r2.1 : Nat) : Int)) then
      (ixL r2.1 i6).bind fun x10 =>
      (ref03_Same x10 [99, 108, 111, 115, 101]).bind fun r11 =>
      if r11 then
        some (Sum.inl false)
      else
        ref21_Keeps_L9 r2 k7 (iadd .i64 i6 1)
    else
      some (Sum.inr ())
def ref21_Keeps (l1 : List ((List UInt8) × (List UInt8))) : Option (Bool) :=
  (ref04_Members l1 [99, 111, 110, 110, 101, 99, 116, 105, 111, 110]).bind fun r2 =>
  if !decide (r2.2 = 0) then
    some false
  else
    (ref21_Keeps_L9 r2 1099511627776 0).bind fun o12 => match o12 with
    | Sum.inl r => some r
    | Sum.inr j13 =>
      some true
set_option maxRecDepth 100000 in
set_option maxHeartbeats 40000000 in
theorem ref21_Keeps_ok {l1 : List ((List UInt8) × (List UInt8))} {r : Bool} (hP : ref21_Keeps l1 = some r) : CallOK Tryz.prog 16 [.view 2 (List.map enc_api_Field l1)] (.bool r) [] := by
  unfold ref21_Keeps at hP
  refine co 26 [.tmp 2] Tryz.func16 ?_
  refine J_seq ?_
  refine J_region (by kernel_rfl) ?_
  (try simp only [go_sem, Nat.reduceEqDiff, reduceIte])
  refine hold2 (then_n ?_)
  refine J_seq ?_
  refine J_region (by kernel_rfl) ?_
  (try simp only [go_sem, Nat.reduceEqDiff, reduceIte])
  obtain ⟨r2, hr2, hP⟩ := bind_cases hP
  refine call_ok [.view 2 (List.map enc_api_Field l1), .str [99, 111, 110, 110, 101, 99, 116, 105, 111, 110]] (ref04_Members_ok hr2) ⟨argR_m false rfl, argR_m false rfl, trivial⟩ ?_
  (try simp only [go_sem, Nat.reduceEqDiff, reduceIte])
  refine hold2 (then_n ?_)
  refine J_seq ?_
  refine J_seq ?_
  refine J_region (by kernel_rfl) ?_
  (try simp only [go_sem, Nat.reduceEqDiff, reduceIte])
  refine hold2 (then_n ?_)
  refine J_condV rfl ?_
  (try simp only [go_sem, Nat.reduceEqDiff, reduceIte])
  rcases ite_cases hP with ⟨hc, hP⟩ | ⟨hc, hP⟩
  · refine condV_t hc ?_
    refine J_seq ?_
    refine J_region (by kernel_rfl) ?_
    (try simp only [go_sem, Nat.reduceEqDiff, reduceIte])
    refine hold2 (then_n ?_)
    refine J_ret (then_ret (fin_ret ?_))
    obtain rfl := Option.some.inj hP
    (try simp only [go_sem, Nat.reduceEqDiff, reduceIte])
    exact fo []
  · refine condV_f hc ?_
    refine J_skip (then_n ?_)
    refine J_seq ?_
    refine J_seq ?_
    refine J_region (by kernel_rfl) ?_
    (try simp only [go_sem, Nat.reduceEqDiff, reduceIte])
    refine hold2 (then_n ?_)
    obtain ⟨o12, hP, hQ9⟩ := bind_cases hP
    refine J_joinK (fun (s : Unit) => envL []) (fun (s : Unit) => []) (fun s => Sum.inr s = o12) (by repeat (first | exact subC_then | refine subC_block ?_)) ?_ ?_
    · refine J_block ?_
      refine J_loop (σ := Nat × Int) (fun (s : Nat × Int) => envL [(3, .own 0 0 0 (List.length r2.1)), (5, .int .i64 s.2)]) (fun (s : Nat × Int) => [.slice 0 9 1 (List.map encS r2.1)]) (fun s => ref21_Keeps_L9 r2 s.1 s.2 = some o12) (fun s => s.1) (1099511627776, 0) hP (so [0]) ?_
      rintro ⟨k7, i6⟩ hP
      dsimp only at hP ⊢
      cases k7 with
      | zero => simp [ref21_Keeps_L9] at hP
      | succ k7 =>
        simp only [ref21_Keeps_L9] at hP
        refine J_seq ?_
        refine J_seq ?_
        refine J_region (by kernel_rfl) ?_
        (try simp only [go_sem, Nat.reduceEqDiff, reduceIte])
        refine hold2 (then_n ?_)
        refine J_condV rfl ?_
        (try simp only [go_sem, Nat.reduceEqDiff, reduceIte])
        rcases ite_cases hP with ⟨hc, hP⟩ | ⟨hc, hP⟩
        · refine condV_t hc ?_
          refine J_skip (then_n ?_)
          refine J_seq ?_
          refine J_block ?_
          refine J_seq ?_
          refine J_region (by kernel_rfl) ?_
          (try simp only [go_sem, Nat.reduceEqDiff, reduceIte])
          obtain ⟨x10, hx10, hP⟩ := bind_cases hP
          refine ixO_of hx10 ?_
          (try simp only [go_sem, Nat.reduceEqDiff, reduceIte])
          refine getK_of (f := encS) hx10 ?_
          (try simp only [go_sem, Nat.reduceEqDiff, reduceIte])
          obtain ⟨r11, hr11, hP⟩ := bind_cases hP
          refine call_ok [.str x10, .str [99, 108, 111, 115, 101]] (ref03_Same_ok hr11) ⟨argR_m false rfl, argR_m false rfl, trivial⟩ ?_
          (try simp only [go_sem, Nat.reduceEqDiff, reduceIte])
          refine hold2 (then_n ?_)
          refine J_seq ?_
          refine J_region (by kernel_rfl) ?_
          (try simp only [go_sem, Nat.reduceEqDiff, reduceIte])
          refine hold2 (then_n ?_)
          refine J_condV rfl ?_
          (try simp only [go_sem, Nat.reduceEqDiff, reduceIte])
          rcases ite_cases hP with ⟨hc, hP⟩ | ⟨hc, hP⟩
          · refine condV_t hc ?_
            refine J_seq ?_
            refine J_region (by kernel_rfl) ?_
            (try simp only [go_sem, Nat.reduceEqDiff, reduceIte])
            refine hold2 (then_n ?_)
            refine J_ret (block_ret (then_ret (loop_ret (block_ret (join_ret (then_ret (fin_ret ?_)))))))
            obtain rfl := Option.some.inj hP
            have hP := hQ9
            dsimp only at hP
            obtain rfl := Option.some.inj hP
            (try simp only [go_sem, Nat.reduceEqDiff, reduceIte])
            exact fo []
          · refine condV_f hc ?_
            refine J_skip (block_n (then_n ?_))
            refine J_region (by kernel_rfl) ?_
            (try simp only [go_sem, Nat.reduceEqDiff, reduceIte])
            refine hold2 ?_
            exact loop_n (k7, iadd .i64 i6 1) hP (Nat.lt_succ_self _) (so [0])
        · refine condV_f hc ?_
          refine J_exit (then_exit (loop_exit (block_eq ?_)))
          exact join_n () (Option.some.inj hP) (so [])
    · intro j13 hs
      subst hs
      have hP := hQ9
      dsimp only at hP
      clear hQ9
      refine then_n ?_
      refine J_seq ?_
      refine J_region (by kernel_rfl) ?_
      (try simp only [go_sem, Nat.reduceEqDiff, reduceIte])
      refine hold2 (then_n ?_)
      refine J_ret (fin_ret ?_)
      obtain rfl := Option.some.inj hP
      (try simp only [go_sem, Nat.reduceEqDiff, reduceIte])
      exact fo []
/-- colander/colanderref21.Words -/
def ref21_Words (status1 : Int) : Option ((List UInt8)) :=
  if decide (status1 = 400) then
    some [66, 97, 100, 32, 82, 101, 113, 117, 101, 115, 116]
  else
    if decide (status1 = 408) then
      some [82, 101, 113, 117, 101, 115, 116, 32, 84, 105, 109, 101, 111, 117, 116]
    else
      if decide (status1 = 413) then
        some [67, 111, 110, 116, 101, 110, 116, 32, 84, 111, 111, 32, 76, 97, 114, 103, 101]
      else
        if decide (status1 = 502) then
          some [66, 97, 100, 32, 71, 97, 116, 101, 119, 97, 121]
        else
          if decide (status1 = 504) then
            some [71, 97, 116, 101, 119, 97, 121, 32, 84, 105, 109, 101, 111, 117, 116]
          else
            some []
set_option maxRecDepth 100000 in
set_option maxHeartbeats 40000000 in
theorem ref21_Words_ok {status1 : Int} {r : (List UInt8)} (hP : ref21_Words status1 = some r) : CallOK Tryz.prog 55 [.int .i64 status1] (.str r) [] := by
  unfold ref21_Words at hP
  refine co 14 [.tmp 2] Tryz.func55 ?_
  refine J_seq ?_
  refine J_region (by kernel_rfl) ?_
  (try simp only [go_sem, Nat.reduceEqDiff, reduceIte])
  refine hold2 (then_n ?_)
  refine J_seq ?_
  refine J_seq ?_
  refine J_region (by kernel_rfl) ?_
  (try simp only [go_sem, Nat.reduceEqDiff, reduceIte])
  refine hold2 (then_n ?_)
  refine J_block ?_
  refine J_seq ?_
  refine J_region (by kernel_rfl) ?_
  (try simp only [go_sem, Nat.reduceEqDiff, reduceIte])
  refine hold2 (then_n ?_)
  refine J_condV rfl ?_
  (try simp only [go_sem, Nat.reduceEqDiff, reduceIte])
  rcases ite_cases hP with ⟨hc, hP⟩ | ⟨hc, hP⟩
  · refine condV_t hc ?_
    refine J_seq ?_
    refine J_region (by kernel_rfl) ?_
    (try simp only [go_sem, Nat.reduceEqDiff, reduceIte])
    refine hold2 (then_n ?_)
    refine J_ret (block_ret (then_ret (fin_ret ?_)))
    obtain rfl := Option.some.inj hP
    (try simp only [go_sem, Nat.reduceEqDiff, reduceIte])
    exact fo []
  · refine condV_f hc ?_
    refine J_seq ?_
    refine J_region (by kernel_rfl) ?_
    (try simp only [go_sem, Nat.reduceEqDiff, reduceIte])
    refine hold2 (then_n ?_)
    refine J_condV rfl ?_
    (try simp only [go_sem, Nat.reduceEqDiff, reduceIte])
    rcases ite_cases hP with ⟨hc, hP⟩ | ⟨hc, hP⟩
    · refine condV_t hc ?_
      refine J_seq ?_
      refine J_region (by kernel_rfl) ?_
      (try simp only [go_sem, Nat.reduceEqDiff, reduceIte])
      refine hold2 (then_n ?_)
      refine J_ret (block_ret (then_ret (fin_ret ?_)))
      obtain rfl := Option.some.inj hP
      (try simp only [go_sem, Nat.reduceEqDiff, reduceIte])
      exact fo []
    · refine condV_f hc ?_
      refine J_seq ?_
      refine J_region (by kernel_rfl) ?_
      (try simp only [go_sem, Nat.reduceEqDiff, reduceIte])
      refine hold2 (then_n ?_)
      refine J_condV rfl ?_
      (try simp only [go_sem, Nat.reduceEqDiff, reduceIte])
      rcases ite_cases hP with ⟨hc, hP⟩ | ⟨hc, hP⟩
      · refine condV_t hc ?_
        refine J_seq ?_
        refine J_region (by kernel_rfl) ?_
        (try simp only [go_sem, Nat.reduceEqDiff, reduceIte])
        refine hold2 (then_n ?_)
        refine J_ret (block_ret (then_ret (fin_ret ?_)))
        obtain rfl := Option.some.inj hP
        (try simp only [go_sem, Nat.reduceEqDiff, reduceIte])
        exact fo []
      · refine condV_f hc ?_
        refine J_seq ?_
        refine J_region (by kernel_rfl) ?_
        (try simp only [go_sem, Nat.reduceEqDiff, reduceIte])
        refine hold2 (then_n ?_)
        refine J_condV rfl ?_
        (try simp only [go_sem, Nat.reduceEqDiff, reduceIte])
        rcases ite_cases hP with ⟨hc, hP⟩ | ⟨hc, hP⟩
        · refine condV_t hc ?_
          refine J_seq ?_
          refine J_region (by kernel_rfl) ?_
          (try simp only [go_sem, Nat.reduceEqDiff, reduceIte])
          refine hold2 (then_n ?_)
          refine J_ret (block_ret (then_ret (fin_ret ?_)))
          obtain rfl := Option.some.inj hP
          (try simp only [go_sem, Nat.reduceEqDiff, reduceIte])
          exact fo []
        · refine condV_f hc ?_
          refine J_seq ?_
          refine J_region (by kernel_rfl) ?_
          (try simp only [go_sem, Nat.reduceEqDiff, reduceIte])
          refine hold2 (then_n ?_)
          refine J_condV rfl ?_
          (try simp only [go_sem, Nat.reduceEqDiff, reduceIte])
          rcases ite_cases hP with ⟨hc, hP⟩ | ⟨hc, hP⟩
          · refine condV_t hc ?_
            refine J_seq ?_
            refine J_region (by kernel_rfl) ?_
            (try simp only [go_sem, Nat.reduceEqDiff, reduceIte])
            refine hold2 (then_n ?_)
            refine J_ret (block_ret (then_ret (fin_ret ?_)))
            obtain rfl := Option.some.inj hP
            (try simp only [go_sem, Nat.reduceEqDiff, reduceIte])
            exact fo []
          · refine condV_f hc ?_
            refine J_skip (block_n (then_n ?_))
            refine J_seq ?_
            refine J_region (by kernel_rfl) ?_
            (try simp only [go_sem, Nat.reduceEqDiff, reduceIte])
            refine hold2 (then_n ?_)
            refine J_ret (fin_ret ?_)
            obtain rfl := Option.some.inj hP
            (try simp only [go_sem, Nat.reduceEqDiff, reduceIte])
            exact fo []
/-- colander/colanderref21.Fail -/
def ref21_Fail (status1 : Int) (bare2 : Bool) : Option ((List UInt8)) :=
  (ref21_Words status1).bind fun r3 =>
  if decide (r3 = []) then
    some []
  else
    (ref02_Digits (iadd .i64 (List.length r3 : Int) 1)).bind fun r4 =>
    (ref05_ResponseText (status1, r3, [([67, 111, 110, 116, 101, 110, 116, 45, 84, 121, 112, 101], [116, 101, 120, 116, 47, 112, 108, 97, 105, 110, 59, 32, 99, 104, 97, 114, 115, 101, 116, 61, 117, 116, 102, 45, 56]), ([88, 45, 67, 111, 110, 116, 101, 110, 116, 45, 84, 121, 112, 101, 45, 79, 112, 116, 105, 111, 110, 115], [110, 111, 115, 110, 105, 102, 102]), ([67, 111, 110, 116, 101, 110, 116, 45, 76, 101, 110, 103, 116, 104], r4), ([67, 111, 110, 110, 101, 99, 116, 105, 111, 110], [99, 108, 111, 115, 101])])).bind fun r5 =>
    if bare2 then
      some r5
    else
      (szC (List.length (r5 ++ r3))).bind fun _ =>
      (szC (List.length ((r5 ++ r3) ++ [10]))).bind fun _ =>
      some ((r5 ++ r3) ++ [10])
set_option maxRecDepth 100000 in
set_option maxHeartbeats 40000000 in
theorem ref21_Fail_ok {status1 : Int} {bare2 : Bool} {r : (List UInt8)} (hP : ref21_Fail status1 bare2 = some r) : CallOK Tryz.prog 24 [.int .i64 status1, .bool bare2] (.str r) [] := by
  unfold ref21_Fail at hP
  refine co 32 [.tmp 4] Tryz.func24 ?_
  refine J_seq ?_
  refine J_region (by kernel_rfl) ?_
  (try simp only [go_sem, Nat.reduceEqDiff, reduceIte])
  refine hold2 (then_n ?_)
  refine J_seq ?_
  refine J_region (by kernel_rfl) ?_
  (try simp only [go_sem, Nat.reduceEqDiff, reduceIte])
  obtain ⟨r3, hr3, hP⟩ := bind_cases hP
  refine call_ok [.int .i64 status1] (ref21_Words_ok hr3) ⟨argR_m false rfl, trivial⟩ ?_
  (try simp only [go_sem, Nat.reduceEqDiff, reduceIte])
  refine hold2 (then_n ?_)
  refine J_seq ?_
  refine J_seq ?_
  refine J_region (by kernel_rfl) ?_
  (try simp only [go_sem, Nat.reduceEqDiff, reduceIte])
  refine hold2 (then_n ?_)
  refine J_condV rfl ?_
  (try simp only [go_sem, Nat.reduceEqDiff, reduceIte])
  rcases ite_cases hP with ⟨hc, hP⟩ | ⟨hc, hP⟩
  · refine condV_t hc ?_
    refine J_seq ?_
    refine J_region (by kernel_rfl) ?_
    (try simp only [go_sem, Nat.reduceEqDiff, reduceIte])
    refine hold2 (then_n ?_)
    refine J_ret (then_ret (fin_ret ?_))
    obtain rfl := Option.some.inj hP
    (try simp only [go_sem, Nat.reduceEqDiff, reduceIte])
    exact fo []
  · refine condV_f hc ?_
    refine J_skip (then_n ?_)
    refine J_seq ?_
    refine J_region (by kernel_rfl) ?_
    (try simp only [go_sem, Nat.reduceEqDiff, reduceIte])
    obtain ⟨r4, hr4, hP⟩ := bind_cases hP
    refine call_ok [.int .i64 (iadd .i64 (List.length r3 : Int) 1)] (ref02_Digits_ok hr4) ⟨argR_m false rfl, trivial⟩ ?_
    (try simp only [go_sem, Nat.reduceEqDiff, reduceIte, Nat.reduceAdd, Nat.reduceSub, Nat.reduceLT, Nat.reduceMul, reduceCtorEq, Int.reduceToNat, Int.reduceLE, Int.reduceLT, Nat.reduceLeDiff])
    refine hold2 (then_n ?_)
    refine J_seq ?_
    refine J_region (by kernel_rfl) ?_
    (try simp only [go_sem, Nat.reduceEqDiff, reduceIte])
    obtain ⟨r5, hr5, hP⟩ := bind_cases hP
    refine call_ok [.agg [.int .i64 status1, .str r3, .view 2 (List.map enc_api_Field [([67, 111, 110, 116, 101, 110, 116, 45, 84, 121, 112, 101], [116, 101, 120, 116, 47, 112, 108, 97, 105, 110, 59, 32, 99, 104, 97, 114, 115, 101, 116, 61, 117, 116, 102, 45, 56]), ([88, 45, 67, 111, 110, 116, 101, 110, 116, 45, 84, 121, 112, 101, 45, 79, 112, 116, 105, 111, 110, 115], [110, 111, 115, 110, 105, 102, 102]), ([67, 111, 110, 116, 101, 110, 116, 45, 76, 101, 110, 103, 116, 104], r4), ([67, 111, 110, 110, 101, 99, 116, 105, 111, 110], [99, 108, 111, 115, 101])])]] (ref05_ResponseText_ok hr5) ⟨argR_agg ⟨argC_m false rfl, argC_m false rfl, argC_m false (by simp only [arg, go_sem, Nat.reduceEqDiff, reduceIte]), trivial⟩, trivial⟩ ?_
    (try simp only [go_sem, Nat.reduceEqDiff, reduceIte])
    refine hold2 (then_n ?_)
    refine J_seq ?_
    refine J_seq ?_
    refine J_region (by kernel_rfl) ?_
    (try simp only [go_sem, Nat.reduceEqDiff, reduceIte])
    refine hold2 (then_n ?_)
    refine J_condV rfl ?_
    (try simp only [go_sem, Nat.reduceEqDiff, reduceIte])
    rcases ite_cases hP with ⟨hc, hP⟩ | ⟨hc, hP⟩
    · refine condV_t hc ?_
      refine J_seq ?_
      refine J_region (by kernel_rfl) ?_
      (try simp only [go_sem, Nat.reduceEqDiff, reduceIte])
      refine hold2 (then_n ?_)
      refine J_ret (then_ret (fin_ret ?_))
      obtain rfl := Option.some.inj hP
      (try simp only [go_sem, Nat.reduceEqDiff, reduceIte])
      exact fo []
    · refine condV_f hc ?_
      refine J_skip (then_n ?_)
      refine J_seq ?_
      refine J_region (by kernel_rfl) ?_
      (try simp only [go_sem, Nat.reduceEqDiff, reduceIte])
      obtain ⟨_, hz6, hP⟩ := bind_cases hP
      refine chk_of (by first | exact szC_63 hz6 | (have q := szC_63 hz6; simp only [List.length_append, List.length_cons, List.length_nil] at q ⊢; omega)) ?_
      (try simp only [go_sem, Nat.reduceEqDiff, reduceIte])
      obtain ⟨_, hz7, hP⟩ := bind_cases hP
      refine chk_of (by first | exact szC_63 hz7 | (have q := szC_63 hz7; simp only [List.length_append, List.length_cons, List.length_nil] at q ⊢; omega)) ?_
      (try simp only [go_sem, Nat.reduceEqDiff, reduceIte])
      refine hold2 (then_n ?_)
      refine J_ret (fin_ret ?_)
      obtain rfl := Option.some.inj hP
      (try simp only [go_sem, Nat.reduceEqDiff, reduceIte])
      exact fo []
end Go.Proofs.YtgngopfpnidbaaaGreatDoor
