/- Functions of the program, and pure ones that go the same ways: that the program's return what these compute. -/
import Derived.Test.YtgngopfpnidbaaaGreatDoorGCc
import Derived.Test.YtgngopfpnidbaaaGreatDoorGG
import Derived.Test.YtgngopfpnidbaaaGreatDoorGE
import Derived.Test.YtgngopfpnidbaaaGreatDoorAvY
import Derived.Test.YtgngopfpnidbaaaGreatDoorAvJ
namespace Go.Proofs.YtgngopfpnidbaaaGreatDoor
open Go.Av
set_option linter.unusedVariables false
set_option linter.unusedSimpArgs false
/-- colander/colanderlaw21.HardenFails -/
def law21_HardenFails_L76 : Nat → Int → (List (UInt8)) → Option (Unit)
  | 0, _, _ => none
  | k75 + 1, i73, l74 =>
    if decide (i73 < ((List.length l74 : Nat) : Int)) then
      (ixL l74 i73).bind fun x77 =>
      law21_HardenFails_L76 k75 (iadd .i64 i73 1) (List.set l74 (Int.toNat i73) (bC 9))
    else
      some ()
def law21_HardenFails_L62 (status1 : Int) (bare2 : Bool) (r3 : Bool) : Nat → Int → Option (Sum (Bool) (Unit))
  | 0, _ => none
  | k34 + 1, twice33 =>
    if decide (twice33 < 2) then
      (harden_Fail status1 bare2).bind fun r63 =>
      (show Option (Bool) from
        if !r3 then
          some true
        else
          (ref21_Fail status1 bare2).bind fun r66 =>
          some (!decide (r63 = r66))).bind fun j67 =>
        if j67 then
          some (Sum.inl false)
        else
          (law21_HardenFails_L76  1099511627776 0 r63).bind fun j79 =>
            if decide (r63 = []) then
              law21_HardenFails_L62 status1 bare2 r3 k34 (iadd .i64 twice33 1)
            else
              (harden_Fail status1 true).bind fun r80 =>
              (show Option (Bool) from
                if decide ((List.length r63 : Int) < (List.length r80 : Int)) then
                  some true
                else
                  (slL r63 0 (List.length r80 : Int)).bind fun s83 =>
                  some (!decide (s83 = r80))).bind fun j84 =>
                if j84 then
                  some (Sum.inl false)
                else
                  (head_Response r80).bind fun r85 =>
                  (framing_Response [71, 69, 84] (r85.1.1, r85.1.2.1, r85.1.2.2)).bind fun r86 =>
                  (show Option (Bool) from
                    if !r85.2 then
                      some true
                    else
                      if !decide (r86.2 = 0) then
                        some true
                      else
                        if !decide (r85.1.1 = status1) then
                          some true
                        else
                          if !decide (r86.1.1 = 1) then
                            some true
                          else
                            (harden_Keeps r85.1.2.2).bind fun r89 =>
                            if r89 then
                              some true
                            else
                              if !bare2 then
                                some (!decide (r86.1.2 = isub .i64 (List.length r63 : Int) (List.length r80 : Int)))
                              else
                                some false).bind fun j90 =>
                    if j90 then
                      some (Sum.inl false)
                    else
                      law21_HardenFails_L62 status1 bare2 r3 k34 (iadd .i64 twice33 1)
    else
      some (Sum.inr ())
def law21_HardenFails (status1 : Int) (bare2 : Bool) : Option (Bool) :=
  (law21_shown).bind fun r3 =>
  (law21_HardenFails_L62 status1 bare2 r3 1099511627776 0).bind fun o91 => match o91 with
  | Sum.inl r => some r
  | Sum.inr j92 =>
    some true
set_option maxRecDepth 100000 in
set_option maxHeartbeats 40000000 in
theorem law21_HardenFails_ok {status1 : Int} {bare2 : Bool} {r : Bool} (hP : law21_HardenFails status1 bare2 = some r) : CallOK Tryz.prog 6 [.int .i64 status1, .bool bare2] (.bool r) [] := by
  unfold law21_HardenFails at hP
  refine co 107 [.tmp 4] Tryz.func6 ?_
  refine J_seq ?_
  refine J_region (by kernel_rfl) ?_
  (try simp only [go_sem, Nat.reduceEqDiff, reduceIte])
  refine hold2 (then_n ?_)
  refine J_seq ?_
  refine J_region (by kernel_rfl) ?_
  (try simp only [go_sem, Nat.reduceEqDiff, reduceIte])
  obtain ⟨r3, hr3, hP⟩ := bind_cases hP
  refine call_ok [] (law21_shown_ok hr3) trivial ?_
  (try simp only [go_sem, Nat.reduceEqDiff, reduceIte])
  refine hold2 (then_n ?_)
  refine J_seq ?_
  refine J_seq ?_
  refine J_region (by kernel_rfl) ?_
  (try simp only [go_sem, Nat.reduceEqDiff, reduceIte])
  refine hold2 (then_n ?_)
  obtain ⟨o91, hP, hQ62⟩ := bind_cases hP
  refine J_joinK (fun (s : Unit) => envL []) (fun (s : Unit) => []) (fun s => Sum.inr s = o91) (by repeat (first | exact subC_then | refine subC_block ?_)) ?_ ?_
  · refine J_block ?_
    refine J_loop (σ := Nat × Int) (fun (s : Nat × Int) => envL [(0, .int .i64 status1), (1, .bool bare2), (5, .bool r3), (6, .int .i64 s.2)]) (fun (s : Nat × Int) => []) (fun s => law21_HardenFails_L62 status1 bare2 r3 s.1 s.2 = some o91) (fun s => s.1) (1099511627776, 0) hP (so []) ?_
    rintro ⟨k34, twice33⟩ hP
    dsimp only at hP ⊢
    cases k34 with
    | zero => simp [law21_HardenFails_L62] at hP
    | succ k34 =>
      simp only [law21_HardenFails_L62] at hP
      refine J_seq ?_
      refine J_seq ?_
      refine J_region (by kernel_rfl) ?_
      (try simp only [go_sem, Nat.reduceEqDiff, reduceIte])
      refine hold2 (then_n ?_)
      refine J_condV rfl ?_
      (try simp only [go_sem, Nat.reduceEqDiff, reduceIte])
      rcases ite_cases hP with ⟨hc, hP⟩ | ⟨hc, hP⟩
      · refine condV_t hc ?_
        refine J_skip (then_n ?_)
        refine J_seq ?_
        refine J_block ?_
        refine J_seq ?_
        refine J_region (by kernel_rfl) ?_
        (try simp only [go_sem, Nat.reduceEqDiff, reduceIte])
        obtain ⟨r63, hr63, hP⟩ := bind_cases hP
        refine call_ok [.int .i64 status1, .bool bare2] (harden_Fail_ok hr63) ⟨argR_m false rfl, argR_m false rfl, trivial⟩ ?_
        (try simp only [go_sem, Nat.reduceEqDiff, reduceIte])
        refine hold2 (then_n ?_)
        refine J_seq ?_
        refine J_region (by kernel_rfl) ?_
        (try simp only [go_sem, Nat.reduceEqDiff, reduceIte])
        first | refine bytesK_map ?_ | refine bytesK_of r63 rfl ?_
        (try simp only [go_sem, Nat.reduceEqDiff, reduceIte])
        refine hold2 (then_n ?_)
        refine J_seq ?_
        obtain ⟨o65, hP, hQ65⟩ := bind_cases hP
        refine J_join (fun (s : Bool) => envL [(0, .int .i64 status1), (1, .bool bare2), (5, .bool r3), (6, .int .i64 twice33), (7, .own 0 0 0 (List.length r63)), (8, .str r63), (33, .bool s)]) (fun (s : Bool) => [.slice 0 5 1 (List.map encB r63)]) (fun s => s = o65) ?_ ?_
        · clear hQ65
          refine J_region (by kernel_rfl) ?_
          (try simp only [go_sem, Nat.reduceEqDiff, reduceIte])
          rcases ite_cases hP with ⟨hc, hP⟩ | ⟨hc, hP⟩
          · refine guard_not hc ?_
            (try simp only [go_sem, Nat.reduceEqDiff, reduceIte])
            refine hold2 ?_
            exact join_n true (Option.some.inj hP) (so [0])
          · refine guard_is hc ?_
            (try simp only [go_sem, Nat.reduceEqDiff, reduceIte])
            obtain ⟨r66, hr66, hP⟩ := bind_cases hP
            refine call_ok [.int .i64 status1, .bool bare2] (ref21_Fail_ok hr66) ⟨argR_m false rfl, argR_m false rfl, trivial⟩ ?_
            (try simp only [go_sem, Nat.reduceEqDiff, reduceIte])
            refine hold2 ?_
            exact join_n (!decide (r63 = r66)) (Option.some.inj hP) (so [0])
        · intro j67 hs
          subst hs
          have hP := hQ65
          clear hQ65
          refine J_condV rfl ?_
          (try simp only [go_sem, Nat.reduceEqDiff, reduceIte])
          rcases ite_cases hP with ⟨hc, hP⟩ | ⟨hc, hP⟩
          · refine condV_t hc ?_
            refine J_seq ?_
            refine J_region (by kernel_rfl) ?_
            (try simp only [go_sem, Nat.reduceEqDiff, reduceIte])
            refine hold2 (then_n ?_)
            refine J_ret (then_ret (block_ret (then_ret (loop_ret (block_ret (join_ret (then_ret (fin_ret ?_))))))))
            obtain rfl := Option.some.inj hP
            have hP := hQ62
            dsimp only at hP
            obtain rfl := Option.some.inj hP
            (try simp only [go_sem, Nat.reduceEqDiff, reduceIte])
            exact fo []
          · refine condV_f hc ?_
            refine J_skip (then_n ?_)
            refine J_seq ?_
            refine J_seq ?_
            refine J_region (by kernel_rfl) ?_
            (try simp only [go_sem, Nat.reduceEqDiff, reduceIte])
            refine hold2 (then_n ?_)
            obtain ⟨o78, hP, hQ76⟩ := bind_cases hP
            refine J_joinK (fun (s : Unit) => envL [(0, .int .i64 status1), (1, .bool bare2), (5, .bool r3), (6, .int .i64 twice33), (8, .str r63)]) (fun (s : Unit) => []) (fun s => s = o78) (by repeat (first | exact subC_then | refine subC_block ?_)) ?_ ?_
            · clear hQ76
              refine J_block ?_
              refine J_loop (σ := Nat × Int × (List (UInt8))) (fun (s : Nat × Int × (List (UInt8))) => envL [(0, .int .i64 status1), (1, .bool bare2), (5, .bool r3), (6, .int .i64 twice33), (7, .own 0 0 0 (List.length s.2.2)), (8, .str r63), (9, .int .i64 s.2.1)]) (fun (s : Nat × Int × (List (UInt8))) => [.slice 0 5 1 (List.map encB s.2.2)]) (fun s => law21_HardenFails_L76  s.1 s.2.1 s.2.2 = some o78) (fun s => s.1) (1099511627776, 0, r63) hP (so [0]) ?_
              rintro ⟨k75, i73, l74⟩ hP
              dsimp only at hP ⊢
              cases k75 with
              | zero => simp [law21_HardenFails_L76] at hP
              | succ k75 =>
                simp only [law21_HardenFails_L76] at hP
                refine J_seq ?_
                refine J_seq ?_
                refine J_region (by kernel_rfl) ?_
                (try simp only [go_sem, Nat.reduceEqDiff, reduceIte])
                refine hold2 (then_n ?_)
                refine J_condV rfl ?_
                (try simp only [go_sem, Nat.reduceEqDiff, reduceIte])
                rcases ite_cases hP with ⟨hc, hP⟩ | ⟨hc, hP⟩
                · refine condV_t hc ?_
                  refine J_skip (then_n ?_)
                  refine J_seq ?_
                  refine J_block ?_
                  refine J_region (by kernel_rfl) ?_
                  (try simp only [go_sem, Nat.reduceEqDiff, reduceIte])
                  obtain ⟨x77, hx77, hP⟩ := bind_cases hP
                  refine ixO_of hx77 ?_
                  (try simp only [go_sem, Nat.reduceEqDiff, reduceIte])
                  refine getK_of (f := encB) hx77 ?_
                  (try simp only [go_sem, Nat.reduceEqDiff, reduceIte])
                  refine hold2 (block_n (then_n ?_))
                  refine J_region (by kernel_rfl) ?_
                  (try simp only [go_sem, Nat.reduceEqDiff, reduceIte])
                  refine hold2 ?_
                  exact loop_n (k75, iadd .i64 i73 1, List.set l74 (Int.toNat i73) (bC 9)) hP (Nat.lt_succ_self _) (so [0])
                · refine condV_f hc ?_
                  refine J_exit (then_exit (loop_exit (block_eq ?_)))
                  exact join_n () (Option.some.inj hP) (so [])
            · intro j79 hs
              subst hs
              have hP := hQ76
              clear hQ76
              refine then_n ?_
              refine J_seq ?_
              refine J_seq ?_
              refine J_region (by kernel_rfl) ?_
              (try simp only [go_sem, Nat.reduceEqDiff, reduceIte])
              refine hold2 (then_n ?_)
              refine J_condV rfl ?_
              (try simp only [go_sem, Nat.reduceEqDiff, reduceIte])
              rcases ite_cases hP with ⟨hc, hP⟩ | ⟨hc, hP⟩
              · refine condV_t hc ?_
                refine J_exit (then_exit (block_eq (then_n ?_)))
                refine J_region (by kernel_rfl) ?_
                (try simp only [go_sem, Nat.reduceEqDiff, reduceIte])
                refine hold2 ?_
                exact loop_n (k34, iadd .i64 twice33 1) hP (Nat.lt_succ_self _) (so [])
              · refine condV_f hc ?_
                refine J_skip (then_n ?_)
                refine J_seq ?_
                refine J_region (by kernel_rfl) ?_
                (try simp only [go_sem, Nat.reduceEqDiff, reduceIte])
                obtain ⟨r80, hr80, hP⟩ := bind_cases hP
                refine call_ok [.int .i64 status1, .bool true] (harden_Fail_ok hr80) ⟨argR_m false rfl, argR_m false rfl, trivial⟩ ?_
                (try simp only [go_sem, Nat.reduceEqDiff, reduceIte])
                first | refine bytesK_map ?_ | refine bytesK_of r80 rfl ?_
                (try simp only [go_sem, Nat.reduceEqDiff, reduceIte])
                refine hold2 (then_n ?_)
                refine J_seq ?_
                obtain ⟨o82, hP, hQ82⟩ := bind_cases hP
                refine J_join (fun (s : Bool) => envL [(0, .int .i64 status1), (1, .bool bare2), (5, .bool r3), (6, .int .i64 twice33), (8, .str r63), (10, .str r80), (60, .bool s)]) (fun (s : Bool) => []) (fun s => s = o82) ?_ ?_
                · clear hQ82
                  refine J_region (by kernel_rfl) ?_
                  (try simp only [go_sem, Nat.reduceEqDiff, reduceIte])
                  rcases ite_cases hP with ⟨hc, hP⟩ | ⟨hc, hP⟩
                  · refine guard_not hc ?_
                    (try simp only [go_sem, Nat.reduceEqDiff, reduceIte])
                    refine hold2 ?_
                    exact join_n true (Option.some.inj hP) (so [])
                  · refine guard_is hc ?_
                    (try simp only [go_sem, Nat.reduceEqDiff, reduceIte])
                    obtain ⟨s83, hs83, hP⟩ := bind_cases hP
                    refine slS_of hs83 ?_
                    (try simp only [go_sem, Nat.reduceEqDiff, reduceIte])
                    refine hold2 ?_
                    exact join_n (!decide (s83 = r80)) (Option.some.inj hP) (so [])
                · intro j84 hs
                  subst hs
                  have hP := hQ82
                  clear hQ82
                  refine J_condV rfl ?_
                  (try simp only [go_sem, Nat.reduceEqDiff, reduceIte])
                  rcases ite_cases hP with ⟨hc, hP⟩ | ⟨hc, hP⟩
                  · refine condV_t hc ?_
                    refine J_seq ?_
                    refine J_region (by kernel_rfl) ?_
                    (try simp only [go_sem, Nat.reduceEqDiff, reduceIte])
                    refine hold2 (then_n ?_)
                    refine J_ret (then_ret (block_ret (then_ret (loop_ret (block_ret (join_ret (then_ret (fin_ret ?_))))))))
                    obtain rfl := Option.some.inj hP
                    have hP := hQ62
                    dsimp only at hP
                    obtain rfl := Option.some.inj hP
                    (try simp only [go_sem, Nat.reduceEqDiff, reduceIte])
                    exact fo []
                  · refine condV_f hc ?_
                    refine J_skip (then_n ?_)
                    refine J_seq ?_
                    refine J_region (by kernel_rfl) ?_
                    (try simp only [go_sem, Nat.reduceEqDiff, reduceIte])
                    obtain ⟨r85, hr85, hP⟩ := bind_cases hP
                    refine call_ok [.str r80] (head_Response_ok hr85) ⟨argR_m false rfl, trivial⟩ ?_
                    (try simp only [go_sem, Nat.reduceEqDiff, reduceIte])
                    refine hold2 (then_n ?_)
                    refine J_seq ?_
                    refine J_region (by kernel_rfl) ?_
                    (try simp only [go_sem, Nat.reduceEqDiff, reduceIte])
                    obtain ⟨r86, hr86, hP⟩ := bind_cases hP
                    refine call_ok [.str [71, 69, 84], .agg [.int .i64 r85.1.1, .str r85.1.2.1, .view 2 (List.map enc_api_Field r85.1.2.2)]] (framing_Response_ok hr86) ⟨argR_m false rfl, argR_agg ⟨argC_m false rfl, argC_m false rfl, argC_m false (by simp only [arg, go_sem, Nat.reduceEqDiff, reduceIte]), trivial⟩, trivial⟩ ?_
                    (try simp only [go_sem, Nat.reduceEqDiff, reduceIte])
                    refine hold2 (then_n ?_)
                    obtain ⟨o88, hP, hQ88⟩ := bind_cases hP
                    refine J_join (fun (s : Bool) => envL [(0, .int .i64 status1), (1, .bool bare2), (5, .bool r3), (6, .int .i64 twice33), (106, .bool s)]) (fun (s : Bool) => []) (fun s => s = o88) ?_ ?_
                    · clear hQ88
                      refine J_region (by kernel_rfl) ?_
                      (try simp only [go_sem, Nat.reduceEqDiff, reduceIte])
                      rcases ite_cases hP with ⟨hc, hP⟩ | ⟨hc, hP⟩
                      · refine guard_not hc ?_
                        (try simp only [go_sem, Nat.reduceEqDiff, reduceIte])
                        refine hold2 ?_
                        exact join_n true (Option.some.inj hP) (so [])
                      · refine guard_is hc ?_
                        (try simp only [go_sem, Nat.reduceEqDiff, reduceIte])
                        rcases ite_cases hP with ⟨hc, hP⟩ | ⟨hc, hP⟩
                        · refine guard_not hc ?_
                          (try simp only [go_sem, Nat.reduceEqDiff, reduceIte])
                          refine hold2 ?_
                          exact join_n true (Option.some.inj hP) (so [])
                        · refine guard_is hc ?_
                          (try simp only [go_sem, Nat.reduceEqDiff, reduceIte])
                          rcases ite_cases hP with ⟨hc, hP⟩ | ⟨hc, hP⟩
                          · refine guard_not hc ?_
                            (try simp only [go_sem, Nat.reduceEqDiff, reduceIte])
                            refine hold2 ?_
                            exact join_n true (Option.some.inj hP) (so [])
                          · refine guard_is hc ?_
                            (try simp only [go_sem, Nat.reduceEqDiff, reduceIte])
                            rcases ite_cases hP with ⟨hc, hP⟩ | ⟨hc, hP⟩
                            · refine guard_not hc ?_
                              (try simp only [go_sem, Nat.reduceEqDiff, reduceIte])
                              refine hold2 ?_
                              exact join_n true (Option.some.inj hP) (so [])
                            · refine guard_is hc ?_
                              (try simp only [go_sem, Nat.reduceEqDiff, reduceIte])
                              obtain ⟨r89, hr89, hP⟩ := bind_cases hP
                              refine call_ok [.view 2 (List.map enc_api_Field r85.1.2.2)] (harden_Keeps_ok hr89) ⟨argR_m false (by simp only [arg, go_sem, Nat.reduceEqDiff, reduceIte]), trivial⟩ ?_
                              (try simp only [go_sem, Nat.reduceEqDiff, reduceIte])
                              rcases ite_cases hP with ⟨hc, hP⟩ | ⟨hc, hP⟩
                              · refine guard_not hc ?_
                                (try simp only [go_sem, Nat.reduceEqDiff, reduceIte])
                                refine hold2 ?_
                                exact join_n true (Option.some.inj hP) (so [])
                              · refine guard_is hc ?_
                                (try simp only [go_sem, Nat.reduceEqDiff, reduceIte])
                                rcases ite_cases hP with ⟨hc, hP⟩ | ⟨hc, hP⟩
                                · refine guard_is hc ?_
                                  (try simp only [go_sem, Nat.reduceEqDiff, reduceIte])
                                  refine hold2 ?_
                                  exact join_n (!decide (r86.1.2 = isub .i64 (List.length r63 : Int) (List.length r80 : Int))) (Option.some.inj hP) (so [])
                                · refine guard_not hc ?_
                                  (try simp only [go_sem, Nat.reduceEqDiff, reduceIte])
                                  refine hold2 ?_
                                  exact join_n false (Option.some.inj hP) (so [])
                    · intro j90 hs
                      subst hs
                      have hP := hQ88
                      clear hQ88
                      refine J_condV rfl ?_
                      (try simp only [go_sem, Nat.reduceEqDiff, reduceIte])
                      rcases ite_cases hP with ⟨hc, hP⟩ | ⟨hc, hP⟩
                      · refine condV_t hc ?_
                        refine J_seq ?_
                        refine J_region (by kernel_rfl) ?_
                        (try simp only [go_sem, Nat.reduceEqDiff, reduceIte])
                        refine hold2 (then_n ?_)
                        refine J_ret (block_ret (then_ret (loop_ret (block_ret (join_ret (then_ret (fin_ret ?_)))))))
                        obtain rfl := Option.some.inj hP
                        have hP := hQ62
                        dsimp only at hP
                        obtain rfl := Option.some.inj hP
                        (try simp only [go_sem, Nat.reduceEqDiff, reduceIte])
                        exact fo []
                      · refine condV_f hc ?_
                        refine J_skip (block_n (then_n ?_))
                        refine J_region (by kernel_rfl) ?_
                        (try simp only [go_sem, Nat.reduceEqDiff, reduceIte])
                        refine hold2 ?_
                        exact loop_n (k34, iadd .i64 twice33 1) hP (Nat.lt_succ_self _) (so [])
      · refine condV_f hc ?_
        refine J_exit (then_exit (loop_exit (block_eq ?_)))
        exact join_n () (Option.some.inj hP) (so [])
  · intro j92 hs
    subst hs
    have hP := hQ62
    dsimp only at hP
    clear hQ62
    refine then_n ?_
    refine J_seq ?_
    refine J_region (by kernel_rfl) ?_
    (try simp only [go_sem, Nat.reduceEqDiff, reduceIte])
    refine hold2 (then_n ?_)
    refine J_ret (fin_ret ?_)
    obtain rfl := Option.some.inj hP
    (try simp only [go_sem, Nat.reduceEqDiff, reduceIte])
    exact fo []
end Go.Proofs.YtgngopfpnidbaaaGreatDoor
