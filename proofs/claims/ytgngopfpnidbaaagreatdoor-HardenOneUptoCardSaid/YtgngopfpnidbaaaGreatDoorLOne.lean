/- Functions of the program, and pure ones that go the same ways: that the program's return what these compute. -/
import Derived.Test.YtgngopfpnidbaaaGreatDoorGCb
import Derived.Test.YtgngopfpnidbaaaGreatDoorGG
import Derived.Test.YtgngopfpnidbaaaGreatDoorGE
import Derived.Test.YtgngopfpnidbaaaGreatDoorAvY
import Derived.Test.YtgngopfpnidbaaaGreatDoorAvJ
namespace Go.Proofs.YtgngopfpnidbaaaGreatDoor
open Go.Av
set_option linter.unusedVariables false
set_option linter.unusedSimpArgs false
/-- colander/colanderlaw21.HardenOne -/
def law21_HardenOne (q1 : (List UInt8) × (List UInt8) × (List ((List UInt8) × (List UInt8)))) (length2 : Int) : Option (Bool) :=
  (law21_shown).bind fun r3 =>
  (head_RequestText (q1.1, q1.2.1, q1.2.2)).bind fun r4 =>
  (show Option (Bool) from
    if !r3 then
      some true
    else
      if decide (r4 = []) then
        some true
      else
        some (decide (8192 < length2))).bind fun j6 =>
    if j6 then
      some r3
    else
      (harden_Forward (q1.1, q1.2.1, q1.2.2) length2).bind fun r7 =>
      (framing_Request (r7.1, r7.2.1, r7.2.2)).bind fun r8 =>
      (show Option (Bool) from
        if !decide (r8.2 = 0) then
          some true
        else
          if decide (length2 < 0) then
            if !(decide (r8.1.1 = 0) && decide (r8.1.2 = 0)) then
              some true
            else
              if decide (0 ≤ length2) then
                some (!(decide (r8.1.1 = 1) && decide (r8.1.2 = length2)))
              else
                some false
          else
            if decide (0 ≤ length2) then
              some (!(decide (r8.1.1 = 1) && decide (r8.1.2 = length2)))
            else
              some false).bind fun j10 =>
        if j10 then
          some false
        else
          (harden_Forward (r7.1, r7.2.1, r7.2.2) length2).bind fun r11 =>
          (ref05_SameRequest (r7.1, r7.2.1, r7.2.2) (r11.1, r11.2.1, r11.2.2)).bind fun r12 =>
          (head_RequestText (r7.1, r7.2.1, r7.2.2)).bind fun r13 =>
          if decide (r13 = []) then
            (show Option (Bool) from
              if r12 then
                if decide (2048 < iadd .i64 (List.length r4 : Int) 90) then
                  some true
                else
                  some (decide (32 < ((List.length r7.2.2 : Nat) : Int)))
              else
                some false).bind fun j15 =>
              some j15
          else
            (head_Request r13).bind fun r16 =>
            (ref05_SameRequest (r7.1, r7.2.1, r7.2.2) (r16.1.1, r16.1.2.1, r16.1.2.2)).bind fun r17 =>
            if r12 then
              if r16.2 then
                if r17 then
                  (fields_Count r7.2.2 [99, 111, 110, 110, 101, 99, 116, 105, 111, 110]).bind fun r18 =>
                  some (decide (r18 = 0))
                else
                  some false
              else
                some false
            else
              some false
set_option maxRecDepth 100000 in
set_option maxHeartbeats 40000000 in
theorem law21_HardenOne_ok {q1 : (List UInt8) × (List UInt8) × (List ((List UInt8) × (List UInt8)))} {length2 : Int} {r : Bool} (hP : law21_HardenOne q1 length2 = some r) : CallOK Tryz.prog 7 [.agg [.str q1.1, .str q1.2.1, .view 2 (List.map enc_api_Field q1.2.2)], .int .i64 length2] (.bool r) [] := by
  unfold law21_HardenOne at hP
  refine co 104 [.tmp 4] Tryz.func7 ?_
  refine J_seq ?_
  refine J_region (by kernel_rfl) ?_
  (try simp only [go_sem, Nat.reduceEqDiff, reduceIte])
  refine hold2 (then_n ?_)
  refine J_seq ?_
  refine J_region (by kernel_rfl) ?_
  (try simp only [go_sem, Nat.reduceEqDiff, reduceIte])
  obtain ⟨r3, hr3, hP⟩ := bind_cases hP
  refine call_ok [] (law21_shown_ok hr3) trivial ?_
  (try simp only [go_sem, Nat.reduceEqDiff, reduceIte])
  refine hold2 (then_n ?_)
  refine J_seq ?_
  refine J_region (by kernel_rfl) ?_
  (try simp only [go_sem, Nat.reduceEqDiff, reduceIte])
  obtain ⟨r4, hr4, hP⟩ := bind_cases hP
  refine call_ok [.agg [.str q1.1, .str q1.2.1, .view 2 (List.map enc_api_Field q1.2.2)]] (head_RequestText_ok hr4) ⟨argR_m false rfl, trivial⟩ ?_
  (try simp only [go_sem, Nat.reduceEqDiff, reduceIte])
  refine hold2 (then_n ?_)
  refine J_seq ?_
  obtain ⟨o5, hP, hQ5⟩ := bind_cases hP
  refine J_join (fun (s : Bool) => envL [(1, .int .i64 length2), (2, .bptr 0 0), (5, .bool r3), (6, .str r4), (28, .bool s)]) (fun (s : Bool) => [.box 31 [.str q1.1, .str q1.2.1, .view 2 (List.map enc_api_Field q1.2.2)]]) (fun s => s = o5) ?_ ?_
  · clear hQ5
    refine J_region (by kernel_rfl) ?_
    (try simp only [go_sem, Nat.reduceEqDiff, reduceIte])
    rcases ite_cases hP with ⟨hc, hP⟩ | ⟨hc, hP⟩
    · refine guard_not hc ?_
      (try simp only [go_sem, Nat.reduceEqDiff, reduceIte])
      refine hold2 ?_
      exact join_n true (Option.some.inj hP) (so [0])
    · refine guard_is hc ?_
      (try simp only [go_sem, Nat.reduceEqDiff, reduceIte])
      rcases ite_cases hP with ⟨hc, hP⟩ | ⟨hc, hP⟩
      · refine guard_not hc ?_
        (try simp only [go_sem, Nat.reduceEqDiff, reduceIte])
        refine hold2 ?_
        exact join_n true (Option.some.inj hP) (so [0])
      · refine guard_is hc ?_
        (try simp only [go_sem, Nat.reduceEqDiff, reduceIte])
        refine hold2 ?_
        exact join_n (decide (8192 < length2)) (Option.some.inj hP) (so [0])
  · intro j6 hs
    subst hs
    have hP := hQ5
    clear hQ5
    refine J_condV rfl ?_
    (try simp only [go_sem, Nat.reduceEqDiff, reduceIte])
    rcases ite_cases hP with ⟨hc, hP⟩ | ⟨hc, hP⟩
    · refine condV_t hc ?_
      refine J_seq ?_
      refine J_region (by kernel_rfl) ?_
      (try simp only [go_sem, Nat.reduceEqDiff, reduceIte])
      refine hold2 (then_n ?_)
      refine J_ret (then_ret (fin_ret ?_))
      obtain rfl := Option.some.inj hP
      (try simp only [go_sem, Nat.reduceEqDiff, reduceIte])
      exact fo []
    · refine condV_f hc ?_
      refine J_skip (then_n ?_)
      refine J_seq ?_
      refine J_region (by kernel_rfl) ?_
      (try simp only [go_sem, Nat.reduceEqDiff, reduceIte])
      obtain ⟨r7, hr7, hP⟩ := bind_cases hP
      refine call_ok [.agg [.str q1.1, .str q1.2.1, .view 2 (List.map enc_api_Field q1.2.2)], .int .i64 length2] (harden_Forward_ok hr7) ⟨argR_m false rfl, argR_m false rfl, trivial⟩ ?_
      (try simp only [go_sem, Nat.reduceEqDiff, reduceIte])
      refine hold2 (then_n ?_)
      refine J_seq ?_
      refine J_region (by kernel_rfl) ?_
      (try simp only [go_sem, Nat.reduceEqDiff, reduceIte])
      obtain ⟨r8, hr8, hP⟩ := bind_cases hP
      refine call_ok [.agg [.str r7.1, .str r7.2.1, .view 2 (List.map enc_api_Field r7.2.2)]] (framing_Request_ok hr8) ⟨argR_agg ⟨argC_m false rfl, argC_m false rfl, argC_m false (by simp only [arg, go_sem, Nat.reduceEqDiff, reduceIte]), trivial⟩, trivial⟩ ?_
      (try simp only [go_sem, Nat.reduceEqDiff, reduceIte])
      refine hold2 (then_n ?_)
      refine J_seq ?_
      obtain ⟨o9, hP, hQ9⟩ := bind_cases hP
      refine J_join (fun (s : Bool) => envL [(1, .int .i64 length2), (6, .str r4), (7, .bptr 0 0), (58, .bool s)]) (fun (s : Bool) => [.box 31 [.str r7.1, .str r7.2.1, .own 1 0 0 (List.length r7.2.2)], .slice 0 37 2 (List.map enc_api_Field r7.2.2)]) (fun s => s = o9) ?_ ?_
      · clear hQ9
        refine J_region (by kernel_rfl) ?_
        (try simp only [go_sem, Nat.reduceEqDiff, reduceIte])
        rcases ite_cases hP with ⟨hc, hP⟩ | ⟨hc, hP⟩
        · refine guard_not hc ?_
          (try simp only [go_sem, Nat.reduceEqDiff, reduceIte])
          refine hold2 ?_
          exact join_n true (Option.some.inj hP) (so [2, 1])
        · refine guard_is hc ?_
          (try simp only [go_sem, Nat.reduceEqDiff, reduceIte])
          rcases ite_cases hP with ⟨hc, hP⟩ | ⟨hc, hP⟩
          · refine guard_is hc ?_
            (try simp only [go_sem, Nat.reduceEqDiff, reduceIte])
            rcases ite_cases hP with ⟨hc, hP⟩ | ⟨hc, hP⟩
            · refine guard_not hc ?_
              (try simp only [go_sem, Nat.reduceEqDiff, reduceIte])
              refine hold2 ?_
              exact join_n true (Option.some.inj hP) (so [2, 1])
            · refine guard_is hc ?_
              (try simp only [go_sem, Nat.reduceEqDiff, reduceIte])
              rcases ite_cases hP with ⟨hc, hP⟩ | ⟨hc, hP⟩
              · refine guard_is hc ?_
                (try simp only [go_sem, Nat.reduceEqDiff, reduceIte])
                refine hold2 ?_
                exact join_n (!(decide (r8.1.1 = 1) && decide (r8.1.2 = length2))) (Option.some.inj hP) (so [2, 1])
              · refine guard_not hc ?_
                (try simp only [go_sem, Nat.reduceEqDiff, reduceIte])
                refine hold2 ?_
                exact join_n false (Option.some.inj hP) (so [2, 1])
          · refine guard_not hc ?_
            (try simp only [go_sem, Nat.reduceEqDiff, reduceIte])
            rcases ite_cases hP with ⟨hc, hP⟩ | ⟨hc, hP⟩
            · refine guard_is hc ?_
              (try simp only [go_sem, Nat.reduceEqDiff, reduceIte])
              refine hold2 ?_
              exact join_n (!(decide (r8.1.1 = 1) && decide (r8.1.2 = length2))) (Option.some.inj hP) (so [2, 1])
            · refine guard_not hc ?_
              (try simp only [go_sem, Nat.reduceEqDiff, reduceIte])
              refine hold2 ?_
              exact join_n false (Option.some.inj hP) (so [2, 1])
      · intro j10 hs
        subst hs
        have hP := hQ9
        clear hQ9
        refine J_condV rfl ?_
        (try simp only [go_sem, Nat.reduceEqDiff, reduceIte])
        rcases ite_cases hP with ⟨hc, hP⟩ | ⟨hc, hP⟩
        · refine condV_t hc ?_
          refine J_seq ?_
          refine J_region (by kernel_rfl) ?_
          (try simp only [go_sem, Nat.reduceEqDiff, reduceIte])
          refine hold2 (then_n ?_)
          refine J_ret (then_ret (fin_ret ?_))
          obtain rfl := Option.some.inj hP
          (try simp only [go_sem, Nat.reduceEqDiff, reduceIte])
          exact fo []
        · refine condV_f hc ?_
          refine J_skip (then_n ?_)
          refine J_seq ?_
          refine J_region (by kernel_rfl) ?_
          (try simp only [go_sem, Nat.reduceEqDiff, reduceIte])
          obtain ⟨r11, hr11, hP⟩ := bind_cases hP
          refine call_ok [.agg [.str r7.1, .str r7.2.1, .view 2 (List.map enc_api_Field r7.2.2)], .int .i64 length2] (harden_Forward_ok hr11) ⟨argR_agg ⟨argC_m false rfl, argC_m false rfl, argC_m false (by simp only [arg, go_sem, Nat.reduceEqDiff, reduceIte]), trivial⟩, argR_m false rfl, trivial⟩ ?_
          (try simp only [go_sem, Nat.reduceEqDiff, reduceIte])
          refine hold2 (then_n ?_)
          refine J_seq ?_
          refine J_region (by kernel_rfl) ?_
          (try simp only [go_sem, Nat.reduceEqDiff, reduceIte])
          obtain ⟨r12, hr12, hP⟩ := bind_cases hP
          refine call_ok [.agg [.str r7.1, .str r7.2.1, .view 2 (List.map enc_api_Field r7.2.2)], .agg [.str r11.1, .str r11.2.1, .view 2 (List.map enc_api_Field r11.2.2)]] (ref05_SameRequest_ok hr12) ⟨argR_agg ⟨argC_m false rfl, argC_m false rfl, argC_m false (by simp only [arg, go_sem, Nat.reduceEqDiff, reduceIte]), trivial⟩, argR_agg ⟨argC_m false rfl, argC_m false rfl, argC_m false (by simp only [arg, go_sem, Nat.reduceEqDiff, reduceIte]), trivial⟩, trivial⟩ ?_
          (try simp only [go_sem, Nat.reduceEqDiff, reduceIte])
          refine hold2 (then_n ?_)
          refine J_seq ?_
          refine J_region (by kernel_rfl) ?_
          (try simp only [go_sem, Nat.reduceEqDiff, reduceIte])
          obtain ⟨r13, hr13, hP⟩ := bind_cases hP
          refine call_ok [.agg [.str r7.1, .str r7.2.1, .view 2 (List.map enc_api_Field r7.2.2)]] (head_RequestText_ok hr13) ⟨argR_agg ⟨argC_m false rfl, argC_m false rfl, argC_m false (by simp only [arg, go_sem, Nat.reduceEqDiff, reduceIte]), trivial⟩, trivial⟩ ?_
          (try simp only [go_sem, Nat.reduceEqDiff, reduceIte])
          refine hold2 (then_n ?_)
          refine J_seq ?_
          refine J_seq ?_
          refine J_region (by kernel_rfl) ?_
          (try simp only [go_sem, Nat.reduceEqDiff, reduceIte])
          refine hold2 (then_n ?_)
          refine J_condV rfl ?_
          (try simp only [go_sem, Nat.reduceEqDiff, reduceIte])
          rcases ite_cases hP with ⟨hc, hP⟩ | ⟨hc, hP⟩
          · refine condV_t hc ?_
            obtain ⟨o14, hP, hQ14⟩ := bind_cases hP
            refine J_join (fun (s : Bool) => envL [(4, .bool s)]) (fun (s : Bool) => []) (fun s => s = o14) ?_ ?_
            · clear hQ14
              refine J_region (by kernel_rfl) ?_
              (try simp only [go_sem, Nat.reduceEqDiff, reduceIte])
              rcases ite_cases hP with ⟨hc, hP⟩ | ⟨hc, hP⟩
              · refine guard_is hc ?_
                (try simp only [go_sem, Nat.reduceEqDiff, reduceIte])
                rcases ite_cases hP with ⟨hc, hP⟩ | ⟨hc, hP⟩
                · refine guard_not hc ?_
                  (try simp only [go_sem, Nat.reduceEqDiff, reduceIte])
                  refine hold2 ?_
                  exact join_n true (Option.some.inj hP) (so [])
                · refine guard_is hc ?_
                  (try simp only [go_sem, Nat.reduceEqDiff, reduceIte])
                  refine hold2 ?_
                  exact join_n (decide (32 < ((List.length r7.2.2 : Nat) : Int))) (Option.some.inj hP) (so [])
              · refine guard_not hc ?_
                (try simp only [go_sem, Nat.reduceEqDiff, reduceIte])
                refine hold2 ?_
                exact join_n false (Option.some.inj hP) (so [])
            · intro j15 hs
              subst hs
              have hP := hQ14
              clear hQ14
              refine J_ret (then_ret (fin_ret ?_))
              obtain rfl := Option.some.inj hP
              (try simp only [go_sem, Nat.reduceEqDiff, reduceIte])
              exact fo []
          · refine condV_f hc ?_
            refine J_skip (then_n ?_)
            refine J_seq ?_
            refine J_region (by kernel_rfl) ?_
            (try simp only [go_sem, Nat.reduceEqDiff, reduceIte])
            obtain ⟨r16, hr16, hP⟩ := bind_cases hP
            refine call_ok [.str r13] (head_Request_ok hr16) ⟨argR_m false rfl, trivial⟩ ?_
            (try simp only [go_sem, Nat.reduceEqDiff, reduceIte])
            refine hold2 (then_n ?_)
            refine J_seq ?_
            refine J_region (by kernel_rfl) ?_
            (try simp only [go_sem, Nat.reduceEqDiff, reduceIte])
            obtain ⟨r17, hr17, hP⟩ := bind_cases hP
            refine call_ok [.agg [.str r7.1, .str r7.2.1, .view 2 (List.map enc_api_Field r7.2.2)], .agg [.str r16.1.1, .str r16.1.2.1, .view 2 (List.map enc_api_Field r16.1.2.2)]] (ref05_SameRequest_ok hr17) ⟨argR_agg ⟨argC_m false rfl, argC_m false rfl, argC_m false (by simp only [arg, go_sem, Nat.reduceEqDiff, reduceIte]), trivial⟩, argR_agg ⟨argC_m false rfl, argC_m false rfl, argC_m false (by simp only [arg, go_sem, Nat.reduceEqDiff, reduceIte]), trivial⟩, trivial⟩ ?_
            (try simp only [go_sem, Nat.reduceEqDiff, reduceIte])
            refine hold2 (then_n ?_)
            refine J_seq ?_
            refine J_region (by kernel_rfl) ?_
            (try simp only [go_sem, Nat.reduceEqDiff, reduceIte])
            rcases ite_cases hP with ⟨hc, hP⟩ | ⟨hc, hP⟩
            · refine guard_is hc ?_
              (try simp only [go_sem, Nat.reduceEqDiff, reduceIte])
              rcases ite_cases hP with ⟨hc, hP⟩ | ⟨hc, hP⟩
              · refine guard_is hc ?_
                (try simp only [go_sem, Nat.reduceEqDiff, reduceIte])
                rcases ite_cases hP with ⟨hc, hP⟩ | ⟨hc, hP⟩
                · refine guard_is hc ?_
                  (try simp only [go_sem, Nat.reduceEqDiff, reduceIte])
                  obtain ⟨r18, hr18, hP⟩ := bind_cases hP
                  refine call_ok [.view 2 (List.map enc_api_Field r7.2.2), .str [99, 111, 110, 110, 101, 99, 116, 105, 111, 110]] (fields_Count_ok hr18) ⟨argR_m false (by simp only [arg, go_sem, Nat.reduceEqDiff, reduceIte]), argR_m false rfl, trivial⟩ ?_
                  (try simp only [go_sem, Nat.reduceEqDiff, reduceIte])
                  refine hold2 (then_n ?_)
                  refine J_ret (fin_ret ?_)
                  obtain rfl := Option.some.inj hP
                  (try simp only [go_sem, Nat.reduceEqDiff, reduceIte])
                  exact fo []
                · refine guard_not hc ?_
                  (try simp only [go_sem, Nat.reduceEqDiff, reduceIte])
                  refine hold2 (then_n ?_)
                  refine J_ret (fin_ret ?_)
                  obtain rfl := Option.some.inj hP
                  (try simp only [go_sem, Nat.reduceEqDiff, reduceIte])
                  exact fo []
              · refine guard_not hc ?_
                (try simp only [go_sem, Nat.reduceEqDiff, reduceIte])
                refine hold2 (then_n ?_)
                refine J_ret (fin_ret ?_)
                obtain rfl := Option.some.inj hP
                (try simp only [go_sem, Nat.reduceEqDiff, reduceIte])
                exact fo []
            · refine guard_not hc ?_
              (try simp only [go_sem, Nat.reduceEqDiff, reduceIte])
              refine hold2 (then_n ?_)
              refine J_ret (fin_ret ?_)
              obtain rfl := Option.some.inj hP
              (try simp only [go_sem, Nat.reduceEqDiff, reduceIte])
              exact fo []
end Go.Proofs.YtgngopfpnidbaaaGreatDoor
