/- Functions of the program, and pure ones that go the same ways: that the program's return what these compute. -/
import Derived.Test.YtgngopfpnidbaaaDoorGQ
import Derived.Test.YtgngopfpnidbaaaDoorGE
import Derived.Test.YtgngopfpnidbaaaDoorAvY
import Derived.Test.YtgngopfpnidbaaaDoorAvJ
namespace Go.Proofs.YtgngopfpnidbaaaDoor
open Go.Av
set_option linter.unusedVariables false
set_option linter.unusedSimpArgs false
/-- colander/colanderlaw21.HardenPages -/
def law21_HardenPages (p1 : Int × (List UInt8) × (List ((List UInt8) × (List UInt8)))) (length2 : Int) (b3 : Int × Int) (last4 : Bool) : Option (Bool) :=
  (law21_shown).bind fun r5 =>
  (harden_Page (p1.1, p1.2.1, p1.2.2) length2 last4).bind fun r6 =>
  (harden_Plain (p1.1, p1.2.1, p1.2.2) (b3.1, b3.2) last4).bind fun r7 =>
  (fields_All r6.2.2 [99, 111, 110, 116, 101, 110, 116, 45, 116, 121, 112, 101]).bind fun r8 =>
  (fields_All r6.2.2 [99, 111, 110, 116, 101, 110, 116, 45, 115, 101, 99, 117, 114, 105, 116, 121, 45, 112, 111, 108, 105, 99, 121]).bind fun r9 =>
  (fields_All r6.2.2 [120, 45, 99, 111, 110, 116, 101, 110, 116, 45, 116, 121, 112, 101, 45, 111, 112, 116, 105, 111, 110, 115]).bind fun r10 =>
  (show Option (Bool) from
    if !r5 then
      some true
    else
      if !decide (((List.length r8 : Nat) : Int) = 1) then
        some true
      else
        if !decide (((List.length r9 : Nat) : Int) = 1) then
          some true
        else
          if !decide (((List.length r10 : Nat) : Int) = 1) then
            some true
          else
            (ixL r8 0).bind fun x15 =>
            if !decide (x15 = [116, 101, 120, 116, 47, 104, 116, 109, 108, 59, 32, 99, 104, 97, 114, 115, 101, 116, 61, 117, 116, 102, 45, 56]) then
              some true
            else
              (ixL r9 0).bind fun x16 =>
              if !decide (x16 = [100, 101, 102, 97, 117, 108, 116, 45, 115, 114, 99, 32, 39, 110, 111, 110, 101, 39, 59, 32, 98, 97, 115, 101, 45, 117, 114, 105, 32, 39, 110, 111, 110, 101, 39, 59, 32, 102, 111, 114, 109, 45, 97, 99, 116, 105, 111, 110, 32, 39, 110, 111, 110, 101, 39, 59, 32, 115, 97, 110, 100, 98, 111, 120]) then
                some true
              else
                (ixL r10 0).bind fun x17 =>
                some (!decide (x17 = [110, 111, 115, 110, 105, 102, 102]))).bind fun j18 =>
    if j18 then
      some false
    else
      (harden_Kind (r6.1, r6.2.1, r6.2.2)).bind fun r19 =>
      (show Option (Bool) from
        if !r19.1 then
          some true
        else
          if !decide (r19.2.1 = [117, 116, 102, 45, 56]) then
            some true
          else
            if !decide (r19.2.2 = 0) then
              some true
            else
              (harden_Keeps r6.2.2).bind fun r23 =>
              if r23 == last4 then
                some true
              else
                (harden_Keeps r7.2.2).bind fun r24 =>
                some (r24 == last4)).bind fun j25 =>
        if j25 then
          some false
        else
          (fields_Count r6.2.2 [99, 111, 110, 116, 101, 110, 116, 45, 108, 101, 110, 103, 116, 104]).bind fun r26 =>
          (show Option (Bool) from
            (fields_Count r6.2.2 [116, 114, 97, 110, 115, 102, 101, 114, 45, 101, 110, 99, 111, 100, 105, 110, 103]).bind fun r29 =>
            if !decide (r29 = 0) then
              some true
            else
              if decide (1 < r26) then
                some true
              else
                some ((decide (r26 = 1)) != (decide (0 ≤ length2)))).bind fun j30 =>
            if j30 then
              some false
            else
              (fields_All r7.2.2 [120, 45, 99, 111, 110, 116, 101, 110, 116, 45, 116, 121, 112, 101, 45, 111, 112, 116, 105, 111, 110, 115]).bind fun r31 =>
              (fields_Count r7.2.2 [116, 114, 97, 110, 115, 102, 101, 114, 45, 101, 110, 99, 111, 100, 105, 110, 103]).bind fun r32 =>
              (fields_Count r7.2.2 [99, 111, 110, 116, 101, 110, 116, 45, 108, 101, 110, 103, 116, 104]).bind fun r33 =>
              if decide (((List.length r31 : Nat) : Int) = 1) then
                (ixL r31 0).bind fun x34 =>
                if decide (x34 = [110, 111, 115, 110, 105, 102, 102]) then
                  if decide (iadd .i64 r32 r33 ≤ 1) then
                    if decide (b3.1 = 2) then
                      some ((decide (r32 = 1)) == true)
                    else
                      some ((decide (r32 = 1)) == (decide (b3.1 = 3)))
                  else
                    some false
                else
                  some false
              else
                some false
set_option maxRecDepth 100000 in
set_option maxHeartbeats 40000000 in
theorem law21_HardenPages_ok {p1 : Int × (List UInt8) × (List ((List UInt8) × (List UInt8)))} {length2 : Int} {b3 : Int × Int} {last4 : Bool} {r : Bool} (hP : law21_HardenPages p1 length2 b3 last4 = some r) : CallOK Tryd.prog 3 [.agg [.int .i64 p1.1, .str p1.2.1, .view 2 (List.map enc_api_Field p1.2.2)], .int .i64 length2, .agg [.int .i64 b3.1, .int .i64 b3.2], .bool last4] (.bool r) [] := by
  unfold law21_HardenPages at hP
  refine co 160 [.tmp 8] Tryd.func3 ?_
  refine J_seq ?_
  refine J_region (by kernel_rfl) ?_
  (try simp only [go_sem, Nat.reduceEqDiff, ↓reduceIte])
  refine hold2 (then_n ?_)
  refine J_seq ?_
  refine J_region (by kernel_rfl) ?_
  (try simp only [go_sem, Nat.reduceEqDiff, ↓reduceIte])
  obtain ⟨r5, hr5, hP⟩ := bind_cases hP
  refine call_ok [] (law21_shown_ok hr5) trivial ?_
  (try simp only [go_sem, Nat.reduceEqDiff, ↓reduceIte])
  refine hold2 (then_n ?_)
  refine J_seq ?_
  refine J_region (by kernel_rfl) ?_
  (try simp only [go_sem, Nat.reduceEqDiff, ↓reduceIte])
  obtain ⟨r6, hr6, hP⟩ := bind_cases hP
  refine call_ok [.agg [.int .i64 p1.1, .str p1.2.1, .view 2 (List.map enc_api_Field p1.2.2)], .int .i64 length2, .bool last4] (harden_Page_ok hr6) ⟨argR_m false rfl, argR_m false rfl, argR_m false rfl, trivial⟩ ?_
  (try simp only [go_sem, Nat.reduceEqDiff, ↓reduceIte])
  refine hold2 (then_n ?_)
  refine J_seq ?_
  refine J_region (by kernel_rfl) ?_
  (try simp only [go_sem, Nat.reduceEqDiff, ↓reduceIte])
  obtain ⟨r7, hr7, hP⟩ := bind_cases hP
  refine call_ok [.agg [.int .i64 p1.1, .str p1.2.1, .view 2 (List.map enc_api_Field p1.2.2)], .agg [.int .i64 b3.1, .int .i64 b3.2], .bool last4] (harden_Plain_ok hr7) ⟨argR_m false rfl, argR_m false rfl, argR_m false rfl, trivial⟩ ?_
  (try simp only [go_sem, Nat.reduceEqDiff, ↓reduceIte])
  refine hold2 (then_n ?_)
  refine J_seq ?_
  refine J_region (by kernel_rfl) ?_
  (try simp only [go_sem, Nat.reduceEqDiff, ↓reduceIte])
  obtain ⟨r8, hr8, hP⟩ := bind_cases hP
  refine call_ok [.view 2 (List.map enc_api_Field r6.2.2), .str [99, 111, 110, 116, 101, 110, 116, 45, 116, 121, 112, 101]] (fields_All_ok hr8) ⟨argR_m false (by simp only [arg, go_sem, Nat.reduceEqDiff, ↓reduceIte]), argR_m false rfl, trivial⟩ ?_
  (try simp only [go_sem, Nat.reduceEqDiff, ↓reduceIte])
  refine hold2 (then_n ?_)
  refine J_seq ?_
  refine J_region (by kernel_rfl) ?_
  (try simp only [go_sem, Nat.reduceEqDiff, ↓reduceIte])
  obtain ⟨r9, hr9, hP⟩ := bind_cases hP
  refine call_ok [.view 2 (List.map enc_api_Field r6.2.2), .str [99, 111, 110, 116, 101, 110, 116, 45, 115, 101, 99, 117, 114, 105, 116, 121, 45, 112, 111, 108, 105, 99, 121]] (fields_All_ok hr9) ⟨argR_m false (by simp only [arg, go_sem, Nat.reduceEqDiff, ↓reduceIte]), argR_m false rfl, trivial⟩ ?_
  (try simp only [go_sem, Nat.reduceEqDiff, ↓reduceIte])
  refine hold2 (then_n ?_)
  refine J_seq ?_
  refine J_region (by kernel_rfl) ?_
  (try simp only [go_sem, Nat.reduceEqDiff, ↓reduceIte])
  obtain ⟨r10, hr10, hP⟩ := bind_cases hP
  refine call_ok [.view 2 (List.map enc_api_Field r6.2.2), .str [120, 45, 99, 111, 110, 116, 101, 110, 116, 45, 116, 121, 112, 101, 45, 111, 112, 116, 105, 111, 110, 115]] (fields_All_ok hr10) ⟨argR_m false (by simp only [arg, go_sem, Nat.reduceEqDiff, ↓reduceIte]), argR_m false rfl, trivial⟩ ?_
  (try simp only [go_sem, Nat.reduceEqDiff, ↓reduceIte])
  refine hold2 (then_n ?_)
  refine J_seq ?_
  obtain ⟨o14, hP, hQ14⟩ := bind_cases hP
  refine J_join (fun (s : Bool) => envL [(1, .int .i64 length2), (3, .bool last4), (6, .bptr 0 0), (10, .bptr 1 0), (11, .bptr 3 0), (74, .bool s)]) (fun (s : Bool) => [.box 26 [.int .i64 b3.1, .int .i64 b3.2], .box 24 [.int .i64 r6.1, .str r6.2.1, .own 2 0 0 (List.length r6.2.2)], .slice 0 42 2 (List.map enc_api_Field r6.2.2), .box 24 [.int .i64 r7.1, .str r7.2.1, .own 4 0 0 (List.length r7.2.2)], .slice 0 42 2 (List.map enc_api_Field r7.2.2)]) (fun s => s = o14) ?_ ?_
  · clear hQ14
    refine J_region (by kernel_rfl) ?_
    (try simp only [go_sem, Nat.reduceEqDiff, ↓reduceIte])
    rcases ite_cases hP with ⟨hc, hP⟩ | ⟨hc, hP⟩
    · refine guard_not hc ?_
      (try simp only [go_sem, Nat.reduceEqDiff, ↓reduceIte])
      refine hold2 ?_
      exact join_n true (Option.some.inj hP) (so [1, 3, 2, 5, 4])
    · refine guard_is hc ?_
      (try simp only [go_sem, Nat.reduceEqDiff, ↓reduceIte])
      rcases ite_cases hP with ⟨hc, hP⟩ | ⟨hc, hP⟩
      · refine guard_not hc ?_
        (try simp only [go_sem, Nat.reduceEqDiff, ↓reduceIte])
        refine hold2 ?_
        exact join_n true (Option.some.inj hP) (so [1, 3, 2, 5, 4])
      · refine guard_is hc ?_
        (try simp only [go_sem, Nat.reduceEqDiff, ↓reduceIte])
        rcases ite_cases hP with ⟨hc, hP⟩ | ⟨hc, hP⟩
        · refine guard_not hc ?_
          (try simp only [go_sem, Nat.reduceEqDiff, ↓reduceIte])
          refine hold2 ?_
          exact join_n true (Option.some.inj hP) (so [1, 3, 2, 5, 4])
        · refine guard_is hc ?_
          (try simp only [go_sem, Nat.reduceEqDiff, ↓reduceIte])
          rcases ite_cases hP with ⟨hc, hP⟩ | ⟨hc, hP⟩
          · refine guard_not hc ?_
            (try conv => arg 5; simp only [go_sem, Nat.reduceEqDiff, ↓reduceIte])
            (try simp only [go_sem, Nat.reduceEqDiff, ↓reduceIte])
            refine hold2 ?_
            exact join_n true (Option.some.inj hP) (so [1, 3, 2, 5, 4])
          · refine guard_is hc ?_
            (try conv => arg 5; simp only [go_sem, Nat.reduceEqDiff, ↓reduceIte])
            (try simp only [go_sem, Nat.reduceEqDiff, ↓reduceIte])
            obtain ⟨x15, hx15, hP⟩ := bind_cases hP
            refine ixO_of hx15 ?_
            (try simp only [go_sem, Nat.reduceEqDiff, ↓reduceIte])
            refine getK_of (f := encS) hx15 ?_
            (try simp only [go_sem, Nat.reduceEqDiff, ↓reduceIte])
            rcases ite_cases hP with ⟨hc, hP⟩ | ⟨hc, hP⟩
            · refine guard_not hc ?_
              (try conv => arg 5; simp only [go_sem, Nat.reduceEqDiff, ↓reduceIte])
              (try simp only [go_sem, Nat.reduceEqDiff, ↓reduceIte])
              refine hold2 ?_
              exact join_n true (Option.some.inj hP) (so [1, 3, 2, 5, 4])
            · refine guard_is hc ?_
              (try conv => arg 5; simp only [go_sem, Nat.reduceEqDiff, ↓reduceIte])
              (try simp only [go_sem, Nat.reduceEqDiff, ↓reduceIte])
              obtain ⟨x16, hx16, hP⟩ := bind_cases hP
              refine ixO_of hx16 ?_
              (try simp only [go_sem, Nat.reduceEqDiff, ↓reduceIte])
              refine getK_of (f := encS) hx16 ?_
              (try simp only [go_sem, Nat.reduceEqDiff, ↓reduceIte])
              rcases ite_cases hP with ⟨hc, hP⟩ | ⟨hc, hP⟩
              · refine guard_not hc ?_
                (try conv => arg 5; simp only [go_sem, Nat.reduceEqDiff, ↓reduceIte])
                (try simp only [go_sem, Nat.reduceEqDiff, ↓reduceIte])
                refine hold2 ?_
                exact join_n true (Option.some.inj hP) (so [1, 3, 2, 5, 4])
              · refine guard_is hc ?_
                (try conv => arg 5; simp only [go_sem, Nat.reduceEqDiff, ↓reduceIte])
                (try simp only [go_sem, Nat.reduceEqDiff, ↓reduceIte])
                obtain ⟨x17, hx17, hP⟩ := bind_cases hP
                refine ixO_of hx17 ?_
                (try simp only [go_sem, Nat.reduceEqDiff, ↓reduceIte])
                refine getK_of (f := encS) hx17 ?_
                (try simp only [go_sem, Nat.reduceEqDiff, ↓reduceIte])
                refine hold2 ?_
                exact join_n (!decide (x17 = [110, 111, 115, 110, 105, 102, 102])) (Option.some.inj hP) (so [1, 3, 2, 5, 4])
  · intro j18 hs
    subst hs
    have hP := hQ14
    clear hQ14
    refine J_condV rfl ?_
    (try simp only [go_sem, Nat.reduceEqDiff, ↓reduceIte])
    rcases ite_cases hP with ⟨hc, hP⟩ | ⟨hc, hP⟩
    · refine condV_t hc ?_
      refine J_seq ?_
      refine J_region (by kernel_rfl) ?_
      (try simp only [go_sem, Nat.reduceEqDiff, ↓reduceIte])
      refine hold2 (then_n ?_)
      refine J_ret (then_ret (fin_ret ?_))
      obtain rfl := Option.some.inj hP
      (try simp only [go_sem, Nat.reduceEqDiff, ↓reduceIte])
      exact fo []
    · refine condV_f hc ?_
      refine J_skip (then_n ?_)
      refine J_seq ?_
      refine J_region (by kernel_rfl) ?_
      (try simp only [go_sem, Nat.reduceEqDiff, ↓reduceIte])
      obtain ⟨r19, hr19, hP⟩ := bind_cases hP
      refine call_ok [.agg [.int .i64 r6.1, .str r6.2.1, .view 2 (List.map enc_api_Field r6.2.2)]] (harden_Kind_ok hr19) ⟨argR_agg ⟨argC_m false rfl, argC_m false rfl, argC_m false (by simp only [arg, go_sem, Nat.reduceEqDiff, ↓reduceIte]), trivial⟩, trivial⟩ ?_
      (try simp only [go_sem, Nat.reduceEqDiff, ↓reduceIte])
      refine hold2 (then_n ?_)
      refine J_seq ?_
      obtain ⟨o22, hP, hQ22⟩ := bind_cases hP
      refine J_join (fun (s : Bool) => envL [(1, .int .i64 length2), (6, .bptr 0 0), (10, .bptr 1 0), (11, .bptr 3 0), (104, .bool s)]) (fun (s : Bool) => [.box 26 [.int .i64 b3.1, .int .i64 b3.2], .box 24 [.int .i64 r6.1, .str r6.2.1, .own 2 0 0 (List.length r6.2.2)], .slice 0 42 2 (List.map enc_api_Field r6.2.2), .box 24 [.int .i64 r7.1, .str r7.2.1, .own 4 0 0 (List.length r7.2.2)], .slice 0 42 2 (List.map enc_api_Field r7.2.2)]) (fun s => s = o22) ?_ ?_
      · clear hQ22
        refine J_region (by kernel_rfl) ?_
        (try simp only [go_sem, Nat.reduceEqDiff, ↓reduceIte])
        rcases ite_cases hP with ⟨hc, hP⟩ | ⟨hc, hP⟩
        · refine guard_not hc ?_
          (try simp only [go_sem, Nat.reduceEqDiff, ↓reduceIte])
          refine hold2 ?_
          exact join_n true (Option.some.inj hP) (so [0, 1, 2, 3, 4])
        · refine guard_is hc ?_
          (try simp only [go_sem, Nat.reduceEqDiff, ↓reduceIte])
          rcases ite_cases hP with ⟨hc, hP⟩ | ⟨hc, hP⟩
          · refine guard_not hc ?_
            (try conv => arg 5; simp only [go_sem, Nat.reduceEqDiff, ↓reduceIte])
            (try simp only [go_sem, Nat.reduceEqDiff, ↓reduceIte])
            refine hold2 ?_
            exact join_n true (Option.some.inj hP) (so [0, 1, 2, 3, 4])
          · refine guard_is hc ?_
            (try conv => arg 5; simp only [go_sem, Nat.reduceEqDiff, ↓reduceIte])
            (try simp only [go_sem, Nat.reduceEqDiff, ↓reduceIte])
            rcases ite_cases hP with ⟨hc, hP⟩ | ⟨hc, hP⟩
            · refine guard_not hc ?_
              (try conv => arg 5; simp only [go_sem, Nat.reduceEqDiff, ↓reduceIte])
              (try simp only [go_sem, Nat.reduceEqDiff, ↓reduceIte])
              refine hold2 ?_
              exact join_n true (Option.some.inj hP) (so [0, 1, 2, 3, 4])
            · refine guard_is hc ?_
              (try conv => arg 5; simp only [go_sem, Nat.reduceEqDiff, ↓reduceIte])
              (try simp only [go_sem, Nat.reduceEqDiff, ↓reduceIte])
              obtain ⟨r23, hr23, hP⟩ := bind_cases hP
              refine call_ok [.view 2 (List.map enc_api_Field r6.2.2)] (harden_Keeps_ok hr23) ⟨argR_m false (by simp only [arg, go_sem, Nat.reduceEqDiff, ↓reduceIte]), trivial⟩ ?_
              (try simp only [go_sem, Nat.reduceEqDiff, ↓reduceIte])
              rcases ite_cases hP with ⟨hc, hP⟩ | ⟨hc, hP⟩
              · refine guard_not hc ?_
                (try conv => arg 5; simp only [go_sem, Nat.reduceEqDiff, ↓reduceIte])
                (try simp only [go_sem, Nat.reduceEqDiff, ↓reduceIte])
                refine hold2 ?_
                exact join_n true (Option.some.inj hP) (so [0, 1, 2, 3, 4])
              · refine guard_is hc ?_
                (try conv => arg 5; simp only [go_sem, Nat.reduceEqDiff, ↓reduceIte])
                (try simp only [go_sem, Nat.reduceEqDiff, ↓reduceIte])
                obtain ⟨r24, hr24, hP⟩ := bind_cases hP
                refine call_ok [.view 2 (List.map enc_api_Field r7.2.2)] (harden_Keeps_ok hr24) ⟨argR_m false (by simp only [arg, go_sem, Nat.reduceEqDiff, ↓reduceIte]), trivial⟩ ?_
                (try simp only [go_sem, Nat.reduceEqDiff, ↓reduceIte])
                refine hold2 ?_
                exact join_n (r24 == last4) (Option.some.inj hP) (so [0, 1, 2, 3, 4])
      · intro j25 hs
        subst hs
        have hP := hQ22
        clear hQ22
        refine J_condV rfl ?_
        (try simp only [go_sem, Nat.reduceEqDiff, ↓reduceIte])
        rcases ite_cases hP with ⟨hc, hP⟩ | ⟨hc, hP⟩
        · refine condV_t hc ?_
          refine J_seq ?_
          refine J_region (by kernel_rfl) ?_
          (try simp only [go_sem, Nat.reduceEqDiff, ↓reduceIte])
          refine hold2 (then_n ?_)
          refine J_ret (then_ret (fin_ret ?_))
          obtain rfl := Option.some.inj hP
          (try simp only [go_sem, Nat.reduceEqDiff, ↓reduceIte])
          exact fo []
        · refine condV_f hc ?_
          refine J_skip (then_n ?_)
          refine J_seq ?_
          refine J_region (by kernel_rfl) ?_
          (try simp only [go_sem, Nat.reduceEqDiff, ↓reduceIte])
          obtain ⟨r26, hr26, hP⟩ := bind_cases hP
          refine call_ok [.view 2 (List.map enc_api_Field r6.2.2), .str [99, 111, 110, 116, 101, 110, 116, 45, 108, 101, 110, 103, 116, 104]] (fields_Count_ok hr26) ⟨argR_m false (by simp only [arg, go_sem, Nat.reduceEqDiff, ↓reduceIte]), argR_m false rfl, trivial⟩ ?_
          (try simp only [go_sem, Nat.reduceEqDiff, ↓reduceIte])
          refine hold2 (then_n ?_)
          refine J_seq ?_
          obtain ⟨o28, hP, hQ28⟩ := bind_cases hP
          refine J_join (fun (s : Bool) => envL [(6, .bptr 0 0), (11, .bptr 1 0), (122, .bool s)]) (fun (s : Bool) => [.box 26 [.int .i64 b3.1, .int .i64 b3.2], .box 24 [.int .i64 r7.1, .str r7.2.1, .own 2 0 0 (List.length r7.2.2)], .slice 0 42 2 (List.map enc_api_Field r7.2.2)]) (fun s => s = o28) ?_ ?_
          · clear hQ28
            refine J_region (by kernel_rfl) ?_
            (try simp only [go_sem, Nat.reduceEqDiff, ↓reduceIte])
            obtain ⟨r29, hr29, hP⟩ := bind_cases hP
            refine call_ok [.view 2 (List.map enc_api_Field r6.2.2), .str [116, 114, 97, 110, 115, 102, 101, 114, 45, 101, 110, 99, 111, 100, 105, 110, 103]] (fields_Count_ok hr29) ⟨argR_m false (by simp only [arg, go_sem, Nat.reduceEqDiff, ↓reduceIte]), argR_m false rfl, trivial⟩ ?_
            (try simp only [go_sem, Nat.reduceEqDiff, ↓reduceIte])
            rcases ite_cases hP with ⟨hc, hP⟩ | ⟨hc, hP⟩
            · refine guard_not hc ?_
              (try conv => arg 5; simp only [go_sem, Nat.reduceEqDiff, ↓reduceIte])
              (try simp only [go_sem, Nat.reduceEqDiff, ↓reduceIte])
              refine hold2 ?_
              exact join_n true (Option.some.inj hP) (so [0, 3, 4])
            · refine guard_is hc ?_
              (try conv => arg 5; simp only [go_sem, Nat.reduceEqDiff, ↓reduceIte])
              (try simp only [go_sem, Nat.reduceEqDiff, ↓reduceIte])
              rcases ite_cases hP with ⟨hc, hP⟩ | ⟨hc, hP⟩
              · refine guard_not hc ?_
                (try conv => arg 5; simp only [go_sem, Nat.reduceEqDiff, ↓reduceIte])
                (try simp only [go_sem, Nat.reduceEqDiff, ↓reduceIte])
                refine hold2 ?_
                exact join_n true (Option.some.inj hP) (so [0, 3, 4])
              · refine guard_is hc ?_
                (try conv => arg 5; simp only [go_sem, Nat.reduceEqDiff, ↓reduceIte])
                (try simp only [go_sem, Nat.reduceEqDiff, ↓reduceIte])
                refine hold2 ?_
                exact join_n ((decide (r26 = 1)) != (decide (0 ≤ length2))) (Option.some.inj hP) (so [0, 3, 4])
          · intro j30 hs
            subst hs
            have hP := hQ28
            clear hQ28
            refine J_condV rfl ?_
            (try simp only [go_sem, Nat.reduceEqDiff, ↓reduceIte])
            rcases ite_cases hP with ⟨hc, hP⟩ | ⟨hc, hP⟩
            · refine condV_t hc ?_
              refine J_seq ?_
              refine J_region (by kernel_rfl) ?_
              (try simp only [go_sem, Nat.reduceEqDiff, ↓reduceIte])
              refine hold2 (then_n ?_)
              refine J_ret (then_ret (fin_ret ?_))
              obtain rfl := Option.some.inj hP
              (try simp only [go_sem, Nat.reduceEqDiff, ↓reduceIte])
              exact fo []
            · refine condV_f hc ?_
              refine J_skip (then_n ?_)
              refine J_seq ?_
              refine J_region (by kernel_rfl) ?_
              (try simp only [go_sem, Nat.reduceEqDiff, ↓reduceIte])
              obtain ⟨r31, hr31, hP⟩ := bind_cases hP
              refine call_ok [.view 2 (List.map enc_api_Field r7.2.2), .str [120, 45, 99, 111, 110, 116, 101, 110, 116, 45, 116, 121, 112, 101, 45, 111, 112, 116, 105, 111, 110, 115]] (fields_All_ok hr31) ⟨argR_m false (by simp only [arg, go_sem, Nat.reduceEqDiff, ↓reduceIte]), argR_m false rfl, trivial⟩ ?_
              (try simp only [go_sem, Nat.reduceEqDiff, ↓reduceIte])
              refine hold2 (then_n ?_)
              refine J_seq ?_
              refine J_region (by kernel_rfl) ?_
              (try simp only [go_sem, Nat.reduceEqDiff, ↓reduceIte])
              obtain ⟨r32, hr32, hP⟩ := bind_cases hP
              refine call_ok [.view 2 (List.map enc_api_Field r7.2.2), .str [116, 114, 97, 110, 115, 102, 101, 114, 45, 101, 110, 99, 111, 100, 105, 110, 103]] (fields_Count_ok hr32) ⟨argR_m false (by simp only [arg, go_sem, Nat.reduceEqDiff, ↓reduceIte]), argR_m false rfl, trivial⟩ ?_
              (try simp only [go_sem, Nat.reduceEqDiff, ↓reduceIte])
              refine hold2 (then_n ?_)
              refine J_seq ?_
              refine J_region (by kernel_rfl) ?_
              (try simp only [go_sem, Nat.reduceEqDiff, ↓reduceIte])
              obtain ⟨r33, hr33, hP⟩ := bind_cases hP
              refine call_ok [.view 2 (List.map enc_api_Field r7.2.2), .str [99, 111, 110, 116, 101, 110, 116, 45, 108, 101, 110, 103, 116, 104]] (fields_Count_ok hr33) ⟨argR_m false (by simp only [arg, go_sem, Nat.reduceEqDiff, ↓reduceIte]), argR_m false rfl, trivial⟩ ?_
              (try simp only [go_sem, Nat.reduceEqDiff, ↓reduceIte])
              refine hold2 (then_n ?_)
              refine J_seq ?_
              refine J_region (by kernel_rfl) ?_
              (try simp only [go_sem, Nat.reduceEqDiff, ↓reduceIte])
              rcases ite_cases hP with ⟨hc, hP⟩ | ⟨hc, hP⟩
              · refine guard_is hc ?_
                (try conv => arg 5; simp only [go_sem, Nat.reduceEqDiff, ↓reduceIte])
                (try simp only [go_sem, Nat.reduceEqDiff, ↓reduceIte])
                obtain ⟨x34, hx34, hP⟩ := bind_cases hP
                refine ixO_of hx34 ?_
                (try simp only [go_sem, Nat.reduceEqDiff, ↓reduceIte])
                refine getK_of (f := encS) hx34 ?_
                (try simp only [go_sem, Nat.reduceEqDiff, ↓reduceIte])
                rcases ite_cases hP with ⟨hc, hP⟩ | ⟨hc, hP⟩
                · refine guard_is hc ?_
                  (try conv => arg 5; simp only [go_sem, Nat.reduceEqDiff, ↓reduceIte])
                  (try simp only [go_sem, Nat.reduceEqDiff, ↓reduceIte])
                  rcases ite_cases hP with ⟨hc, hP⟩ | ⟨hc, hP⟩
                  · refine guard_is hc ?_
                    (try conv => arg 5; simp only [go_sem, Nat.reduceEqDiff, ↓reduceIte])
                    (try simp only [go_sem, Nat.reduceEqDiff, ↓reduceIte])
                    rcases ite_cases hP with ⟨hc, hP⟩ | ⟨hc, hP⟩
                    · refine guard_not hc ?_
                      (try conv => arg 5; simp only [go_sem, Nat.reduceEqDiff, ↓reduceIte])
                      (try simp only [go_sem, Nat.reduceEqDiff, ↓reduceIte])
                      refine hold2 (then_n ?_)
                      refine J_ret (fin_ret ?_)
                      obtain rfl := Option.some.inj hP
                      (try simp only [go_sem, Nat.reduceEqDiff, ↓reduceIte])
                      exact fo []
                    · refine guard_is hc ?_
                      (try conv => arg 5; simp only [go_sem, Nat.reduceEqDiff, ↓reduceIte])
                      (try simp only [go_sem, Nat.reduceEqDiff, ↓reduceIte])
                      refine hold2 (then_n ?_)
                      refine J_ret (fin_ret ?_)
                      obtain rfl := Option.some.inj hP
                      (try simp only [go_sem, Nat.reduceEqDiff, ↓reduceIte])
                      exact fo []
                  · refine guard_not hc ?_
                    (try conv => arg 5; simp only [go_sem, Nat.reduceEqDiff, ↓reduceIte])
                    (try simp only [go_sem, Nat.reduceEqDiff, ↓reduceIte])
                    refine hold2 (then_n ?_)
                    refine J_ret (fin_ret ?_)
                    obtain rfl := Option.some.inj hP
                    (try simp only [go_sem, Nat.reduceEqDiff, ↓reduceIte])
                    exact fo []
                · refine guard_not hc ?_
                  (try conv => arg 5; simp only [go_sem, Nat.reduceEqDiff, ↓reduceIte])
                  (try simp only [go_sem, Nat.reduceEqDiff, ↓reduceIte])
                  refine hold2 (then_n ?_)
                  refine J_ret (fin_ret ?_)
                  obtain rfl := Option.some.inj hP
                  (try simp only [go_sem, Nat.reduceEqDiff, ↓reduceIte])
                  exact fo []
              · refine guard_not hc ?_
                (try conv => arg 5; simp only [go_sem, Nat.reduceEqDiff, ↓reduceIte])
                (try simp only [go_sem, Nat.reduceEqDiff, ↓reduceIte])
                refine hold2 (then_n ?_)
                refine J_ret (fin_ret ?_)
                obtain rfl := Option.some.inj hP
                (try simp only [go_sem, Nat.reduceEqDiff, ↓reduceIte])
                exact fo []
end Go.Proofs.YtgngopfpnidbaaaDoor
