/- Functions of the program, and pure ones that go the same ways: that the program's return what these compute. -/
import Derived.Test.YtbcmngnmfneeaaaGreatDoorGE
import Derived.Test.YtbcmngnmfneeaaaGreatDoorAvY
import Derived.Test.YtbcmngnmfneeaaaGreatDoorEFl
import Derived.Test.YtbcmngnmfneeaaaGreatDoorAvPj
namespace Go.Proofs.YtbcmngnmfneeaaaGreatDoor
open Go.Av
set_option linter.unusedVariables false
set_option linter.unusedSimpArgs false
/-- colander/colanderlaw05.HeadWhole -/
def law05_HeadWhole (s1 : List UInt8) (cut2 : Int) : Option (Bool) :=
  (law05_shown).bind fun r3 =>
  (head_Request s1).bind fun r4 =>
  (head_Response s1).bind fun r5 =>
  (show Option (Bool) from
    if !r3 then
      some true
    else
      if !Option.isNone r4.2 then
        some (!Option.isNone r5.2)
      else
        some false).bind fun j7 =>
    if j7 then
      some r3
    else
      (head_New).bind fun r9 =>
      (show Option (Bool) from
        (szC (List.length s1)).bind fun _ =>
        (head_Reader_Take s1 false 0 ([] : List UInt8)).bind fun r17 =>
        if !decide (r17.1 = (List.length s1 : Int)) then
          some true
        else
          (head_Reader_Done (r17.2.2.2, r17.2.1, r17.2.2.1)).bind fun r18 =>
          some (!r18)).bind fun j19 =>
        if j19 then
          some false
        else
          (show Option (Int) from
            if decide (cut2 < 0) then
              some (ineg .i64 (iadd .i64 cut2 1))
            else
              some cut2).bind fun j21 =>
            (chk (decide ((List.length s1 : Int) ≠ 0))).bind fun _ =>
            (slL s1 0 (irem j21 (List.length s1 : Int))).bind fun s23 =>
            (head_Request s23).bind fun r24 =>
            (slL s1 0 (irem j21 (List.length s1 : Int))).bind fun s25 =>
            (head_Response s25).bind fun r26 =>
            (szC (List.length (s1 ++ [120]))).bind fun _ =>
            (head_Request (s1 ++ [120])).bind fun r28 =>
            (faultX r28.2).bind fun r29 =>
            if !Option.isNone r24.2 then
              if !Option.isNone r26.2 then
                (faultX r24.2).bind fun r30 =>
                if decide (r30.1 ≤ irem j21 (List.length s1 : Int)) then
                  (faultX r26.2).bind fun r31 =>
                  if decide (r31.1 ≤ irem j21 (List.length s1 : Int)) then
                    if !Option.isNone r4.2 then
                      some true
                    else
                      if (decide (r29.1 = (List.length s1 : Int)) && decide (r29.2 = 1)) then
                        some true
                      else
                        if decide (r29.2 = 17) then
                          some (decide ((List.length s1 : Int) = 2048))
                        else
                          some false
                  else
                    some false
                else
                  some false
              else
                some false
            else
              some false
set_option maxRecDepth 100000 in
set_option maxHeartbeats 40000000 in
theorem law05_HeadWhole_ok {s1 : List UInt8} {cut2 : Int} {r : Bool} (hP : law05_HeadWhole s1 cut2 = some r) : CallOK Tryz.prog 3 [.str s1, .int .i64 cut2] (.bool r) [] := by
  unfold law05_HeadWhole at hP
  refine co 125 [.tmp 4] Tryz.func3 ?_
  refine J_seq ?_
  refine J_region (by kernel_rfl) ?_
  (try simp only [go_sem, Nat.reduceEqDiff, ↓reduceIte])
  refine hold2 (then_n ?_)
  refine J_seq ?_
  refine J_region (by kernel_rfl) ?_
  (try simp only [go_sem, Nat.reduceEqDiff, ↓reduceIte])
  obtain ⟨r3, hr3, hP⟩ := bind_cases hP
  refine call_ok [] (law05_shown_ok hr3) trivial ?_
  (try simp only [go_sem, Nat.reduceEqDiff, ↓reduceIte])
  refine hold2 (then_n ?_)
  refine J_seq ?_
  refine J_region (by kernel_rfl) ?_
  (try simp only [go_sem, Nat.reduceEqDiff, ↓reduceIte])
  obtain ⟨r4, hr4, hP⟩ := bind_cases hP
  refine call_inF [.str s1] (head_Request_ok hr4) ⟨argR_m false rfl, trivial⟩ rfl (by first | rfl | simp [AV.vf, AV.vfL]) ?_
  (try simp only [go_sem, Nat.reduceEqDiff, ↓reduceIte])
  refine hold2 (then_n ?_)
  refine J_seq ?_
  refine J_region (by kernel_rfl) ?_
  (try simp only [go_sem, Nat.reduceEqDiff, ↓reduceIte])
  obtain ⟨r5, hr5, hP⟩ := bind_cases hP
  refine call_inF [.str s1] (head_Response_ok hr5) ⟨argR_m false rfl, trivial⟩ rfl (by first | rfl | simp [AV.vf, AV.vfL]) ?_
  (try simp only [go_sem, Nat.reduceEqDiff, ↓reduceIte])
  refine hold2 (then_n ?_)
  refine J_seq ?_
  obtain ⟨o6, hP, hQ6⟩ := bind_cases hP
  refine J_join (fun (s : Bool) => envL [(0, .str s1), (1, .int .i64 cut2), (5, .bool r3), (7, errF 74 r4.2), (38, .bool s)]) (fun (s : Bool) => []) (fun s => s = o6) ?_ ?_
  · clear hQ6
    refine J_region (by kernel_rfl) ?_
    (try simp only [go_sem, Nat.reduceEqDiff, ↓reduceIte])
    rcases ite_cases hP with ⟨hc, hP⟩ | ⟨hc, hP⟩
    · refine guard_not hc ?_
      (try simp only [go_sem, Nat.reduceEqDiff, ↓reduceIte])
      refine hold2 ?_
      exact join_n true (Option.some.inj hP) (so [])
    · refine guard_is hc ?_
      (try simp only [go_sem, Nat.reduceEqDiff, ↓reduceIte])
      rcases ite_cases hP with ⟨hc, hP⟩ | ⟨hc, hP⟩
      · refine guard_is hc ?_
        (try simp only [go_sem, Nat.reduceEqDiff, ↓reduceIte])
        refine hold2 ?_
        exact join_n (!Option.isNone r5.2) (Option.some.inj hP) (so [])
      · refine guard_not hc ?_
        (try simp only [go_sem, Nat.reduceEqDiff, ↓reduceIte])
        refine hold2 ?_
        exact join_n false (Option.some.inj hP) (so [])
  · intro j7 hs
    subst hs
    have hP := hQ6
    clear hQ6
    refine J_condV rfl ?_
    (try simp only [go_sem, Nat.reduceEqDiff, ↓reduceIte])
    rcases ite_cases hP with ⟨hc, hP⟩ | ⟨hc, hP⟩
    · refine condV_t hc ?_
      refine J_seq ?_
      refine J_region (by kernel_rfl) ?_
      (try simp only [go_sem, Nat.reduceEqDiff, ↓reduceIte])
      refine hold2 (then_n ?_)
      refine J_ret (then_ret (fin_ret ?_))
      obtain rfl := Option.some.inj hP
      (try simp only [go_sem, Nat.reduceEqDiff, ↓reduceIte])
      exact fo []
    · refine condV_f hc ?_
      refine J_skip (then_n ?_)
      refine J_seq ?_
      refine J_region (by kernel_rfl) ?_
      (try simp only [go_sem, Nat.reduceEqDiff, ↓reduceIte])
      obtain ⟨r9, hr8, hP⟩ := bind_cases hP
      refine call_pt [] [(0, .str s1), (1, .int .i64 cut2), (7, errF 74 r4.2)] [.box 72 [.own 1 0 0 (List.length ([] : List UInt8)), .bool false, .int .i64 0], .slice 0 5 1 (List.map encB ([] : List UInt8))] (.bptr 0 0) (head_New_ok hr8) trivial (told_of (sm [0, 1])) ?_
      (try simp only [go_sem, Nat.reduceEqDiff, ↓reduceIte])
      refine hold2 (then_n ?_)
      refine J_seq ?_
      obtain ⟨o14, hP, hQ14⟩ := bind_cases hP
      refine J_join (fun (s : Bool) => envL [(0, .str s1), (1, .int .i64 cut2), (7, errF 74 r4.2), (52, .bool s)]) (fun (s : Bool) => []) (fun s => s = o14) ?_ ?_
      · clear hQ14
        refine J_region (by kernel_rfl) ?_
        (try simp only [go_sem, Nat.reduceEqDiff, ↓reduceIte])
        obtain ⟨_, hz15, hP⟩ := bind_cases hP
        refine chk_of (szC_63 hz15) ?_
        (try simp only [go_sem, Nat.reduceEqDiff, ↓reduceIte])
        obtain ⟨r17, hr16, hP⟩ := bind_cases hP
        refine call_pt [0, 1] [(0, .str s1), (1, .int .i64 cut2), (7, errF 74 r4.2), (10, .bptr 0 0)] [.box 72 [.own 1 0 0 (List.length r17.2.2.2), .bool r17.2.1, .int .i64 r17.2.2.1], .slice 0 5 1 (List.map encB r17.2.2.2)] (.int .i64 r17.1) (head_Reader_Take_ok hr16) ⟨argP_r (by rfl), argP_o (by decide) (by simp only [arg, go_sem, Nat.reduceEqDiff, ↓reduceIte]), trivial⟩ (told_of (sm [3, 4])) ?_
        (try simp only [go_sem, Nat.reduceEqDiff, ↓reduceIte])
        rcases ite_cases hP with ⟨hc, hP⟩ | ⟨hc, hP⟩
        · refine guard_not hc ?_
          (try simp only [go_sem, Nat.reduceEqDiff, ↓reduceIte])
          refine hold2 ?_
          exact join_n true (Option.some.inj hP) (so [])
        · refine guard_is hc ?_
          (try simp only [go_sem, Nat.reduceEqDiff, ↓reduceIte])
          obtain ⟨r18, hr18, hP⟩ := bind_cases hP
          refine call_ok [.vptr (.agg [.view 1 (List.map encB r17.2.2.2), .bool r17.2.1, .int .i64 r17.2.2.1]) 0] (head_Reader_Done_ok hr18) ⟨argR_box rfl ⟨argC_m false (by simp only [arg, go_sem, Nat.reduceEqDiff, ↓reduceIte]), argC_m false rfl, argC_m false rfl, trivial⟩, trivial⟩ ?_
          (try simp only [go_sem, Nat.reduceEqDiff, ↓reduceIte])
          refine hold2 ?_
          exact join_n (!r18) (Option.some.inj hP) (so [])
      · intro j19 hs
        subst hs
        have hP := hQ14
        clear hQ14
        refine J_condV rfl ?_
        (try simp only [go_sem, Nat.reduceEqDiff, ↓reduceIte])
        rcases ite_cases hP with ⟨hc, hP⟩ | ⟨hc, hP⟩
        · refine condV_t hc ?_
          refine J_seq ?_
          refine J_region (by kernel_rfl) ?_
          (try simp only [go_sem, Nat.reduceEqDiff, ↓reduceIte])
          refine hold2 (then_n ?_)
          refine J_ret (then_ret (fin_ret ?_))
          obtain rfl := Option.some.inj hP
          (try simp only [go_sem, Nat.reduceEqDiff, ↓reduceIte])
          exact fo []
        · refine condV_f hc ?_
          refine J_skip (then_n ?_)
          obtain ⟨o20, hP, hQ20⟩ := bind_cases hP
          refine J_join (fun (s : Int) => envL [(0, .str s1), (1, .int .i64 s), (7, errF 74 r4.2)]) (fun (s : Int) => []) (fun s => s = o20) ?_ ?_
          · clear hQ20
            refine J_seq ?_
            refine J_region (by kernel_rfl) ?_
            (try simp only [go_sem, Nat.reduceEqDiff, ↓reduceIte])
            refine hold2 (then_n ?_)
            refine J_condV rfl ?_
            (try simp only [go_sem, Nat.reduceEqDiff, ↓reduceIte])
            rcases ite_cases hP with ⟨hc, hP⟩ | ⟨hc, hP⟩
            · refine condV_t hc ?_
              refine J_region (by kernel_rfl) ?_
              (try simp only [go_sem, Nat.reduceEqDiff, ↓reduceIte])
              refine hold2 ?_
              exact join_n (ineg .i64 (iadd .i64 cut2 1)) (Option.some.inj hP) (so [])
            · refine condV_f hc ?_
              refine J_skip ?_
              exact join_n cut2 (Option.some.inj hP) (so [])
          · intro j21 hs
            subst hs
            have hP := hQ20
            clear hQ20
            refine J_seq ?_
            refine J_region (by kernel_rfl) ?_
            (try simp only [go_sem, Nat.reduceEqDiff, ↓reduceIte])
            obtain ⟨_, hz22, hP⟩ := bind_cases hP
            refine chk_of (chk_prop hz22) ?_
            (try simp only [go_sem, Nat.reduceEqDiff, ↓reduceIte])
            refine hold2 (then_n ?_)
            refine J_seq ?_
            refine J_region (by kernel_rfl) ?_
            (try simp only [go_sem, Nat.reduceEqDiff, ↓reduceIte])
            obtain ⟨s23, hs23, hP⟩ := bind_cases hP
            refine slS_of hs23 ?_
            (try simp only [go_sem, Nat.reduceEqDiff, ↓reduceIte])
            obtain ⟨r24, hr24, hP⟩ := bind_cases hP
            refine call_inF [.str s23] (head_Request_ok hr24) ⟨argR_m false rfl, trivial⟩ rfl (by first | rfl | simp [AV.vf, AV.vfL]) ?_
            (try simp only [go_sem, Nat.reduceEqDiff, ↓reduceIte])
            refine hold2 (then_n ?_)
            refine J_seq ?_
            refine J_region (by kernel_rfl) ?_
            (try simp only [go_sem, Nat.reduceEqDiff, ↓reduceIte])
            obtain ⟨s25, hs25, hP⟩ := bind_cases hP
            refine slS_of hs25 ?_
            (try simp only [go_sem, Nat.reduceEqDiff, ↓reduceIte])
            obtain ⟨r26, hr26, hP⟩ := bind_cases hP
            refine call_inF [.str s25] (head_Response_ok hr26) ⟨argR_m false rfl, trivial⟩ rfl (by first | rfl | simp [AV.vf, AV.vfL]) ?_
            (try simp only [go_sem, Nat.reduceEqDiff, ↓reduceIte])
            refine hold2 (then_n ?_)
            refine J_seq ?_
            refine J_region (by kernel_rfl) ?_
            (try simp only [go_sem, Nat.reduceEqDiff, ↓reduceIte])
            obtain ⟨_, hz27, hP⟩ := bind_cases hP
            refine chk_of (by first | exact szC_63 hz27 | (have q := szC_63 hz27; simp only [List.length_append, List.length_cons, List.length_nil] at q ⊢; omega)) ?_
            (try simp only [go_sem, Nat.reduceEqDiff, ↓reduceIte])
            obtain ⟨r28, hr28, hP⟩ := bind_cases hP
            refine call_inF [.str (s1 ++ [120])] (head_Request_ok hr28) ⟨argR_m false rfl, trivial⟩ rfl (by first | rfl | simp [AV.vf, AV.vfL]) ?_
            (try simp only [go_sem, Nat.reduceEqDiff, ↓reduceIte])
            refine hold2 (then_n ?_)
            refine J_seq ?_
            refine J_region (by kernel_rfl) ?_
            (try simp only [go_sem, Nat.reduceEqDiff, ↓reduceIte])
            obtain ⟨r29, hr29, hP⟩ := bind_cases hP
            refine call_ok [errF 74 r28.2] (faultX_ok hr29) ⟨argR_errF, trivial⟩ ?_
            (try simp only [go_sem, Nat.reduceEqDiff, ↓reduceIte])
            refine hold2 (then_n ?_)
            refine J_seq ?_
            refine J_region (by kernel_rfl) ?_
            (try simp only [go_sem, Nat.reduceEqDiff, ↓reduceIte])
            rcases ite_cases hP with ⟨hc, hP⟩ | ⟨hc, hP⟩
            · refine guard_is hc ?_
              (try conv => arg 5; simp only [go_sem, Nat.reduceEqDiff, ↓reduceIte])
              (try simp only [go_sem, Nat.reduceEqDiff, ↓reduceIte])
              rcases ite_cases hP with ⟨hc, hP⟩ | ⟨hc, hP⟩
              · refine guard_is hc ?_
                (try conv => arg 5; simp only [go_sem, Nat.reduceEqDiff, ↓reduceIte])
                (try simp only [go_sem, Nat.reduceEqDiff, ↓reduceIte])
                obtain ⟨r30, hr30, hP⟩ := bind_cases hP
                refine call_ok [errF 74 r24.2] (faultX_ok hr30) ⟨argR_errF, trivial⟩ ?_
                (try simp only [go_sem, Nat.reduceEqDiff, ↓reduceIte])
                rcases ite_cases hP with ⟨hc, hP⟩ | ⟨hc, hP⟩
                · refine guard_is hc ?_
                  (try conv => arg 5; simp only [go_sem, Nat.reduceEqDiff, ↓reduceIte])
                  (try simp only [go_sem, Nat.reduceEqDiff, ↓reduceIte])
                  obtain ⟨r31, hr31, hP⟩ := bind_cases hP
                  refine call_ok [errF 74 r26.2] (faultX_ok hr31) ⟨argR_errF, trivial⟩ ?_
                  (try simp only [go_sem, Nat.reduceEqDiff, ↓reduceIte])
                  rcases ite_cases hP with ⟨hc, hP⟩ | ⟨hc, hP⟩
                  · refine guard_is hc ?_
                    (try conv => arg 5; simp only [go_sem, Nat.reduceEqDiff, ↓reduceIte])
                    (try simp only [go_sem, Nat.reduceEqDiff, ↓reduceIte])
                    rcases ite_cases hP with ⟨hc, hP⟩ | ⟨hc, hP⟩
                    · refine guard_not hc ?_
                      (try conv => arg 5; simp only [go_sem, Nat.reduceEqDiff, ↓reduceIte])
                      (try simp only [go_sem, Nat.reduceEqDiff, ↓reduceIte])
                      refine hold2 (then_n ?_)
                      refine J_ret (fin_ret ?_)
                      obtain rfl := Option.some.inj hP
                      (try simp only [go_sem, Nat.reduceEqDiff, ↓reduceIte])
                      exact fo []
                    · refine guard_is hc ?_
                      (try conv => arg 5; simp only [go_sem, Nat.reduceEqDiff, ↓reduceIte])
                      (try simp only [go_sem, Nat.reduceEqDiff, ↓reduceIte, Nat.reduceAdd, Nat.reduceSub, Nat.reduceLT, Nat.reduceMul, reduceCtorEq, Int.reduceToNat, Int.reduceLE, Int.reduceLT, Nat.reduceLeDiff])
                      rcases ite_cases hP with ⟨hc, hP⟩ | ⟨hc, hP⟩
                      · refine guard_not hc ?_
                        (try conv => arg 5; simp only [go_sem, Nat.reduceEqDiff, ↓reduceIte])
                        (try simp only [go_sem, Nat.reduceEqDiff, ↓reduceIte])
                        refine hold2 (then_n ?_)
                        refine J_ret (fin_ret ?_)
                        obtain rfl := Option.some.inj hP
                        (try simp only [go_sem, Nat.reduceEqDiff, ↓reduceIte, Nat.reduceAdd, Nat.reduceSub, Nat.reduceLT, Nat.reduceMul, reduceCtorEq, Int.reduceToNat, Int.reduceLE, Int.reduceLT, Nat.reduceLeDiff])
                        exact fo []
                      · refine guard_is hc ?_
                        (try conv => arg 5; simp only [go_sem, Nat.reduceEqDiff, ↓reduceIte])
                        (try simp only [go_sem, Nat.reduceEqDiff, ↓reduceIte])
                        rcases ite_cases hP with ⟨hc, hP⟩ | ⟨hc, hP⟩
                        · refine guard_is hc ?_
                          (try conv => arg 5; simp only [go_sem, Nat.reduceEqDiff, ↓reduceIte])
                          (try simp only [go_sem, Nat.reduceEqDiff, ↓reduceIte])
                          refine hold2 (then_n ?_)
                          refine J_ret (fin_ret ?_)
                          obtain rfl := Option.some.inj hP
                          (try simp only [go_sem, Nat.reduceEqDiff, ↓reduceIte])
                          exact fo []
                        · refine guard_not hc ?_
                          (try conv => arg 5; simp only [go_sem, Nat.reduceEqDiff, ↓reduceIte])
                          (try simp only [go_sem, Nat.reduceEqDiff, ↓reduceIte])
                          refine hold2 (then_n ?_)
                          refine J_ret (fin_ret ?_)
                          obtain rfl := Option.some.inj hP
                          (try simp only [go_sem, Nat.reduceEqDiff, ↓reduceIte])
                          exact fo []
                  · refine guard_not hc ?_
                    (try conv => arg 5; simp only [go_sem, Nat.reduceEqDiff, ↓reduceIte])
                    (try simp only [go_sem, Nat.reduceEqDiff, ↓reduceIte])
                    refine hold2 (then_n ?_)
                    refine J_ret (fin_ret ?_)
                    obtain rfl := Option.some.inj hP
                    (try simp only [go_sem, Nat.reduceEqDiff, ↓reduceIte])
                    exact fo []
                · refine guard_not hc ?_
                  (try conv => arg 5; simp only [go_sem, Nat.reduceEqDiff, ↓reduceIte])
                  (try simp only [go_sem, Nat.reduceEqDiff, ↓reduceIte])
                  refine hold2 (then_n ?_)
                  refine J_ret (fin_ret ?_)
                  obtain rfl := Option.some.inj hP
                  (try simp only [go_sem, Nat.reduceEqDiff, ↓reduceIte])
                  exact fo []
              · refine guard_not hc ?_
                (try conv => arg 5; simp only [go_sem, Nat.reduceEqDiff, ↓reduceIte])
                (try simp only [go_sem, Nat.reduceEqDiff, ↓reduceIte])
                refine hold2 (then_n ?_)
                refine J_ret (fin_ret ?_)
                obtain rfl := Option.some.inj hP
                (try simp only [go_sem, Nat.reduceEqDiff, ↓reduceIte])
                exact fo []
            · refine guard_not hc ?_
              (try conv => arg 5; simp only [go_sem, Nat.reduceEqDiff, ↓reduceIte])
              (try simp only [go_sem, Nat.reduceEqDiff, ↓reduceIte])
              refine hold2 (then_n ?_)
              refine J_ret (fin_ret ?_)
              obtain rfl := Option.some.inj hP
              (try simp only [go_sem, Nat.reduceEqDiff, ↓reduceIte])
              exact fo []
end Go.Proofs.YtbcmngnmfneeaaaGreatDoor
