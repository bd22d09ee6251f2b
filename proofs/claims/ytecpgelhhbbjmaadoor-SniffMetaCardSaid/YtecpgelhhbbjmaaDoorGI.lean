/- Functions of the program, and pure ones that go the same ways: that the program's return what these compute. -/
import Derived.Test.YtecpgelhhbbjmaaDoorGG
import Derived.Test.YtecpgelhhbbjmaaDoorGD
import Derived.Test.YtecpgelhhbbjmaaDoorAvPj
namespace Go.Proofs.YtecpgelhhbbjmaaDoor
open Go.Av
set_option linter.unusedVariables false
set_option linter.unusedSimpArgs false
/-- colander/colanderlaw11.shown -/
def law11_shown : Option (Bool) :=
  (sniff_Pick [108, 97, 116, 105, 110, 49] [(bC 239), (bC 187), (bC 191), (bC 65)]).bind fun r1 =>
  (sniff_Decode [] [(bC 60), (bC 77), (bC 69), (bC 84), (bC 65), (bC 32), (bC 99), (bC 104), (bC 97), (bC 114), (bC 115), (bC 101), (bC 116), (bC 61), (bC 39), (bC 85), (bC 84), (bC 70), (bC 45), (bC 49), (bC 54), (bC 39), (bC 62), (bC 226), (bC 130), (bC 172)]).bind fun r2 =>
  (sniff_Decode [117, 116, 102, 45, 49, 54] ([] : List UInt8)).bind fun r3 =>
  if decide (r1.1 = 1) then
    if decide (r1.2 = 3) then
      (sniff_Content [97, 59, 32, 99, 104, 97, 114, 115, 101, 116, 32, 61, 32, 34, 117, 116, 102, 45, 56, 34]).bind fun r4 =>
      if decide (r4 = 1) then
        (sniff_Prescan [(bC 60), (bC 33), (bC 45), (bC 45), (bC 32), (bC 60), (bC 109), (bC 101), (bC 116), (bC 97), (bC 32), (bC 99), (bC 104), (bC 97), (bC 114), (bC 115), (bC 101), (bC 116), (bC 61), (bC 117), (bC 116), (bC 102), (bC 45), (bC 56), (bC 62), (bC 32), (bC 45), (bC 45), (bC 62), (bC 60), (bC 109), (bC 101), (bC 116), (bC 97), (bC 32), (bC 99), (bC 104), (bC 97), (bC 114), (bC 115), (bC 101), (bC 116), (bC 61), (bC 108), (bC 97), (bC 116), (bC 105), (bC 110), (bC 49), (bC 62)]).bind fun r5 =>
        if decide (r5 = 2) then
          if decide (r2.2 = 0) then
            if decide (r2.1 = [60, 77, 69, 84, 65, 32, 99, 104, 97, 114, 115, 101, 116, 61, 39, 85, 84, 70, 45, 49, 54, 39, 62, 226, 130, 172]) then
              some (decide (r3.2 = 40))
            else
              some false
          else
            some false
        else
          some false
      else
        some false
    else
      some false
  else
    some false
set_option maxRecDepth 100000 in
set_option maxHeartbeats 40000000 in
theorem law11_shown_ok {r : Bool} (hP : law11_shown = some r) : CallOK Tryd.prog 10 [] (.bool r) [] := by
  unfold law11_shown at hP
  refine co 51 [.tmp 0] Tryd.func10 ?_
  refine J_seq ?_
  refine J_region (by kernel_rfl) ?_
  (try simp only [go_sem, Nat.reduceEqDiff, ↓reduceIte])
  refine hold2 (then_n ?_)
  refine J_seq ?_
  refine J_region (by kernel_rfl) ?_
  (try simp only [go_sem, Nat.reduceEqDiff, ↓reduceIte])
  obtain ⟨r1, hr1, hP⟩ := bind_cases hP
  refine call_ok [.str [108, 97, 116, 105, 110, 49], .view 1 (List.map encB [(bC 239), (bC 187), (bC 191), (bC 65)])] (sniff_Pick_ok hr1) ⟨argR_m false rfl, argR_m false (by simp only [arg, go_sem, Nat.reduceEqDiff, ↓reduceIte]), trivial⟩ ?_
  (try simp only [go_sem, Nat.reduceEqDiff, ↓reduceIte])
  refine hold2 (then_n ?_)
  refine J_seq ?_
  refine J_region (by kernel_rfl) ?_
  (try simp only [go_sem, Nat.reduceEqDiff, ↓reduceIte, Nat.reduceAdd, Nat.reduceSub, Nat.reduceLT, Nat.reduceMul, reduceCtorEq, Int.reduceToNat, Int.reduceLE, Int.reduceLT, Nat.reduceLeDiff])
  obtain ⟨r2, hr2, hP⟩ := bind_cases hP
  refine call_ok [.str [], .view 1 (List.map encB [(bC 60), (bC 77), (bC 69), (bC 84), (bC 65), (bC 32), (bC 99), (bC 104), (bC 97), (bC 114), (bC 115), (bC 101), (bC 116), (bC 61), (bC 39), (bC 85), (bC 84), (bC 70), (bC 45), (bC 49), (bC 54), (bC 39), (bC 62), (bC 226), (bC 130), (bC 172)])] (sniff_Decode_ok hr2) ⟨argR_m false rfl, argR_m false (by simp only [arg, go_sem, Nat.reduceEqDiff, ↓reduceIte]), trivial⟩ ?_
  (try simp only [go_sem, Nat.reduceEqDiff, ↓reduceIte])
  refine hold2 (then_n ?_)
  refine J_seq ?_
  refine J_region (by kernel_rfl) ?_
  (try simp only [go_sem, Nat.reduceEqDiff, ↓reduceIte])
  obtain ⟨r3, hr3, hP⟩ := bind_cases hP
  refine call_ok [.str [117, 116, 102, 45, 49, 54], .view 1 (List.map encB [])] (sniff_Decode_ok hr3) ⟨argR_m false rfl, argR_nil, trivial⟩ ?_
  (try simp only [go_sem, Nat.reduceEqDiff, ↓reduceIte])
  refine hold2 (then_n ?_)
  refine J_seq ?_
  refine J_region (by kernel_rfl) ?_
  (try simp only [go_sem, Nat.reduceEqDiff, ↓reduceIte])
  rcases ite_cases hP with ⟨hc, hP⟩ | ⟨hc, hP⟩
  · refine guard_is hc ?_
    (try simp only [go_sem, Nat.reduceEqDiff, ↓reduceIte])
    rcases ite_cases hP with ⟨hc, hP⟩ | ⟨hc, hP⟩
    · refine guard_is hc ?_
      (try simp only [go_sem, Nat.reduceEqDiff, ↓reduceIte])
      obtain ⟨r4, hr4, hP⟩ := bind_cases hP
      refine call_ok [.str [97, 59, 32, 99, 104, 97, 114, 115, 101, 116, 32, 61, 32, 34, 117, 116, 102, 45, 56, 34]] (sniff_Content_ok hr4) ⟨argR_m false rfl, trivial⟩ ?_
      (try simp only [go_sem, Nat.reduceEqDiff, ↓reduceIte])
      rcases ite_cases hP with ⟨hc, hP⟩ | ⟨hc, hP⟩
      · refine guard_is hc ?_
        (try simp only [go_sem, Nat.reduceEqDiff, ↓reduceIte, Nat.reduceAdd, Nat.reduceSub, Nat.reduceLT, Nat.reduceMul, reduceCtorEq, Int.reduceToNat, Int.reduceLE, Int.reduceLT, Nat.reduceLeDiff])
        obtain ⟨r5, hr5, hP⟩ := bind_cases hP
        refine call_ok [.view 1 (List.map encB [(bC 60), (bC 33), (bC 45), (bC 45), (bC 32), (bC 60), (bC 109), (bC 101), (bC 116), (bC 97), (bC 32), (bC 99), (bC 104), (bC 97), (bC 114), (bC 115), (bC 101), (bC 116), (bC 61), (bC 117), (bC 116), (bC 102), (bC 45), (bC 56), (bC 62), (bC 32), (bC 45), (bC 45), (bC 62), (bC 60), (bC 109), (bC 101), (bC 116), (bC 97), (bC 32), (bC 99), (bC 104), (bC 97), (bC 114), (bC 115), (bC 101), (bC 116), (bC 61), (bC 108), (bC 97), (bC 116), (bC 105), (bC 110), (bC 49), (bC 62)])] (sniff_Prescan_ok hr5) ⟨argR_m false (by simp only [arg, go_sem, Nat.reduceEqDiff, ↓reduceIte]), trivial⟩ ?_
        (try simp only [go_sem, Nat.reduceEqDiff, ↓reduceIte])
        rcases ite_cases hP with ⟨hc, hP⟩ | ⟨hc, hP⟩
        · refine guard_is hc ?_
          (try simp only [go_sem, Nat.reduceEqDiff, ↓reduceIte])
          rcases ite_cases hP with ⟨hc, hP⟩ | ⟨hc, hP⟩
          · refine guard_is hc ?_
            (try simp only [go_sem, Nat.reduceEqDiff, ↓reduceIte])
            rcases ite_cases hP with ⟨hc, hP⟩ | ⟨hc, hP⟩
            · refine guard_is hc ?_
              (try simp only [go_sem, Nat.reduceEqDiff, ↓reduceIte])
              refine hold2 (then_n ?_)
              refine J_ret (fin_ret ?_)
              obtain rfl := Option.some.inj hP
              (try simp only [go_sem, Nat.reduceEqDiff, ↓reduceIte])
              exact fo []
            · refine guard_not hc ?_
              (try simp only [go_sem, Nat.reduceEqDiff, ↓reduceIte])
              refine hold2 (then_n ?_)
              refine J_ret (fin_ret ?_)
              obtain rfl := Option.some.inj hP
              (try simp only [go_sem, Nat.reduceEqDiff, ↓reduceIte])
              exact fo []
          · refine guard_not hc ?_
            (try simp only [go_sem, Nat.reduceEqDiff, ↓reduceIte])
            refine hold2 (then_n ?_)
            refine J_ret (fin_ret ?_)
            obtain rfl := Option.some.inj hP
            (try simp only [go_sem, Nat.reduceEqDiff, ↓reduceIte])
            exact fo []
        · refine guard_not hc ?_
          (try simp only [go_sem, Nat.reduceEqDiff, ↓reduceIte])
          refine hold2 (then_n ?_)
          refine J_ret (fin_ret ?_)
          obtain rfl := Option.some.inj hP
          (try simp only [go_sem, Nat.reduceEqDiff, ↓reduceIte])
          exact fo []
      · refine guard_not hc ?_
        (try simp only [go_sem, Nat.reduceEqDiff, ↓reduceIte])
        refine hold2 (then_n ?_)
        refine J_ret (fin_ret ?_)
        obtain rfl := Option.some.inj hP
        (try simp only [go_sem, Nat.reduceEqDiff, ↓reduceIte])
        exact fo []
    · refine guard_not hc ?_
      (try simp only [go_sem, Nat.reduceEqDiff, ↓reduceIte])
      refine hold2 (then_n ?_)
      refine J_ret (fin_ret ?_)
      obtain rfl := Option.some.inj hP
      (try simp only [go_sem, Nat.reduceEqDiff, ↓reduceIte])
      exact fo []
  · refine guard_not hc ?_
    (try simp only [go_sem, Nat.reduceEqDiff, ↓reduceIte])
    refine hold2 (then_n ?_)
    refine J_ret (fin_ret ?_)
    obtain rfl := Option.some.inj hP
    (try simp only [go_sem, Nat.reduceEqDiff, ↓reduceIte])
    exact fo []
/-- colander/colanderlaw11.tame -/
def law11_tame_L30 : Nat → Int → (List (UInt8)) → Option ((List (UInt8)))
  | 0, _, _ => none
  | k23 + 1, i21, l22 =>
    if decide (i21 < ((List.length l22 : Nat) : Int)) then
      (show Option (Bool) from
        (ixL l22 i21).bind fun x34 =>
        if decide (b2i x34 = b2i (bC 60)) then
          some true
        else
          (ixL l22 i21).bind fun x35 =>
          some (decide (b2i x35 = b2i (bC 62)))).bind fun j36 =>
        if j36 then
          (ixL l22 i21).bind fun x37 =>
          law11_tame_L30 k23 (iadd .i64 i21 1) (List.set l22 (Int.toNat i21) (bC 46))
        else
          law11_tame_L30 k23 (iadd .i64 i21 1) l22
    else
      some l22
def law11_tame (s1 : List UInt8) : Option ((List UInt8)) :=
  (ref09_Lower s1).bind fun r2 =>
  (szC (List.length r2)).bind fun _ =>
  (law11_tame_L30  140737488355328 0 r2).bind fun j39 =>
    some j39
set_option maxRecDepth 100000 in
set_option maxHeartbeats 40000000 in
theorem law11_tame_ok {s1 : List UInt8} {r : (List UInt8)} (hP : law11_tame s1 = some r) : CallOK Tryd.prog 24 [.str s1] (.str r) [] := by
  unfold law11_tame at hP
  refine co 31 [.tmp 2] Tryd.func24 ?_
  refine J_seq ?_
  refine J_region (by kernel_rfl) ?_
  (try simp only [go_sem, Nat.reduceEqDiff, ↓reduceIte])
  refine hold2 (then_n ?_)
  refine J_seq ?_
  refine J_region (by kernel_rfl) ?_
  (try simp only [go_sem, Nat.reduceEqDiff, ↓reduceIte])
  obtain ⟨r2, hr2, hP⟩ := bind_cases hP
  refine call_ok [.str s1] (ref09_Lower_ok hr2) ⟨argR_m false rfl, trivial⟩ ?_
  (try simp only [go_sem, Nat.reduceEqDiff, ↓reduceIte])
  obtain ⟨_, hz3, hP⟩ := bind_cases hP
  refine chk_of (szC_63 hz3) ?_
  (try simp only [go_sem, Nat.reduceEqDiff, ↓reduceIte])
  refine hold2 (then_n ?_)
  refine J_seq ?_
  refine J_seq ?_
  refine J_region (by kernel_rfl) ?_
  (try simp only [go_sem, Nat.reduceEqDiff, ↓reduceIte])
  refine hold2 (then_n ?_)
  obtain ⟨o38, hP, hQ30⟩ := bind_cases hP
  refine J_joinK0 (fun (s : (List (UInt8))) => envL [(3, .own 0 0 0 (List.length s))]) (fun (s : (List (UInt8))) => [.slice 0 5 1 (List.map encB s)]) (fun s => s = o38) ?_ ?_
  · clear hQ30
    refine J_block ?_
    refine J_loop (σ := Nat × Int × (List (UInt8))) (fun (s : Nat × Int × (List (UInt8))) => envL [(3, .own 0 0 0 (List.length s.2.2)), (4, .int .i64 s.2.1)]) (fun (s : Nat × Int × (List (UInt8))) => [.slice 0 5 1 (List.map encB s.2.2)]) (fun s => law11_tame_L30  s.1 s.2.1 s.2.2 = some o38) (fun s => s.1) (140737488355328, 0, r2) hP (so [0]) ?_
    rintro ⟨k23, i21, l22⟩ hP
    dsimp only at hP ⊢
    cases k23 with
    | zero => simp [law11_tame_L30] at hP
    | succ k23 =>
      simp only [law11_tame_L30] at hP
      refine J_seq ?_
      refine J_seq ?_
      refine J_region (by kernel_rfl) ?_
      (try simp only [go_sem, Nat.reduceEqDiff, ↓reduceIte])
      refine hold2 (then_n ?_)
      refine J_condV rfl ?_
      (try simp only [go_sem, Nat.reduceEqDiff, ↓reduceIte])
      rcases ite_cases hP with ⟨hc, hP⟩ | ⟨hc, hP⟩
      · refine condV_t hc ?_
        refine J_skip (then_n ?_)
        refine J_seq ?_
        refine J_block ?_
        obtain ⟨o33, hP, hQ33⟩ := bind_cases hP
        refine J_join (fun (s : Bool) => envL [(3, .own 0 0 0 (List.length l22)), (4, .int .i64 i21), (25, .bool s)]) (fun (s : Bool) => [.slice 0 5 1 (List.map encB l22)]) (fun s => s = o33) ?_ ?_
        · clear hQ33
          refine J_region (by kernel_rfl) ?_
          (try simp only [go_sem, Nat.reduceEqDiff, ↓reduceIte])
          obtain ⟨x34, hx34, hP⟩ := bind_cases hP
          refine ixO_of hx34 ?_
          (try simp only [go_sem, Nat.reduceEqDiff, ↓reduceIte])
          refine getK_of (f := encB) hx34 ?_
          (try simp only [go_sem, Nat.reduceEqDiff, ↓reduceIte])
          rcases ite_cases hP with ⟨hc, hP⟩ | ⟨hc, hP⟩
          · refine guard_not hc ?_
            (try simp only [go_sem, Nat.reduceEqDiff, ↓reduceIte])
            refine hold2 ?_
            exact join_n true (Option.some.inj hP) (so [0])
          · refine guard_is hc ?_
            (try simp only [go_sem, Nat.reduceEqDiff, ↓reduceIte])
            obtain ⟨x35, hx35, hP⟩ := bind_cases hP
            refine ixO_of hx35 ?_
            (try simp only [go_sem, Nat.reduceEqDiff, ↓reduceIte])
            refine getK_of (f := encB) hx35 ?_
            (try simp only [go_sem, Nat.reduceEqDiff, ↓reduceIte])
            refine hold2 ?_
            exact join_n (decide (b2i x35 = b2i (bC 62))) (Option.some.inj hP) (so [0])
        · intro j36 hs
          subst hs
          have hP := hQ33
          clear hQ33
          refine J_condV rfl ?_
          (try simp only [go_sem, Nat.reduceEqDiff, ↓reduceIte])
          rcases ite_cases hP with ⟨hc, hP⟩ | ⟨hc, hP⟩
          · refine condV_t hc ?_
            refine J_region (by kernel_rfl) ?_
            (try simp only [go_sem, Nat.reduceEqDiff, ↓reduceIte])
            obtain ⟨x37, hx37, hP⟩ := bind_cases hP
            refine ixO_of hx37 ?_
            (try simp only [go_sem, Nat.reduceEqDiff, ↓reduceIte])
            refine getK_of (f := encB) hx37 ?_
            (try simp only [go_sem, Nat.reduceEqDiff, ↓reduceIte])
            refine hold2 (block_n (then_n ?_))
            refine J_region (by kernel_rfl) ?_
            (try simp only [go_sem, Nat.reduceEqDiff, ↓reduceIte])
            refine hold2 ?_
            exact loop_n (k23, iadd .i64 i21 1, List.set l22 (Int.toNat i21) (bC 46)) hP (Nat.lt_succ_self _) (so [0])
          · refine condV_f hc ?_
            refine J_skip (block_n (then_n ?_))
            refine J_region (by kernel_rfl) ?_
            (try simp only [go_sem, Nat.reduceEqDiff, ↓reduceIte])
            refine hold2 ?_
            exact loop_n (k23, iadd .i64 i21 1, l22) hP (Nat.lt_succ_self _) (so [0])
      · refine condV_f hc ?_
        refine J_exit (then_exit (loop_exit (block_eq ?_)))
        exact join_n l22 (Option.some.inj hP) (so [0])
  · intro j39 hs
    subst hs
    have hP := hQ30
    clear hQ30
    refine then_n ?_
    refine J_seq ?_
    refine J_region (by kernel_rfl) ?_
    (try simp only [go_sem, Nat.reduceEqDiff, ↓reduceIte])
    first | refine bytesK_map ?_ | refine bytesK_of j39 rfl ?_
    (try simp only [go_sem, Nat.reduceEqDiff, ↓reduceIte])
    refine hold2 (then_n ?_)
    refine J_ret (fin_ret ?_)
    obtain rfl := Option.some.inj hP
    (try simp only [go_sem, Nat.reduceEqDiff, ↓reduceIte])
    exact fo []
end Go.Proofs.YtecpgelhhbbjmaaDoor
