/- Functions of the program, and pure ones that go the same ways: that the program's return what these compute. -/
import Derived.Test.YtecpgelhhbbjmaaDoorGI
import Derived.Test.YtecpgelhhbbjmaaDoorAvY
import Derived.Test.YtecpgelhhbbjmaaDoorAvPj
namespace Go.Proofs.YtecpgelhhbbjmaaDoor
open Go.Av
set_option linter.unusedVariables false
set_option linter.unusedSimpArgs false
/-- colander/colanderlaw11.SniffReads -/
def law11_SniffReads (charset1 : List UInt8) (b2 : List (UInt8)) : Option (Bool) :=
  (law11_shown).bind fun r3 =>
  (sniff_Pick charset1 b2).bind fun r4 =>
  (sniff_Decode charset1 b2).bind fun r5 =>
  if !decide (r5.2 = 0) then
    (show Option (Bool) from
      if r3 then
        if decide (r5.2 = 40) then
          if decide (r4.1 = 3) then
            some (decide (r5.1 = []))
          else
            some false
        else
          some false
      else
        some false).bind fun j7 =>
      some j7
  else
    (show Option (Bool) from
      if decide (r4.2 < 0) then
        some true
      else
        some (decide ((List.length b2 : Int) < r4.2))).bind fun j9 =>
      if j9 then
        some false
      else
        (slL b2 r4.2 (List.length b2 : Int)).bind fun s10 =>
        (utf8_Decode s10).bind fun r11 =>
        (show Option ((List UInt8)) from
          if decide (r4.1 = 2) then
            (slL b2 r4.2 (List.length b2 : Int)).bind fun s15 =>
            (leaf_Decode s15).bind fun r16 =>
            some r16
          else
            some r11).bind fun j17 =>
          if r3 then
            if decide (r5.1 = j17) then
              (szC (List.length r5.1)).bind fun _ =>
              (ref08_Fault r5.1).bind fun r19 =>
              if decide (r19 = (List.length r5.1 : Int)) then
                some (!decide (r4.1 = 3))
              else
                some false
            else
              some false
          else
            some false
set_option maxRecDepth 100000 in
set_option maxHeartbeats 40000000 in
theorem law11_SniffReads_ok {charset1 : List UInt8} {b2 : List (UInt8)} {r : Bool} (hP : law11_SniffReads charset1 b2 = some r) : CallOK Tryd.prog 7 [.str charset1, .view 1 (List.map encB b2)] (.bool r) [] := by
  unfold law11_SniffReads at hP
  refine co 75 [.tmp 4] Tryd.func7 ?_
  refine J_seq ?_
  refine J_region (by kernel_rfl) ?_
  (try simp only [go_sem, Nat.reduceEqDiff, ↓reduceIte])
  refine hold2 (then_n ?_)
  refine J_seq ?_
  refine J_region (by kernel_rfl) ?_
  (try simp only [go_sem, Nat.reduceEqDiff, ↓reduceIte])
  obtain ⟨r3, hr3, hP⟩ := bind_cases hP
  refine call_ok [] (law11_shown_ok hr3) trivial ?_
  (try simp only [go_sem, Nat.reduceEqDiff, ↓reduceIte])
  refine hold2 (then_n ?_)
  refine J_seq ?_
  refine J_region (by kernel_rfl) ?_
  (try simp only [go_sem, Nat.reduceEqDiff, ↓reduceIte])
  obtain ⟨r4, hr4, hP⟩ := bind_cases hP
  refine call_ok [.str charset1, .view 1 (List.map encB b2)] (sniff_Pick_ok hr4) ⟨argR_m false rfl, argR_m false rfl, trivial⟩ ?_
  (try simp only [go_sem, Nat.reduceEqDiff, ↓reduceIte])
  refine hold2 (then_n ?_)
  refine J_seq ?_
  refine J_region (by kernel_rfl) ?_
  (try simp only [go_sem, Nat.reduceEqDiff, ↓reduceIte])
  obtain ⟨r5, hr5, hP⟩ := bind_cases hP
  refine call_ok [.str charset1, .view 1 (List.map encB b2)] (sniff_Decode_ok hr5) ⟨argR_m false rfl, argR_m false rfl, trivial⟩ ?_
  (try simp only [go_sem, Nat.reduceEqDiff, ↓reduceIte])
  refine hold2 (then_n ?_)
  refine J_seq ?_
  refine J_seq ?_
  refine J_region (by kernel_rfl) ?_
  (try simp only [go_sem, Nat.reduceEqDiff, ↓reduceIte])
  refine hold2 (then_n ?_)
  refine J_condV rfl ?_
  (try simp only [go_sem, Nat.reduceEqDiff, ↓reduceIte])
  rcases ite_cases hP with ⟨hc, hP⟩ | ⟨hc, hP⟩
  · refine condV_t hc ?_
    obtain ⟨o6, hP, hQ6⟩ := bind_cases hP
    refine J_join (fun (s : Bool) => envL [(4, .bool s)]) (fun (s : Bool) => []) (fun s => s = o6) ?_ ?_
    · clear hQ6
      refine J_region (by kernel_rfl) ?_
      (try simp only [go_sem, Nat.reduceEqDiff, ↓reduceIte])
      rcases ite_cases hP with ⟨hc, hP⟩ | ⟨hc, hP⟩
      · refine guard_is hc ?_
        (try simp only [go_sem, Nat.reduceEqDiff, ↓reduceIte])
        rcases ite_cases hP with ⟨hc, hP⟩ | ⟨hc, hP⟩
        · refine guard_is hc ?_
          (try simp only [go_sem, Nat.reduceEqDiff, ↓reduceIte])
          rcases ite_cases hP with ⟨hc, hP⟩ | ⟨hc, hP⟩
          · refine guard_is hc ?_
            (try simp only [go_sem, Nat.reduceEqDiff, ↓reduceIte])
            refine hold2 ?_
            exact join_n (decide (r5.1 = [])) (Option.some.inj hP) (so [])
          · refine guard_not hc ?_
            (try simp only [go_sem, Nat.reduceEqDiff, ↓reduceIte])
            refine hold2 ?_
            exact join_n false (Option.some.inj hP) (so [])
        · refine guard_not hc ?_
          (try simp only [go_sem, Nat.reduceEqDiff, ↓reduceIte])
          refine hold2 ?_
          exact join_n false (Option.some.inj hP) (so [])
      · refine guard_not hc ?_
        (try simp only [go_sem, Nat.reduceEqDiff, ↓reduceIte])
        refine hold2 ?_
        exact join_n false (Option.some.inj hP) (so [])
    · intro j7 hs
      subst hs
      have hP := hQ6
      clear hQ6
      refine J_ret (then_ret (fin_ret ?_))
      obtain rfl := Option.some.inj hP
      (try simp only [go_sem, Nat.reduceEqDiff, ↓reduceIte])
      exact fo []
  · refine condV_f hc ?_
    refine J_skip (then_n ?_)
    refine J_seq ?_
    obtain ⟨o8, hP, hQ8⟩ := bind_cases hP
    refine J_join (fun (s : Bool) => envL [(1, .view 1 (List.map encB b2)), (5, .bool r3), (6, .int .i64 r4.1), (7, .int .i64 r4.2), (8, .str r5.1), (46, .bool s)]) (fun (s : Bool) => []) (fun s => s = o8) ?_ ?_
    · clear hQ8
      refine J_region (by kernel_rfl) ?_
      (try simp only [go_sem, Nat.reduceEqDiff, ↓reduceIte])
      rcases ite_cases hP with ⟨hc, hP⟩ | ⟨hc, hP⟩
      · refine guard_not hc ?_
        (try simp only [go_sem, Nat.reduceEqDiff, ↓reduceIte])
        refine hold2 ?_
        exact join_n true (Option.some.inj hP) (so [])
      · refine guard_is hc ?_
        (try simp only [go_sem, Nat.reduceEqDiff, ↓reduceIte])
        refine hold2 ?_
        exact join_n (decide ((List.length b2 : Int) < r4.2)) (Option.some.inj hP) (so [])
    · intro j9 hs
      subst hs
      have hP := hQ8
      clear hQ8
      refine J_condV rfl ?_
      (try simp only [go_sem, Nat.reduceEqDiff, ↓reduceIte])
      rcases ite_cases hP with ⟨hc, hP⟩ | ⟨hc, hP⟩
      · refine condV_t hc ?_
        refine J_seq ?_
        refine J_region (by kernel_rfl) ?_
        (try simp only [go_sem, Nat.reduceEqDiff, ↓reduceIte])
        refine hold2 (then_n ?_)
        refine J_ret (then_ret (fin_ret ?_))
        obtain rfl := Option.some.inj hP
        (try simp only [go_sem, Nat.reduceEqDiff, ↓reduceIte])
        exact fo []
      · refine condV_f hc ?_
        refine J_skip (then_n ?_)
        refine J_seq ?_
        refine J_region (by kernel_rfl) ?_
        (try simp only [go_sem, Nat.reduceEqDiff, ↓reduceIte])
        obtain ⟨s10, hs10, hP⟩ := bind_cases hP
        refine slV_of hs10 ?_
        (try simp only [go_sem, Nat.reduceEqDiff, ↓reduceIte])
        obtain ⟨r11, hr11, hP⟩ := bind_cases hP
        refine call_ok [.view 1 (List.map encB s10)] (utf8_Decode_ok hr11) ⟨argR_m false rfl, trivial⟩ ?_
        (try simp only [go_sem, Nat.reduceEqDiff, ↓reduceIte])
        refine hold2 (then_n ?_)
        obtain ⟨o14, hP, hQ14⟩ := bind_cases hP
        refine J_join (fun (s : (List UInt8)) => envL [(5, .bool r3), (6, .int .i64 r4.1), (8, .str r5.1), (10, .str s)]) (fun (s : (List UInt8)) => []) (fun s => s = o14) ?_ ?_
        · clear hQ14
          refine J_seq ?_
          refine J_region (by kernel_rfl) ?_
          (try simp only [go_sem, Nat.reduceEqDiff, ↓reduceIte])
          refine hold2 (then_n ?_)
          refine J_condV rfl ?_
          (try simp only [go_sem, Nat.reduceEqDiff, ↓reduceIte])
          rcases ite_cases hP with ⟨hc, hP⟩ | ⟨hc, hP⟩
          · refine condV_t hc ?_
            refine J_region (by kernel_rfl) ?_
            (try simp only [go_sem, Nat.reduceEqDiff, ↓reduceIte])
            obtain ⟨s15, hs15, hP⟩ := bind_cases hP
            refine slV_of hs15 ?_
            (try simp only [go_sem, Nat.reduceEqDiff, ↓reduceIte])
            obtain ⟨r16, hr16, hP⟩ := bind_cases hP
            refine call_ok [.view 1 (List.map encB s15)] (leaf_Decode_ok hr16) ⟨argR_m false rfl, trivial⟩ ?_
            (try simp only [go_sem, Nat.reduceEqDiff, ↓reduceIte])
            refine hold2 ?_
            exact join_n r16 (Option.some.inj hP) (so [])
          · refine condV_f hc ?_
            refine J_skip ?_
            exact join_n r11 (Option.some.inj hP) (so [])
        · intro j17 hs
          subst hs
          have hP := hQ14
          clear hQ14
          refine J_seq ?_
          refine J_region (by kernel_rfl) ?_
          (try simp only [go_sem, Nat.reduceEqDiff, ↓reduceIte])
          rcases ite_cases hP with ⟨hc, hP⟩ | ⟨hc, hP⟩
          · refine guard_is hc ?_
            (try simp only [go_sem, Nat.reduceEqDiff, ↓reduceIte])
            rcases ite_cases hP with ⟨hc, hP⟩ | ⟨hc, hP⟩
            · refine guard_is hc ?_
              (try simp only [go_sem, Nat.reduceEqDiff, ↓reduceIte])
              obtain ⟨_, hz18, hP⟩ := bind_cases hP
              refine chk_of (szC_63 hz18) ?_
              (try simp only [go_sem, Nat.reduceEqDiff, ↓reduceIte])
              obtain ⟨r19, hr19, hP⟩ := bind_cases hP
              refine call_ok [.view 1 (List.map encB r5.1)] (ref08_Fault_ok hr19) ⟨argR_m false (by simp only [arg, go_sem, Nat.reduceEqDiff, ↓reduceIte]), trivial⟩ ?_
              (try simp only [go_sem, Nat.reduceEqDiff, ↓reduceIte])
              rcases ite_cases hP with ⟨hc, hP⟩ | ⟨hc, hP⟩
              · refine guard_is hc ?_
                (try simp only [go_sem, Nat.reduceEqDiff, ↓reduceIte])
                refine hold2 (then_n ?_)
                refine J_ret (fin_ret ?_)
                obtain rfl := Option.some.inj hP
                (try simp only [go_sem, Nat.reduceEqDiff, ↓reduceIte])
                exact fo []
              · refine guard_not hc ?_
                (try simp only [go_sem, Nat.reduceEqDiff, ↓reduceIte])
                refine hold2 (then_n ?_)
                refine J_ret (fin_ret ?_)
                obtain rfl := Option.some.inj hP
                (try simp only [go_sem, Nat.reduceEqDiff, ↓reduceIte])
                exact fo []
            · refine guard_not hc ?_
              (try simp only [go_sem, Nat.reduceEqDiff, ↓reduceIte])
              refine hold2 (then_n ?_)
              refine J_ret (fin_ret ?_)
              obtain rfl := Option.some.inj hP
              (try simp only [go_sem, Nat.reduceEqDiff, ↓reduceIte])
              exact fo []
          · refine guard_not hc ?_
            (try simp only [go_sem, Nat.reduceEqDiff, ↓reduceIte])
            refine hold2 (then_n ?_)
            refine J_ret (fin_ret ?_)
            obtain rfl := Option.some.inj hP
            (try simp only [go_sem, Nat.reduceEqDiff, ↓reduceIte])
            exact fo []
end Go.Proofs.YtecpgelhhbbjmaaDoor
