/- Functions of the program, and pure ones that go the same ways: that the program's return what these compute. -/
import Derived.Test.YtecpgelhhbbjmaaDoorGI
import Derived.Test.YtecpgelhhbbjmaaDoorAvY
import Derived.Test.YtecpgelhhbbjmaaDoorAvPj
namespace Go.Proofs.YtecpgelhhbbjmaaDoor
open Go.Av
set_option linter.unusedVariables false
set_option linter.unusedSimpArgs false
/-- colander/colanderlaw11.SniffOrder -/
def law11_SniffOrder (charset1 : List UInt8) (b2 : List (UInt8)) : Option (Bool) :=
  (law11_shown).bind fun r3 =>
  (sniff_Pick charset1 b2).bind fun r4 =>
  (sniff_Bom b2).bind fun r5 =>
  (leaf_Label charset1).bind fun r6 =>
  (sniff_Prescan b2).bind fun r7 =>
  if !decide (r5.1 = 0) then
    (show Option (Bool) from
      if r3 then
        if decide (r4.1 = r5.1) then
          some (decide (r4.2 = r5.2))
        else
          some false
      else
        some false).bind fun j9 =>
      some j9
  else
    if !decide (r4.2 = 0) then
      some false
    else
      if !decide (r6 = 0) then
        (show Option (Bool) from
          if r3 then
            some (decide (r4.1 = r6))
          else
            some false).bind fun j11 =>
          some j11
      else
        if !decide (r7 = 0) then
          (show Option (Bool) from
            if r3 then
              some (decide (r4.1 = r7))
            else
              some false).bind fun j13 =>
            some j13
        else
          if r3 then
            some (decide (r4.1 = 2))
          else
            some false
set_option maxRecDepth 100000 in
set_option maxHeartbeats 40000000 in
theorem law11_SniffOrder_ok {charset1 : List UInt8} {b2 : List (UInt8)} {r : Bool} (hP : law11_SniffOrder charset1 b2 = some r) : CallOK Tryd.prog 6 [.str charset1, .view 1 (List.map encB b2)] (.bool r) [] := by
  unfold law11_SniffOrder at hP
  refine co 68 [.tmp 4] Tryd.func6 ?_
  refine J_seq ?_
  refine J_region (by kernel_rfl) ?_
  (try simp only [go_sem, Nat.reduceEqDiff, ↓reduceIte])
  refine hold2 (then_n ?_)
  refine J_seq ?_
  refine J_region (by kernel_rfl) ?_
  (try simp only [go_sem, Nat.reduceEqDiff, ↓reduceIte])
  obtain ⟨r3, hr3, hP⟩ := bind_cases hP
  refine call_ok [] (law11_shown_ok hr3) trivial ?_
  (try simp only [go_sem, Nat.reduceEqDiff, ↓reduceIte])
  refine hold2 (then_n ?_)
  refine J_seq ?_
  refine J_region (by kernel_rfl) ?_
  (try simp only [go_sem, Nat.reduceEqDiff, ↓reduceIte])
  obtain ⟨r4, hr4, hP⟩ := bind_cases hP
  refine call_ok [.str charset1, .view 1 (List.map encB b2)] (sniff_Pick_ok hr4) ⟨argR_m false rfl, argR_m false rfl, trivial⟩ ?_
  (try simp only [go_sem, Nat.reduceEqDiff, ↓reduceIte])
  refine hold2 (then_n ?_)
  refine J_seq ?_
  refine J_region (by kernel_rfl) ?_
  (try simp only [go_sem, Nat.reduceEqDiff, ↓reduceIte])
  obtain ⟨r5, hr5, hP⟩ := bind_cases hP
  refine call_ok [.view 1 (List.map encB b2)] (sniff_Bom_ok hr5) ⟨argR_m false rfl, trivial⟩ ?_
  (try simp only [go_sem, Nat.reduceEqDiff, ↓reduceIte])
  refine hold2 (then_n ?_)
  refine J_seq ?_
  refine J_region (by kernel_rfl) ?_
  (try simp only [go_sem, Nat.reduceEqDiff, ↓reduceIte])
  obtain ⟨r6, hr6, hP⟩ := bind_cases hP
  refine call_ok [.str charset1] (leaf_Label_ok hr6) ⟨argR_m false rfl, trivial⟩ ?_
  (try simp only [go_sem, Nat.reduceEqDiff, ↓reduceIte])
  refine hold2 (then_n ?_)
  refine J_seq ?_
  refine J_region (by kernel_rfl) ?_
  (try simp only [go_sem, Nat.reduceEqDiff, ↓reduceIte])
  obtain ⟨r7, hr7, hP⟩ := bind_cases hP
  refine call_ok [.view 1 (List.map encB b2)] (sniff_Prescan_ok hr7) ⟨argR_m false rfl, trivial⟩ ?_
  (try simp only [go_sem, Nat.reduceEqDiff, ↓reduceIte])
  refine hold2 (then_n ?_)
  refine J_seq ?_
  refine J_block ?_
  refine J_seq ?_
  refine J_region (by kernel_rfl) ?_
  (try simp only [go_sem, Nat.reduceEqDiff, ↓reduceIte])
  refine hold2 (then_n ?_)
  refine J_condV rfl ?_
  (try simp only [go_sem, Nat.reduceEqDiff, ↓reduceIte])
  rcases ite_cases hP with ⟨hc, hP⟩ | ⟨hc, hP⟩
  · refine condV_t hc ?_
    obtain ⟨o8, hP, hQ8⟩ := bind_cases hP
    refine J_join (fun (s : Bool) => envL [(4, .bool s)]) (fun (s : Bool) => []) (fun s => s = o8) ?_ ?_
    · clear hQ8
      refine J_region (by kernel_rfl) ?_
      (try simp only [go_sem, Nat.reduceEqDiff, ↓reduceIte])
      rcases ite_cases hP with ⟨hc, hP⟩ | ⟨hc, hP⟩
      · refine guard_is hc ?_
        (try simp only [go_sem, Nat.reduceEqDiff, ↓reduceIte])
        rcases ite_cases hP with ⟨hc, hP⟩ | ⟨hc, hP⟩
        · refine guard_is hc ?_
          (try simp only [go_sem, Nat.reduceEqDiff, ↓reduceIte])
          refine hold2 ?_
          exact join_n (decide (r4.2 = r5.2)) (Option.some.inj hP) (so [])
        · refine guard_not hc ?_
          (try simp only [go_sem, Nat.reduceEqDiff, ↓reduceIte])
          refine hold2 ?_
          exact join_n false (Option.some.inj hP) (so [])
      · refine guard_not hc ?_
        (try simp only [go_sem, Nat.reduceEqDiff, ↓reduceIte])
        refine hold2 ?_
        exact join_n false (Option.some.inj hP) (so [])
    · intro j9 hs
      subst hs
      have hP := hQ8
      clear hQ8
      refine J_ret (block_ret (then_ret (fin_ret ?_)))
      obtain rfl := Option.some.inj hP
      (try simp only [go_sem, Nat.reduceEqDiff, ↓reduceIte])
      exact fo []
  · refine condV_f hc ?_
    refine J_seq ?_
    refine J_region (by kernel_rfl) ?_
    (try simp only [go_sem, Nat.reduceEqDiff, ↓reduceIte])
    refine hold2 (then_n ?_)
    refine J_condV rfl ?_
    (try simp only [go_sem, Nat.reduceEqDiff, ↓reduceIte])
    rcases ite_cases hP with ⟨hc, hP⟩ | ⟨hc, hP⟩
    · refine condV_t hc ?_
      refine J_seq ?_
      refine J_region (by kernel_rfl) ?_
      (try simp only [go_sem, Nat.reduceEqDiff, ↓reduceIte])
      refine hold2 (then_n ?_)
      refine J_ret (block_ret (then_ret (fin_ret ?_)))
      obtain rfl := Option.some.inj hP
      (try simp only [go_sem, Nat.reduceEqDiff, ↓reduceIte])
      exact fo []
    · refine condV_f hc ?_
      refine J_seq ?_
      refine J_region (by kernel_rfl) ?_
      (try simp only [go_sem, Nat.reduceEqDiff, ↓reduceIte])
      refine hold2 (then_n ?_)
      refine J_condV rfl ?_
      (try simp only [go_sem, Nat.reduceEqDiff, ↓reduceIte])
      rcases ite_cases hP with ⟨hc, hP⟩ | ⟨hc, hP⟩
      · refine condV_t hc ?_
        obtain ⟨o10, hP, hQ10⟩ := bind_cases hP
        refine J_join (fun (s : Bool) => envL [(4, .bool s)]) (fun (s : Bool) => []) (fun s => s = o10) ?_ ?_
        · clear hQ10
          refine J_region (by kernel_rfl) ?_
          (try simp only [go_sem, Nat.reduceEqDiff, ↓reduceIte])
          rcases ite_cases hP with ⟨hc, hP⟩ | ⟨hc, hP⟩
          · refine guard_is hc ?_
            (try simp only [go_sem, Nat.reduceEqDiff, ↓reduceIte])
            refine hold2 ?_
            exact join_n (decide (r4.1 = r6)) (Option.some.inj hP) (so [])
          · refine guard_not hc ?_
            (try simp only [go_sem, Nat.reduceEqDiff, ↓reduceIte])
            refine hold2 ?_
            exact join_n false (Option.some.inj hP) (so [])
        · intro j11 hs
          subst hs
          have hP := hQ10
          clear hQ10
          refine J_ret (block_ret (then_ret (fin_ret ?_)))
          obtain rfl := Option.some.inj hP
          (try simp only [go_sem, Nat.reduceEqDiff, ↓reduceIte])
          exact fo []
      · refine condV_f hc ?_
        refine J_seq ?_
        refine J_region (by kernel_rfl) ?_
        (try simp only [go_sem, Nat.reduceEqDiff, ↓reduceIte])
        refine hold2 (then_n ?_)
        refine J_condV rfl ?_
        (try simp only [go_sem, Nat.reduceEqDiff, ↓reduceIte])
        rcases ite_cases hP with ⟨hc, hP⟩ | ⟨hc, hP⟩
        · refine condV_t hc ?_
          obtain ⟨o12, hP, hQ12⟩ := bind_cases hP
          refine J_join (fun (s : Bool) => envL [(4, .bool s)]) (fun (s : Bool) => []) (fun s => s = o12) ?_ ?_
          · clear hQ12
            refine J_region (by kernel_rfl) ?_
            (try simp only [go_sem, Nat.reduceEqDiff, ↓reduceIte])
            rcases ite_cases hP with ⟨hc, hP⟩ | ⟨hc, hP⟩
            · refine guard_is hc ?_
              (try simp only [go_sem, Nat.reduceEqDiff, ↓reduceIte])
              refine hold2 ?_
              exact join_n (decide (r4.1 = r7)) (Option.some.inj hP) (so [])
            · refine guard_not hc ?_
              (try simp only [go_sem, Nat.reduceEqDiff, ↓reduceIte])
              refine hold2 ?_
              exact join_n false (Option.some.inj hP) (so [])
          · intro j13 hs
            subst hs
            have hP := hQ12
            clear hQ12
            refine J_ret (block_ret (then_ret (fin_ret ?_)))
            obtain rfl := Option.some.inj hP
            (try simp only [go_sem, Nat.reduceEqDiff, ↓reduceIte])
            exact fo []
        · refine condV_f hc ?_
          refine J_skip (block_n (then_n ?_))
          refine J_seq ?_
          refine J_region (by kernel_rfl) ?_
          (try simp only [go_sem, Nat.reduceEqDiff, ↓reduceIte])
          rcases ite_cases hP with ⟨hc, hP⟩ | ⟨hc, hP⟩
          · refine guard_is hc ?_
            (try simp only [go_sem, Nat.reduceEqDiff, ↓reduceIte])
            refine hold2 (then_n ?_)
            refine J_ret (fin_ret ?_)
            obtain rfl := Option.some.inj hP
            (try simp only [go_sem, Nat.reduceEqDiff, ↓reduceIte])
            exact fo []
          · refine guard_not hc ?_
            (try simp only [go_sem, Nat.reduceEqDiff, ↓reduceIte])
            refine hold2 (then_n ?_)
            refine J_ret (fin_ret ?_)
            obtain rfl := Option.some.inj hP
            (try simp only [go_sem, Nat.reduceEqDiff, ↓reduceIte])
            exact fo []
end Go.Proofs.YtecpgelhhbbjmaaDoor
