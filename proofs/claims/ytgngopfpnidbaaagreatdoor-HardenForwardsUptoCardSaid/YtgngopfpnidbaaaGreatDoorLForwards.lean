/- Functions of the program, and pure ones that go the same ways: that the program's return what these compute. -/
import Derived.Test.YtgngopfpnidbaaaGreatDoorGE
import Derived.Test.YtgngopfpnidbaaaGreatDoorAvY
import Derived.Test.YtgngopfpnidbaaaGreatDoorAvJ
namespace Go.Proofs.YtgngopfpnidbaaaGreatDoor
open Go.Av
set_option linter.unusedVariables false
set_option linter.unusedSimpArgs false
/-- colander/colanderlaw21.HardenForwards -/
def law21_HardenForwards_L81 : Nat → Int → (List ((List UInt8) × (List UInt8))) → Option (Unit)
  | 0, _, _ => none
  | k80 + 1, i78, l79 =>
    if decide (i78 < ((List.length l79 : Nat) : Int)) then
      (ixL l79 i78).bind fun x82 =>
      law21_HardenForwards_L81 k80 (iadd .i64 i78 1) (List.set l79 (Int.toNat i78) ([63], []))
    else
      some ()
def law21_HardenForwards_L62 (q1 : (List UInt8) × (List UInt8) × (List ((List UInt8) × (List UInt8)))) (s12 : List ((List UInt8) × (List UInt8))) (length2 : Int) (r13 : ((List UInt8) × (List UInt8) × (List ((List UInt8) × (List UInt8))))) (r3 : Bool) : Nat → Int → Option (Sum (Bool) (Unit))
  | 0, _ => none
  | k39 + 1, twice38 =>
    if decide (twice38 < 2) then
      (harden_Forward (q1.1, q1.2.1, s12) length2).bind fun r63 =>
      (ref05_SameRequest (r63.1, r63.2.1, r63.2.2) (r13.1, r13.2.1, r13.2.2)).bind fun r64 =>
      (show Option (Bool) from
        if !r3 then
          some true
        else
          if !r64 then
            some true
          else
            (harden_Keeps s12).bind fun r68 =>
            (ref21_Keeps q1.2.2).bind fun r69 =>
            some (r68 != r69)).bind fun j70 =>
        (slL (q1.2.2 ++ [([33], [])]) 0 (List.length q1.2.2 : Int)).bind fun s71 =>
        if j70 then
          some (Sum.inl false)
        else
          (szC (List.length (r63.2.2 ++ [([], [])] : List ((List UInt8) × (List UInt8))))).bind fun _ =>
          (law21_HardenForwards_L81  1099511627776 0 (r63.2.2 ++ [([], [])])).bind fun j84 =>
            (slL (q1.2.2 ++ [([33], [])]) 0 (List.length q1.2.2 : Int)).bind fun s85 =>
            law21_HardenForwards_L62 q1 s12 length2 r13 r3 k39 (iadd .i64 twice38 1)
    else
      some (Sum.inr ())
def law21_HardenForwards (q1 : (List UInt8) × (List UInt8) × (List ((List UInt8) × (List UInt8)))) (length2 : Int) : Option (Bool) :=
  (law21_shown).bind fun r3 =>
  (show Option (Unit) from
    (szC (List.length (q1.2.2 : List ((List UInt8) × (List UInt8))))).bind fun _ =>
    (szC (List.length (q1.2.2 ++ [([33], [])] : List ((List UInt8) × (List UInt8))))).bind fun _ =>
    (slL (q1.2.2 ++ [([33], [])]) 0 (List.length q1.2.2 : Int)).bind fun s9 =>
    some ()).bind fun a10 =>
    (slL (q1.2.2 ++ [([33], [])]) 0 (List.length q1.2.2 : Int)).bind fun s12 =>
    (ref21_Forward (q1.1, q1.2.1, q1.2.2) length2).bind fun r13 =>
    (law21_HardenForwards_L62 q1 s12 length2 r13 r3 1099511627776 0).bind fun o86 => match o86 with
    | Sum.inl r => some r
    | Sum.inr j87 =>
      (slL (q1.2.2 ++ [([33], [])]) 0 (List.length q1.2.2 : Int)).bind fun s88 =>
      (show Option (Bool) from
        (ref04_Same s88 q1.2.2).bind fun r95 =>
        (slL (q1.2.2 ++ [([33], [])]) 0 (iadd .i64 (List.length q1.2.2 : Int) 1)).bind fun s96 =>
        (show Option (Bool) from
          if r95 then
            (ixL s96 (List.length q1.2.2 : Int)).bind fun x99 =>
            some (decide (x99.1 = [33]))
          else
            some false).bind fun j100 =>
          some j100).bind fun a101 =>
        some a101
set_option maxRecDepth 100000 in
set_option maxHeartbeats 40000000 in
theorem law21_HardenForwards_ok {q1 : (List UInt8) × (List UInt8) × (List ((List UInt8) × (List UInt8)))} {length2 : Int} {r : Bool} (hP : law21_HardenForwards q1 length2 = some r) : CallOK Tryz.prog 4 [.agg [.str q1.1, .str q1.2.1, .view 2 (List.map enc_api_Field q1.2.2)], .int .i64 length2] (.bool r) [] := by
  unfold law21_HardenForwards at hP
  refine co 68 [.tmp 4] Tryz.func4 ?_
  refine J_seq ?_
  refine J_region (by kernel_rfl) ?_
  (try simp only [go_sem, Nat.reduceEqDiff, reduceIte])
  refine hold2 (then_n ?_)
  refine J_seq ?_
  refine J_region (by kernel_rfl) ?_
  (try simp only [go_sem, Nat.reduceEqDiff, reduceIte])
  obtain ⟨r3, hr3, hP⟩ := bind_cases hP
  refine call_ok [] (law21_shown_ok hr3) trivial ?_
  (try simp only [go_sem, Nat.reduceEqDiff, reduceIte])
  refine hold2 (then_n ?_)
  refine J_seq ?_
  refine J_region (by kernel_rfl) ?_
  (try simp only [go_sem, Nat.reduceEqDiff, reduceIte, Nat.reduceAdd, Nat.reduceSub, Nat.reduceLT, Nat.reduceMul, reduceCtorEq, Int.reduceToNat, Int.reduceLE, Int.reduceLT, Nat.reduceLeDiff])
  obtain ⟨o11, hP, hQ10⟩ := bind_cases hP
  refine call_join (fun (s : Unit) => .own 1 0 0 (Int.toNat ((List.length q1.2.2 : Int) - 0))) (fun (s : Unit) => envL [(1, .int .i64 length2), (2, .bptr 0 0), (5, .bool r3)]) (fun (s : Unit) => [.box 31 [.str q1.1, .str q1.2.1, .view 2 (List.map enc_api_Field q1.2.2)], .slice 0 37 2 (List.map enc_api_Field (q1.2.2 ++ [([33], [])]))]) (fun s => s = o11) (callI_of (n := 14) (rs := [.tmp 2]) Tryz.func11 rfl (by decide) rfl rfl (by simp) rfl ?_) ?_
  · clear hQ10
    refine J_seq ?_
    refine J_region (by kernel_rfl) ?_
    (try simp only [go_sem, Nat.reduceEqDiff, reduceIte, Nat.reduceAdd, Nat.reduceSub, Nat.reduceLT, Nat.reduceMul, reduceCtorEq, Int.reduceToNat, Int.reduceLE, Int.reduceLT, Nat.reduceLeDiff])
    refine hold2 (then_n ?_)
    refine J_seq ?_
    refine J_region (by kernel_rfl) ?_
    (try simp only [go_sem, Nat.reduceEqDiff, reduceIte, Nat.reduceAdd, Nat.reduceSub, Nat.reduceLT, Nat.reduceMul, reduceCtorEq, Int.reduceToNat, Int.reduceLE, Int.reduceLT, Nat.reduceLeDiff])
    obtain ⟨_, hz7, hP⟩ := bind_cases hP
    refine app_own (f := enc_api_Field) (([] : List ((List UInt8) × (List UInt8))) : List ((List UInt8) × (List UInt8))) (q1.2.2 : List ((List UInt8) × (List UInt8))) rfl tyS_22 (by decide) (by simp only [go_sem, Nat.reduceEqDiff, reduceIte, Nat.reduceAdd, Nat.reduceSub, Nat.reduceLT, Nat.reduceMul, reduceCtorEq, Int.reduceToNat, Int.reduceLE, Int.reduceLT, Nat.reduceLeDiff]; first | done | rfl | exact ⟨rfl, rfl⟩) hz7 ?_
    (try simp only [go_sem, Nat.reduceEqDiff, reduceIte, Nat.reduceAdd, Nat.reduceSub, Nat.reduceLT, Nat.reduceMul, reduceCtorEq, Int.reduceToNat, Int.reduceLE, Int.reduceLT, Nat.reduceLeDiff])
    obtain ⟨_, hz8, hP⟩ := bind_cases hP
    refine app_own (f := enc_api_Field) (q1.2.2 : List ((List UInt8) × (List UInt8))) ([([33], [])] : List ((List UInt8) × (List UInt8))) rfl tyS_22 (by decide) (by simp only [go_sem, Nat.reduceEqDiff, reduceIte, Nat.reduceAdd, Nat.reduceSub, Nat.reduceLT, Nat.reduceMul, reduceCtorEq, Int.reduceToNat, Int.reduceLE, Int.reduceLT, Nat.reduceLeDiff]; first | done | rfl | exact ⟨rfl, rfl⟩) hz8 ?_
    (try simp only [go_sem, Nat.reduceEqDiff, reduceIte])
    refine hold2 (then_n ?_)
    refine J_seq ?_
    refine J_region (by kernel_rfl) ?_
    (try simp only [go_sem, Nat.reduceEqDiff, reduceIte, Nat.reduceAdd, Nat.reduceSub, Nat.reduceLT, Nat.reduceMul, reduceCtorEq, Int.reduceToNat, Int.reduceLE, Int.reduceLT, Nat.reduceLeDiff])
    obtain ⟨s9, hs9, hP⟩ := bind_cases hP
    refine slO_of hs9 ?_
    (try simp only [go_sem, Nat.reduceEqDiff, reduceIte])
    refine hold2 (then_n ?_)
    refine J_ret (finI_ret ?_)
    exact told_of ⟨(), Option.some.inj hP, sr [0, 2]⟩
  · intro a10 hs
    subst hs
    have hP := hQ10
    clear hQ10
    (try simp only [go_sem, Nat.reduceEqDiff, reduceIte])
    obtain ⟨s12, hs12, hP⟩ := bind_cases hP
    refine hold2 (then_n ?_)
    refine J_seq ?_
    refine J_region (by kernel_rfl) ?_
    (try simp only [go_sem, Nat.reduceEqDiff, reduceIte])
    obtain ⟨r13, hr13, hP⟩ := bind_cases hP
    refine call_ok [.agg [.str q1.1, .str q1.2.1, .view 2 (List.map enc_api_Field q1.2.2)], .int .i64 length2] (ref21_Forward_ok hr13) ⟨argR_m false rfl, argR_m false rfl, trivial⟩ ?_
    (try simp only [go_sem, Nat.reduceEqDiff, reduceIte])
    refine hold2 (then_n ?_)
    refine J_seq ?_
    refine J_seq ?_
    refine J_region (by kernel_rfl) ?_
    (try simp only [go_sem, Nat.reduceEqDiff, reduceIte])
    refine hold2 (then_n ?_)
    obtain ⟨o86, hP, hQ62⟩ := bind_cases hP
    refine J_joinK (fun (s : Unit) => envL [(2, .bptr 0 0), (6, .own 1 0 0 (Int.toNat ((List.length q1.2.2 : Int) - 0)))]) (fun (s : Unit) => [.box 31 [.str q1.1, .str q1.2.1, .view 2 (List.map enc_api_Field q1.2.2)], .slice 0 37 2 (List.map enc_api_Field (q1.2.2 ++ [([33], [])]))]) (fun s => Sum.inr s = o86) (by repeat (first | exact subC_then | refine subC_block ?_)) ?_ ?_
    · refine J_block ?_
      refine J_loop (σ := Nat × Int) (fun (s : Nat × Int) => envL [(1, .int .i64 length2), (2, .bptr 0 0), (5, .bool r3), (6, .own 1 0 0 (Int.toNat ((List.length q1.2.2 : Int) - 0))), (7, .bptr 2 0), (8, .int .i64 s.2)]) (fun (s : Nat × Int) => [.box 31 [.str q1.1, .str q1.2.1, .view 2 (List.map enc_api_Field q1.2.2)], .slice 0 37 2 (List.map enc_api_Field (q1.2.2 ++ [([33], [])])), .box 31 [.str r13.1, .str r13.2.1, .own 3 0 0 (List.length r13.2.2)], .slice 0 37 2 (List.map enc_api_Field r13.2.2)]) (fun s => law21_HardenForwards_L62 q1 s12 length2 r13 r3 s.1 s.2 = some o86) (fun s => s.1) (1099511627776, 0) hP (so [0, 1, 3, 2]) ?_
      rintro ⟨k39, twice38⟩ hP
      dsimp only at hP ⊢
      cases k39 with
      | zero => simp [law21_HardenForwards_L62] at hP
      | succ k39 =>
        simp only [law21_HardenForwards_L62] at hP
        refine J_seq ?_
        refine J_seq ?_
        refine J_region (by kernel_rfl) ?_
        (try simp only [go_sem, Nat.reduceEqDiff, reduceIte])
        refine hold2 (then_n ?_)
        refine J_condV rfl ?_
        (try simp only [go_sem, Nat.reduceEqDiff, reduceIte])
        rcases ite_cases hP with ⟨hc, hP⟩ | ⟨hc, hP⟩
        · refine condV_t hc ?_
          refine J_skip (then_n ?_)
          refine J_seq ?_
          refine J_block ?_
          refine J_seq ?_
          refine J_region (by kernel_rfl) ?_
          (try simp only [go_sem, Nat.reduceEqDiff, reduceIte])
          obtain ⟨r63, hr63, hP⟩ := bind_cases hP
          refine call_ok [.agg [.str q1.1, .str q1.2.1, .view 2 (List.map enc_api_Field s12)], .int .i64 length2] (harden_Forward_ok hr63) ⟨argR_agg ⟨argC_m false rfl, argC_m false rfl, argC_m false (by simp only [arg, own_cut0 hs12, go_sem, Nat.reduceEqDiff, reduceIte]), trivial⟩, argR_m false rfl, trivial⟩ ?_
          (try simp only [go_sem, Nat.reduceEqDiff, reduceIte])
          refine hold2 (then_n ?_)
          refine J_seq ?_
          refine J_region (by kernel_rfl) ?_
          (try simp only [go_sem, Nat.reduceEqDiff, reduceIte])
          obtain ⟨r64, hr64, hP⟩ := bind_cases hP
          refine call_ok [.agg [.str r63.1, .str r63.2.1, .view 2 (List.map enc_api_Field r63.2.2)], .agg [.str r13.1, .str r13.2.1, .view 2 (List.map enc_api_Field r13.2.2)]] (ref05_SameRequest_ok hr64) ⟨argR_agg ⟨argC_m false rfl, argC_m false rfl, argC_m false (by simp only [arg, go_sem, Nat.reduceEqDiff, reduceIte]), trivial⟩, argR_agg ⟨argC_m false rfl, argC_m false rfl, argC_m false (by simp only [arg, go_sem, Nat.reduceEqDiff, reduceIte]), trivial⟩, trivial⟩ ?_
          (try simp only [go_sem, Nat.reduceEqDiff, reduceIte])
          refine hold2 (then_n ?_)
          refine J_seq ?_
          obtain ⟨o67, hP, hQ67⟩ := bind_cases hP
          refine J_join (fun (s : Bool) => envL [(1, .int .i64 length2), (2, .bptr 0 0), (5, .bool r3), (6, .own 1 0 0 (Int.toNat ((List.length q1.2.2 : Int) - 0))), (7, .bptr 2 0), (8, .int .i64 twice38), (9, .bptr 4 0), (48, .bool s)]) (fun (s : Bool) => [.box 31 [.str q1.1, .str q1.2.1, .view 2 (List.map enc_api_Field q1.2.2)], .slice 0 37 2 (List.map enc_api_Field (q1.2.2 ++ [([33], [])])), .box 31 [.str r13.1, .str r13.2.1, .own 3 0 0 (List.length r13.2.2)], .slice 0 37 2 (List.map enc_api_Field r13.2.2), .box 31 [.str r63.1, .str r63.2.1, .own 5 0 0 (List.length r63.2.2)], .slice 0 37 2 (List.map enc_api_Field r63.2.2)]) (fun s => s = o67) ?_ ?_
          · clear hQ67
            refine J_regionq follows_mixed (by kernel_rfl) (by kernel_rfl) ?_
            (try simp only [go_sem, Nat.reduceEqDiff, reduceIte])
            rcases ite_cases hP with ⟨hc, hP⟩ | ⟨hc, hP⟩
            · refine guard_not hc ?_
              (try simp only [go_sem, Nat.reduceEqDiff, reduceIte])
              refine hold2 ?_
              exact join_n true (Option.some.inj hP) (so [0, 1, 2, 3, 5, 4])
            · refine guard_is hc ?_
              (try simp only [go_sem, Nat.reduceEqDiff, reduceIte])
              rcases ite_cases hP with ⟨hc, hP⟩ | ⟨hc, hP⟩
              · refine guard_not hc ?_
                (try simp only [go_sem, Nat.reduceEqDiff, reduceIte])
                refine hold2 ?_
                exact join_n true (Option.some.inj hP) (so [0, 1, 2, 3, 5, 4])
              · refine guard_is hc ?_
                (try simp only [go_sem, Nat.reduceEqDiff, reduceIte])
                obtain ⟨r68, hr68, hP⟩ := bind_cases hP
                refine call_okq [.view 2 (List.map enc_api_Field s12)] (harden_Keeps_ok hr68) ⟨argR_m false (by simp only [arg, own_cut0 hs12, go_sem, Nat.reduceEqDiff, reduceIte]), trivial⟩ rfl ?_
                (try simp only [go_sem, Nat.reduceEqDiff, reduceIte])
                obtain ⟨r69, hr69, hP⟩ := bind_cases hP
                refine call_okq [.view 2 (List.map enc_api_Field q1.2.2)] (ref21_Keeps_ok hr69) ⟨argR_m false rfl, trivial⟩ rfl ?_
                (try simp only [go_sem, Nat.reduceEqDiff, reduceIte])
                refine hold2 ?_
                exact join_n (r68 != r69) (Option.some.inj hP) (so [0, 1, 2, 3, 5, 4])
          · intro j70 hs
            subst hs
            have hP := hQ67
            clear hQ67
            obtain ⟨s71, hs71, hP⟩ := bind_cases hP
            refine J_condV rfl ?_
            (try simp only [go_sem, Nat.reduceEqDiff, reduceIte])
            rcases ite_cases hP with ⟨hc, hP⟩ | ⟨hc, hP⟩
            · refine condV_t hc ?_
              refine J_seq ?_
              refine J_region (by kernel_rfl) ?_
              (try simp only [go_sem, Nat.reduceEqDiff, reduceIte])
              refine hold2 (then_n ?_)
              refine J_ret (then_ret (block_ret (then_ret (loop_ret (block_ret (join_ret (then_ret (fin_ret ?_))))))))
              obtain rfl := Option.some.inj hP
              have hP := hQ62
              dsimp only at hP
              obtain rfl := Option.some.inj hP
              (try simp only [go_sem, Nat.reduceEqDiff, reduceIte, Nat.reduceAdd, Nat.reduceSub, Nat.reduceLT, Nat.reduceMul, reduceCtorEq, Int.reduceToNat, Int.reduceLE, Int.reduceLT, Nat.reduceLeDiff])
              exact fo []
            · refine condV_f hc ?_
              refine J_skip (then_n ?_)
              refine J_seq ?_
              refine J_region (by kernel_rfl) ?_
              (try simp only [go_sem, Nat.reduceEqDiff, reduceIte, Nat.reduceAdd, Nat.reduceSub, Nat.reduceLT, Nat.reduceMul, reduceCtorEq, Int.reduceToNat, Int.reduceLE, Int.reduceLT, Nat.reduceLeDiff])
              obtain ⟨_, hz72, hP⟩ := bind_cases hP
              refine app_own (f := enc_api_Field) (r63.2.2 : List ((List UInt8) × (List UInt8))) ([([], [])] : List ((List UInt8) × (List UInt8))) rfl tyS_22 (by decide) (by simp only [go_sem, Nat.reduceEqDiff, reduceIte, Nat.reduceAdd, Nat.reduceSub, Nat.reduceLT, Nat.reduceMul, reduceCtorEq, Int.reduceToNat, Int.reduceLE, Int.reduceLT, Nat.reduceLeDiff]; first | done | rfl | exact ⟨rfl, rfl⟩) hz72 ?_
              (try simp only [go_sem, Nat.reduceEqDiff, reduceIte])
              refine hold2 (then_n ?_)
              refine J_seq ?_
              refine J_region (by kernel_rfl) ?_
              (try simp only [go_sem, Nat.reduceEqDiff, reduceIte])
              refine hold2 (then_n ?_)
              obtain ⟨o83, hP, hQ81⟩ := bind_cases hP
              refine J_joinK (fun (s : Unit) => envL [(1, .int .i64 length2), (2, .bptr 0 0), (5, .bool r3), (6, .own 1 0 0 (Int.toNat ((List.length q1.2.2 : Int) - 0))), (7, .bptr 2 0), (8, .int .i64 twice38)]) (fun (s : Unit) => [.box 31 [.str q1.1, .str q1.2.1, .view 2 (List.map enc_api_Field q1.2.2)], .slice 0 37 2 (List.map enc_api_Field (q1.2.2 ++ [([33], [])])), .box 31 [.str r13.1, .str r13.2.1, .own 3 0 0 (List.length r13.2.2)], .slice 0 37 2 (List.map enc_api_Field r13.2.2)]) (fun s => s = o83) (by repeat (first | exact subC_then | refine subC_block ?_)) ?_ ?_
              · clear hQ81
                refine J_block ?_
                refine J_loop (σ := Nat × Int × (List ((List UInt8) × (List UInt8)))) (fun (s : Nat × Int × (List ((List UInt8) × (List UInt8)))) => envL [(1, .int .i64 length2), (2, .bptr 0 0), (5, .bool r3), (6, .own 1 0 0 (Int.toNat ((List.length q1.2.2 : Int) - 0))), (7, .bptr 2 0), (8, .int .i64 twice38), (11, .own 4 0 0 (List.length s.2.2)), (12, .int .i64 s.2.1)]) (fun (s : Nat × Int × (List ((List UInt8) × (List UInt8)))) => [.box 31 [.str q1.1, .str q1.2.1, .view 2 (List.map enc_api_Field q1.2.2)], .slice 0 37 2 (List.map enc_api_Field (q1.2.2 ++ [([33], [])])), .box 31 [.str r13.1, .str r13.2.1, .own 3 0 0 (List.length r13.2.2)], .slice 0 37 2 (List.map enc_api_Field r13.2.2), .slice 0 37 2 (List.map enc_api_Field s.2.2)]) (fun s => law21_HardenForwards_L81  s.1 s.2.1 s.2.2 = some o83) (fun s => s.1) (1099511627776, 0, r63.2.2 ++ [([], [])]) hP (so [0, 1, 2, 3, 5]) ?_
                rintro ⟨k80, i78, l79⟩ hP
                dsimp only at hP ⊢
                cases k80 with
                | zero => simp [law21_HardenForwards_L81] at hP
                | succ k80 =>
                  simp only [law21_HardenForwards_L81] at hP
                  refine J_seq ?_
                  refine J_seq ?_
                  refine J_region (by kernel_rfl) ?_
                  (try simp only [go_sem, Nat.reduceEqDiff, reduceIte])
                  refine hold2 (then_n ?_)
                  refine J_condV rfl ?_
                  (try simp only [go_sem, Nat.reduceEqDiff, reduceIte])
                  rcases ite_cases hP with ⟨hc, hP⟩ | ⟨hc, hP⟩
                  · refine condV_t hc ?_
                    refine J_skip (then_n ?_)
                    refine J_seq ?_
                    refine J_block ?_
                    refine J_region (by kernel_rfl) ?_
                    (try simp only [go_sem, Nat.reduceEqDiff, reduceIte])
                    obtain ⟨x82, hx82, hP⟩ := bind_cases hP
                    refine ixO_of hx82 ?_
                    (try simp only [go_sem, Nat.reduceEqDiff, reduceIte])
                    refine getK_of (f := enc_api_Field) hx82 ?_
                    (try simp only [go_sem, Nat.reduceEqDiff, reduceIte])
                    refine hold2 (block_n (then_n ?_))
                    refine J_region (by kernel_rfl) ?_
                    (try simp only [go_sem, Nat.reduceEqDiff, reduceIte])
                    refine hold2 ?_
                    exact loop_n (k80, iadd .i64 i78 1, List.set l79 (Int.toNat i78) ([63], [])) hP (Nat.lt_succ_self _) (so [0, 1, 2, 3, 4])
                  · refine condV_f hc ?_
                    refine J_exit (then_exit (loop_exit (block_eq ?_)))
                    exact join_n () (Option.some.inj hP) (so [0, 1, 2, 3])
              · intro j84 hs
                subst hs
                have hP := hQ81
                clear hQ81
                refine block_n (then_n ?_)
                obtain ⟨s85, hs85, hP⟩ := bind_cases hP
                refine J_region (by kernel_rfl) ?_
                (try simp only [go_sem, Nat.reduceEqDiff, reduceIte])
                refine hold2 ?_
                exact loop_n (k39, iadd .i64 twice38 1) hP (Nat.lt_succ_self _) (so [0, 1, 2, 3])
        · refine condV_f hc ?_
          refine J_exit (then_exit (loop_exit (block_eq ?_)))
          exact join_n () (Option.some.inj hP) (so [0, 1])
    · intro j87 hs
      subst hs
      have hP := hQ62
      dsimp only at hP
      clear hQ62
      refine then_n ?_
      obtain ⟨s88, hs88, hP⟩ := bind_cases hP
      refine J_seq ?_
      refine J_region (by kernel_rfl) ?_
      (try simp only [go_sem, Nat.reduceEqDiff, reduceIte])
      obtain ⟨o102, hP, hQ101⟩ := bind_cases hP
      refine call_join (fun (s : Bool) => .bool s) (fun (s : Bool) => envL []) (fun (s : Bool) => []) (fun s => s = o102) (callI_of (n := 25) (rs := [.tmp 4]) Tryz.func17 rfl (by decide) rfl rfl (by simp) rfl ?_) ?_
      · clear hQ101
        refine J_seq ?_
        refine J_region (by kernel_rfl) ?_
        (try simp only [go_sem, Nat.reduceEqDiff, reduceIte])
        refine hold2 (then_n ?_)
        refine J_seq ?_
        refine J_region (by kernel_rfl) ?_
        (try simp only [go_sem, Nat.reduceEqDiff, reduceIte, Nat.reduceAdd, Nat.reduceSub, Nat.reduceLT, Nat.reduceMul, reduceCtorEq, Int.reduceToNat, Int.reduceLE, Int.reduceLT, Nat.reduceLeDiff])
        obtain ⟨r95, hr95, hP⟩ := bind_cases hP
        refine call_ok [.view 2 (List.map enc_api_Field s88), .view 2 (List.map enc_api_Field q1.2.2)] (ref04_Same_ok hr95) ⟨argR_m false (by simp only [arg, own_cut0 hs88, go_sem, Nat.reduceEqDiff, reduceIte]), argR_m false rfl, trivial⟩ ?_
        (try simp only [go_sem, Nat.reduceEqDiff, reduceIte])
        refine hold2 (then_n ?_)
        refine J_seq ?_
        refine J_region (by kernel_rfl) ?_
        (try simp only [go_sem, Nat.reduceEqDiff, reduceIte, Nat.reduceAdd, Nat.reduceSub, Nat.reduceLT, Nat.reduceMul, reduceCtorEq, Int.reduceToNat, Int.reduceLE, Int.reduceLT, Nat.reduceLeDiff])
        obtain ⟨s96, hs96, hP⟩ := bind_cases hP
        refine slO_of hs96 ?_
        (try simp only [go_sem, Nat.reduceEqDiff, reduceIte])
        refine hold2 (then_n ?_)
        obtain ⟨o98, hP, hQ98⟩ := bind_cases hP
        refine J_join (fun (s : Bool) => envL [(4, .bool s)]) (fun (s : Bool) => []) (fun s => s = o98) ?_ ?_
        · clear hQ98
          refine J_region (by kernel_rfl) ?_
          (try simp only [go_sem, Nat.reduceEqDiff, reduceIte])
          rcases ite_cases hP with ⟨hc, hP⟩ | ⟨hc, hP⟩
          · refine guard_is hc ?_
            (try simp only [go_sem, Nat.reduceEqDiff, reduceIte, Nat.reduceAdd, Nat.reduceSub, Nat.reduceLT, Nat.reduceMul, reduceCtorEq, Int.reduceToNat, Int.reduceLE, Int.reduceLT, Nat.reduceLeDiff])
            obtain ⟨x99, hx99, hP⟩ := bind_cases hP
            refine ixO_cut hs96 hx99 ?_
            (try simp only [go_sem, Nat.reduceEqDiff, reduceIte])
            refine getK_of (f := enc_api_Field) (cut_ix hs96 hx99) ?_
            (try simp only [go_sem, Nat.reduceEqDiff, reduceIte])
            refine getK_of (f := enc_api_Field) (cut_ix hs96 hx99) ?_
            (try simp only [go_sem, Nat.reduceEqDiff, reduceIte])
            refine hold2 ?_
            exact join_n (decide (x99.1 = [33])) (Option.some.inj hP) (so [])
          · refine guard_not hc ?_
            (try simp only [go_sem, Nat.reduceEqDiff, reduceIte])
            refine hold2 ?_
            exact join_n false (Option.some.inj hP) (so [])
        · intro j100 hs
          subst hs
          have hP := hQ98
          clear hQ98
          refine J_ret (finI_ret ?_)
          exact told_of ⟨j100, Option.some.inj hP, sr []⟩
      · intro a101 hs
        subst hs
        have hP := hQ101
        clear hQ101
        (try simp only [go_sem, Nat.reduceEqDiff, reduceIte])
        refine hold2 (then_n ?_)
        refine J_ret (fin_ret ?_)
        obtain rfl := Option.some.inj hP
        (try simp only [go_sem, Nat.reduceEqDiff, reduceIte])
        exact fo []
end Go.Proofs.YtgngopfpnidbaaaGreatDoor
