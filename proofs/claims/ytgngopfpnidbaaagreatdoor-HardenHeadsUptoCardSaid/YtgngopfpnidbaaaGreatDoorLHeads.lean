/- Functions of the program, and pure ones that go the same ways: that the program's return what these compute. -/
import Derived.Test.YtgngopfpnidbaaaGreatDoorGQ
import Derived.Test.YtgngopfpnidbaaaGreatDoorGE
import Derived.Test.YtgngopfpnidbaaaGreatDoorAvY
import Derived.Test.YtgngopfpnidbaaaGreatDoorAvJ
namespace Go.Proofs.YtgngopfpnidbaaaGreatDoor
open Go.Av
set_option linter.unusedVariables false
set_option linter.unusedSimpArgs false
/-- colander/colanderlaw21.HardenHeads -/
def law21_HardenHeads_L105 : Nat → Int → (List ((List UInt8) × (List UInt8))) → Option (Unit)
  | 0, _, _ => none
  | k104 + 1, i102, l103 =>
    if decide (i102 < ((List.length l103 : Nat) : Int)) then
      (ixL l103 i102).bind fun x106 =>
      law21_HardenHeads_L105 k104 (iadd .i64 i102 1) (List.set l103 (Int.toNat i102) ([63], []))
    else
      some ()
def law21_HardenHeads_L118 : Nat → Int → (List ((List UInt8) × (List UInt8))) → Option (Unit)
  | 0, _, _ => none
  | k117 + 1, i115, l116 =>
    if decide (i115 < ((List.length l116 : Nat) : Int)) then
      (ixL l116 i115).bind fun x119 =>
      law21_HardenHeads_L118 k117 (iadd .i64 i115 1) (List.set l116 (Int.toNat i115) ([63], []))
    else
      some ()
def law21_HardenHeads_L87 (p1 : Int × (List UInt8) × (List ((List UInt8) × (List UInt8)))) (s14 : List ((List UInt8) × (List UInt8))) (length2 : Int) (last4 : Bool) (b3 : Int × Int) (r5 : Bool) : Nat → Int → Option (Sum (Bool) (Unit))
  | 0, _ => none
  | k52 + 1, twice51 =>
    if decide (twice51 < 2) then
      (harden_Page (p1.1, p1.2.1, s14) length2 last4).bind fun r88 =>
      (harden_Plain (p1.1, p1.2.1, s14) (b3.1, b3.2) last4).bind fun r89 =>
      (ref21_Page (p1.1, p1.2.1, p1.2.2) length2 last4).bind fun r90 =>
      (ref05_SameResponse (r88.1, r88.2.1, r88.2.2) (r90.1, r90.2.1, r90.2.2)).bind fun r91 =>
      (ref21_Plain (p1.1, p1.2.1, p1.2.2) (b3.1, b3.2) last4).bind fun r92 =>
      (ref05_SameResponse (r89.1, r89.2.1, r89.2.2) (r92.1, r92.2.1, r92.2.2)).bind fun r93 =>
      (show Option (Bool) from
        if !r5 then
          some true
        else
          if !r91 then
            some true
          else
            some (!r93)).bind fun j95 =>
        (slL (p1.2.2 ++ [([33], [])]) 0 (List.length p1.2.2 : Int)).bind fun s96 =>
        if j95 then
          some (Sum.inl false)
        else
          (law21_HardenHeads_L105  1099511627776 0 r88.2.2).bind fun j108 =>
            (slL (p1.2.2 ++ [([33], [])]) 0 (List.length p1.2.2 : Int)).bind fun s109 =>
            (law21_HardenHeads_L118  1099511627776 0 r89.2.2).bind fun j121 =>
              (slL (p1.2.2 ++ [([33], [])]) 0 (List.length p1.2.2 : Int)).bind fun s122 =>
              law21_HardenHeads_L87 p1 s14 length2 last4 b3 r5 k52 (iadd .i64 twice51 1)
    else
      some (Sum.inr ())
def law21_HardenHeads (p1 : Int × (List UInt8) × (List ((List UInt8) × (List UInt8)))) (length2 : Int) (b3 : Int × Int) (last4 : Bool) : Option (Bool) :=
  (law21_shown).bind fun r5 =>
  (show Option (Unit) from
    (szC (List.length (p1.2.2 : List ((List UInt8) × (List UInt8))))).bind fun _ =>
    (szC (List.length (p1.2.2 ++ [([33], [])] : List ((List UInt8) × (List UInt8))))).bind fun _ =>
    (slL (p1.2.2 ++ [([33], [])]) 0 (List.length p1.2.2 : Int)).bind fun s11 =>
    some ()).bind fun a12 =>
    (slL (p1.2.2 ++ [([33], [])]) 0 (List.length p1.2.2 : Int)).bind fun s14 =>
    (law21_HardenHeads_L87 p1 s14 length2 last4 b3 r5 1099511627776 0).bind fun o123 => match o123 with
    | Sum.inl r => some r
    | Sum.inr j124 =>
      (slL (p1.2.2 ++ [([33], [])]) 0 (List.length p1.2.2 : Int)).bind fun s125 =>
      (show Option (Bool) from
        (ref04_Same s125 p1.2.2).bind fun r132 =>
        (slL (p1.2.2 ++ [([33], [])]) 0 (iadd .i64 (List.length p1.2.2 : Int) 1)).bind fun s133 =>
        (show Option (Bool) from
          if r132 then
            (ixL s133 (List.length p1.2.2 : Int)).bind fun x136 =>
            some (decide (x136.1 = [33]))
          else
            some false).bind fun j137 =>
          some j137).bind fun a138 =>
        some a138
set_option maxRecDepth 100000 in
set_option maxHeartbeats 40000000 in
theorem law21_HardenHeads_ok {p1 : Int × (List UInt8) × (List ((List UInt8) × (List UInt8)))} {length2 : Int} {b3 : Int × Int} {last4 : Bool} {r : Bool} (hP : law21_HardenHeads p1 length2 b3 last4 = some r) : CallOK Tryz.prog 5 [.agg [.int .i64 p1.1, .str p1.2.1, .view 2 (List.map enc_api_Field p1.2.2)], .int .i64 length2, .agg [.int .i64 b3.1, .int .i64 b3.2], .bool last4] (.bool r) [] := by
  unfold law21_HardenHeads at hP
  refine co 91 [.tmp 8] Tryz.func5 ?_
  refine J_seq ?_
  refine J_region (by kernel_rfl) ?_
  (try simp only [go_sem, Nat.reduceEqDiff, ↓reduceIte])
  refine hold2 (then_n ?_)
  refine J_seq ?_
  refine J_region (by kernel_rfl) ?_
  (try simp only [go_sem, Nat.reduceEqDiff, ↓reduceIte])
  obtain ⟨r5, hr5, hP⟩ := bind_cases hP
  refine call_ok [] (law21_shown_ok hr5) trivial ?_
  (try simp only [go_sem, Nat.reduceEqDiff, ↓reduceIte])
  refine hold2 (then_n ?_)
  refine J_seq ?_
  refine J_region (by kernel_rfl) ?_
  (try simp only [go_sem, Nat.reduceEqDiff, ↓reduceIte, Nat.reduceAdd, Nat.reduceSub, Nat.reduceLT, Nat.reduceMul, reduceCtorEq, Int.reduceToNat, Int.reduceLE, Int.reduceLT, Nat.reduceLeDiff])
  obtain ⟨o13, hP, hQ12⟩ := bind_cases hP
  refine call_join (fun (s : Unit) => .own 2 0 0 (Int.toNat ((List.length p1.2.2 : Int) - 0))) (fun (s : Unit) => envL [(1, .int .i64 length2), (3, .bool last4), (4, .bptr 0 0), (6, .bptr 1 0), (9, .bool r5)]) (fun (s : Unit) => [.box 24 [.int .i64 p1.1, .str p1.2.1, .view 2 (List.map enc_api_Field p1.2.2)], .box 41 [.int .i64 b3.1, .int .i64 b3.2], .slice 0 37 2 (List.map enc_api_Field (p1.2.2 ++ [([33], [])]))]) (fun s => s = o13) (callI_of (n := 14) (rs := [.tmp 2]) Tryz.func11 rfl (by decide) rfl rfl (by simp) rfl ?_) ?_
  · clear hQ12
    refine J_seq ?_
    refine J_region (by kernel_rfl) ?_
    (try simp only [go_sem, Nat.reduceEqDiff, ↓reduceIte, Nat.reduceAdd, Nat.reduceSub, Nat.reduceLT, Nat.reduceMul, reduceCtorEq, Int.reduceToNat, Int.reduceLE, Int.reduceLT, Nat.reduceLeDiff])
    refine hold2 (then_n ?_)
    refine J_seq ?_
    refine J_region (by kernel_rfl) ?_
    (try simp only [go_sem, Nat.reduceEqDiff, ↓reduceIte, Nat.reduceAdd, Nat.reduceSub, Nat.reduceLT, Nat.reduceMul, reduceCtorEq, Int.reduceToNat, Int.reduceLE, Int.reduceLT, Nat.reduceLeDiff])
    obtain ⟨_, hz9, hP⟩ := bind_cases hP
    refine app_own (f := enc_api_Field) (([] : List ((List UInt8) × (List UInt8))) : List ((List UInt8) × (List UInt8))) (p1.2.2 : List ((List UInt8) × (List UInt8))) rfl tyS_22 (by decide) (by simp only [go_sem, Nat.reduceEqDiff, ↓reduceIte, Nat.reduceAdd, Nat.reduceSub, Nat.reduceLT, Nat.reduceMul, reduceCtorEq, Int.reduceToNat, Int.reduceLE, Int.reduceLT, Nat.reduceLeDiff]; first | done | rfl | exact ⟨rfl, rfl⟩) hz9 ?_
    (try simp only [go_sem, Nat.reduceEqDiff, ↓reduceIte, Nat.reduceAdd, Nat.reduceSub, Nat.reduceLT, Nat.reduceMul, reduceCtorEq, Int.reduceToNat, Int.reduceLE, Int.reduceLT, Nat.reduceLeDiff])
    obtain ⟨_, hz10, hP⟩ := bind_cases hP
    refine app_own (f := enc_api_Field) (p1.2.2 : List ((List UInt8) × (List UInt8))) ([([33], [])] : List ((List UInt8) × (List UInt8))) rfl tyS_22 (by decide) (by simp only [go_sem, Nat.reduceEqDiff, ↓reduceIte, Nat.reduceAdd, Nat.reduceSub, Nat.reduceLT, Nat.reduceMul, reduceCtorEq, Int.reduceToNat, Int.reduceLE, Int.reduceLT, Nat.reduceLeDiff]; first | done | rfl | exact ⟨rfl, rfl⟩) hz10 ?_
    (try simp only [go_sem, Nat.reduceEqDiff, ↓reduceIte])
    refine hold2 (then_n ?_)
    refine J_seq ?_
    refine J_region (by kernel_rfl) ?_
    (try simp only [go_sem, Nat.reduceEqDiff, ↓reduceIte, Nat.reduceAdd, Nat.reduceSub, Nat.reduceLT, Nat.reduceMul, reduceCtorEq, Int.reduceToNat, Int.reduceLE, Int.reduceLT, Nat.reduceLeDiff])
    obtain ⟨s11, hs11, hP⟩ := bind_cases hP
    refine slO_of hs11 ?_
    (try simp only [go_sem, Nat.reduceEqDiff, ↓reduceIte])
    refine hold2 (then_n ?_)
    refine J_ret (finI_ret ?_)
    exact told_of ⟨(), Option.some.inj hP, sr [0, 1, 3]⟩
  · intro a12 hs
    subst hs
    have hP := hQ12
    clear hQ12
    (try simp only [go_sem, Nat.reduceEqDiff, ↓reduceIte])
    obtain ⟨s14, hs14, hP⟩ := bind_cases hP
    refine hold2 (then_n ?_)
    refine J_seq ?_
    refine J_region (by kernel_rfl) ?_
    (try simp only [go_sem, Nat.reduceEqDiff, ↓reduceIte, Nat.reduceAdd, Nat.reduceSub, Nat.reduceLT, Nat.reduceMul, reduceCtorEq, Int.reduceToNat, Int.reduceLE, Int.reduceLT, Nat.reduceLeDiff])
    refine hold2 (then_n ?_)
    refine J_seq ?_
    refine J_seq ?_
    refine J_region (by kernel_rfl) ?_
    (try simp only [go_sem, Nat.reduceEqDiff, ↓reduceIte])
    refine hold2 (then_n ?_)
    obtain ⟨o123, hP, hQ87⟩ := bind_cases hP
    refine J_joinK0 (fun (s : Unit) => envL [(4, .bptr 0 0), (10, .own 1 0 0 (Int.toNat ((List.length p1.2.2 : Int) - 0)))]) (fun (s : Unit) => [.box 24 [.int .i64 p1.1, .str p1.2.1, .view 2 (List.map enc_api_Field p1.2.2)], .slice 0 37 2 (List.map enc_api_Field (p1.2.2 ++ [([33], [])]))]) (fun s => Sum.inr s = o123) ?_ ?_
    · refine J_block ?_
      refine J_loop (σ := Nat × Int) (fun (s : Nat × Int) => envL [(1, .int .i64 length2), (3, .bool last4), (4, .bptr 0 0), (6, .bptr 1 0), (9, .bool r5), (10, .own 2 0 0 (Int.toNat ((List.length p1.2.2 : Int) - 0))), (11, .bptr 3 0), (12, .int .i64 s.2)]) (fun (s : Nat × Int) => [.box 24 [.int .i64 p1.1, .str p1.2.1, .view 2 (List.map enc_api_Field p1.2.2)], .box 41 [.int .i64 b3.1, .int .i64 b3.2], .slice 0 37 2 (List.map enc_api_Field (p1.2.2 ++ [([33], [])])), .box 24 [.int .i64 p1.1, .str p1.2.1, .own 2 0 0 (Int.toNat ((List.length p1.2.2 : Int) - 0))]]) (fun s => law21_HardenHeads_L87 p1 s14 length2 last4 b3 r5 s.1 s.2 = some o123) (fun s => s.1) (1099511627776, 0) hP (so [0, 1, 2, 3]) ?_
      rintro ⟨k52, twice51⟩ hP
      dsimp only at hP ⊢
      cases k52 with
      | zero => simp [law21_HardenHeads_L87] at hP
      | succ k52 =>
        simp only [law21_HardenHeads_L87] at hP
        refine J_seq ?_
        refine J_seq ?_
        refine J_region (by kernel_rfl) ?_
        (try simp only [go_sem, Nat.reduceEqDiff, ↓reduceIte])
        refine hold2 (then_n ?_)
        refine J_condV rfl ?_
        (try simp only [go_sem, Nat.reduceEqDiff, ↓reduceIte])
        rcases ite_cases hP with ⟨hc, hP⟩ | ⟨hc, hP⟩
        · refine condV_t hc ?_
          refine J_skip (then_n ?_)
          refine J_seq ?_
          refine J_block ?_
          refine J_seq ?_
          refine J_region (by kernel_rfl) ?_
          (try simp only [go_sem, Nat.reduceEqDiff, ↓reduceIte])
          obtain ⟨r88, hr88, hP⟩ := bind_cases hP
          refine call_ok [.agg [.int .i64 p1.1, .str p1.2.1, .view 2 (List.map enc_api_Field s14)], .int .i64 length2, .bool last4] (harden_Page_ok hr88) ⟨argR_agg ⟨argC_m false rfl, argC_m false rfl, argC_m false (by simp only [arg, own_cut0 hs14, go_sem, Nat.reduceEqDiff, ↓reduceIte]), trivial⟩, argR_m false rfl, argR_m false rfl, trivial⟩ ?_
          (try simp only [go_sem, Nat.reduceEqDiff, ↓reduceIte])
          refine hold2 (then_n ?_)
          refine J_seq ?_
          refine J_region (by kernel_rfl) ?_
          (try simp only [go_sem, Nat.reduceEqDiff, ↓reduceIte])
          obtain ⟨r89, hr89, hP⟩ := bind_cases hP
          refine call_ok [.agg [.int .i64 p1.1, .str p1.2.1, .view 2 (List.map enc_api_Field s14)], .agg [.int .i64 b3.1, .int .i64 b3.2], .bool last4] (harden_Plain_ok hr89) ⟨argR_agg ⟨argC_m false rfl, argC_m false rfl, argC_m false (by simp only [arg, own_cut0 hs14, go_sem, Nat.reduceEqDiff, ↓reduceIte]), trivial⟩, argR_m false rfl, argR_m false rfl, trivial⟩ ?_
          (try simp only [go_sem, Nat.reduceEqDiff, ↓reduceIte])
          refine hold2 (then_n ?_)
          refine J_seq ?_
          refine J_regionf follows_mixed (by kernel_rfl) (by kernel_rfl) ?_
          (try simp only [go_sem, Nat.reduceEqDiff, ↓reduceIte])
          obtain ⟨r90, hr90, hP⟩ := bind_cases hP
          refine call_okf [.agg [.int .i64 p1.1, .str p1.2.1, .view 2 (List.map enc_api_Field p1.2.2)], .int .i64 length2, .bool last4] (ref21_Page_ok hr90) ⟨argR_m false rfl, argR_m false rfl, argR_m false rfl, trivial⟩ ?_
          (try simp only [go_sem, Nat.reduceEqDiff, ↓reduceIte])
          obtain ⟨r91, hr91, hP⟩ := bind_cases hP
          refine call_okf [.agg [.int .i64 r88.1, .str r88.2.1, .view 2 (List.map enc_api_Field r88.2.2)], .agg [.int .i64 r90.1, .str r90.2.1, .view 2 (List.map enc_api_Field r90.2.2)]] (ref05_SameResponse_ok hr91) ⟨argR_agg ⟨argC_m false rfl, argC_m false rfl, argC_m false (by simp only [arg, go_sem, Nat.reduceEqDiff, ↓reduceIte]), trivial⟩, argR_m false rfl, trivial⟩ ?_
          (try simp only [go_sem, Nat.reduceEqDiff, ↓reduceIte])
          refine hold2 (then_n ?_)
          refine J_seq ?_
          refine J_regionf follows_mixed (by kernel_rfl) (by kernel_rfl) ?_
          (try simp only [go_sem, Nat.reduceEqDiff, ↓reduceIte])
          obtain ⟨r92, hr92, hP⟩ := bind_cases hP
          refine call_okf [.agg [.int .i64 p1.1, .str p1.2.1, .view 2 (List.map enc_api_Field p1.2.2)], .agg [.int .i64 b3.1, .int .i64 b3.2], .bool last4] (ref21_Plain_ok hr92) ⟨argR_m false rfl, argR_m false rfl, argR_m false rfl, trivial⟩ ?_
          (try simp only [go_sem, Nat.reduceEqDiff, ↓reduceIte])
          obtain ⟨r93, hr93, hP⟩ := bind_cases hP
          refine call_okf [.agg [.int .i64 r89.1, .str r89.2.1, .view 2 (List.map enc_api_Field r89.2.2)], .agg [.int .i64 r92.1, .str r92.2.1, .view 2 (List.map enc_api_Field r92.2.2)]] (ref05_SameResponse_ok hr93) ⟨argR_agg ⟨argC_m false rfl, argC_m false rfl, argC_m false (by simp only [arg, go_sem, Nat.reduceEqDiff, ↓reduceIte]), trivial⟩, argR_m false rfl, trivial⟩ ?_
          (try simp only [go_sem, Nat.reduceEqDiff, ↓reduceIte])
          refine hold2 (then_n ?_)
          refine J_seq ?_
          obtain ⟨o94, hP, hQ94⟩ := bind_cases hP
          refine J_join (fun (s : Bool) => envL [(1, .int .i64 length2), (3, .bool last4), (4, .bptr 0 0), (6, .bptr 1 0), (9, .bool r5), (10, .own 2 0 0 (Int.toNat ((List.length p1.2.2 : Int) - 0))), (11, .bptr 3 0), (12, .int .i64 twice51), (13, .bptr 4 0), (14, .bptr 6 0), (62, .bool s)]) (fun (s : Bool) => [.box 24 [.int .i64 p1.1, .str p1.2.1, .view 2 (List.map enc_api_Field p1.2.2)], .box 41 [.int .i64 b3.1, .int .i64 b3.2], .slice 0 37 2 (List.map enc_api_Field (p1.2.2 ++ [([33], [])])), .box 24 [.int .i64 p1.1, .str p1.2.1, .own 2 0 0 (Int.toNat ((List.length p1.2.2 : Int) - 0))], .box 24 [.int .i64 r88.1, .str r88.2.1, .own 5 0 0 (List.length r88.2.2)], .slice 0 37 2 (List.map enc_api_Field r88.2.2), .box 24 [.int .i64 r89.1, .str r89.2.1, .own 7 0 0 (List.length r89.2.2)], .slice 0 37 2 (List.map enc_api_Field r89.2.2)]) (fun s => s = o94) ?_ ?_
          · clear hQ94
            refine J_region (by kernel_rfl) ?_
            (try simp only [go_sem, Nat.reduceEqDiff, ↓reduceIte])
            rcases ite_cases hP with ⟨hc, hP⟩ | ⟨hc, hP⟩
            · refine guard_not hc ?_
              (try simp only [go_sem, Nat.reduceEqDiff, ↓reduceIte])
              refine hold2 ?_
              exact join_n true (Option.some.inj hP) (so [0, 1, 2, 3, 5, 4, 7, 6])
            · refine guard_is hc ?_
              (try simp only [go_sem, Nat.reduceEqDiff, ↓reduceIte])
              rcases ite_cases hP with ⟨hc, hP⟩ | ⟨hc, hP⟩
              · refine guard_not hc ?_
                (try simp only [go_sem, Nat.reduceEqDiff, ↓reduceIte])
                refine hold2 ?_
                exact join_n true (Option.some.inj hP) (so [0, 1, 2, 3, 5, 4, 7, 6])
              · refine guard_is hc ?_
                (try simp only [go_sem, Nat.reduceEqDiff, ↓reduceIte])
                refine hold2 ?_
                exact join_n (!r93) (Option.some.inj hP) (so [0, 1, 2, 3, 5, 4, 7, 6])
          · intro j95 hs
            subst hs
            have hP := hQ94
            clear hQ94
            obtain ⟨s96, hs96, hP⟩ := bind_cases hP
            refine J_condV rfl ?_
            (try simp only [go_sem, Nat.reduceEqDiff, ↓reduceIte])
            rcases ite_cases hP with ⟨hc, hP⟩ | ⟨hc, hP⟩
            · refine condV_t hc ?_
              refine J_seq ?_
              refine J_region (by kernel_rfl) ?_
              (try simp only [go_sem, Nat.reduceEqDiff, ↓reduceIte])
              refine hold2 (then_n ?_)
              refine J_ret (then_ret (block_ret (then_ret (loop_ret (block_ret (join_ret (then_ret (fin_ret ?_))))))))
              obtain rfl := Option.some.inj hP
              have hP := hQ87
              dsimp only at hP
              obtain rfl := Option.some.inj hP
              (try simp only [go_sem, Nat.reduceEqDiff, ↓reduceIte])
              exact fo []
            · refine condV_f hc ?_
              refine J_skip (then_n ?_)
              refine J_seq ?_
              refine J_seq ?_
              refine J_region (by kernel_rfl) ?_
              (try simp only [go_sem, Nat.reduceEqDiff, ↓reduceIte])
              refine hold2 (then_n ?_)
              obtain ⟨o107, hP, hQ105⟩ := bind_cases hP
              refine J_joinK0 (fun (s : Unit) => envL [(1, .int .i64 length2), (3, .bool last4), (4, .bptr 0 0), (6, .bptr 1 0), (9, .bool r5), (10, .own 2 0 0 (Int.toNat ((List.length p1.2.2 : Int) - 0))), (11, .bptr 3 0), (12, .int .i64 twice51), (14, .bptr 4 0)]) (fun (s : Unit) => [.box 24 [.int .i64 p1.1, .str p1.2.1, .view 2 (List.map enc_api_Field p1.2.2)], .box 41 [.int .i64 b3.1, .int .i64 b3.2], .slice 0 37 2 (List.map enc_api_Field (p1.2.2 ++ [([33], [])])), .box 24 [.int .i64 p1.1, .str p1.2.1, .own 2 0 0 (Int.toNat ((List.length p1.2.2 : Int) - 0))], .box 24 [.int .i64 r89.1, .str r89.2.1, .own 5 0 0 (List.length r89.2.2)], .slice 0 37 2 (List.map enc_api_Field r89.2.2)]) (fun s => s = o107) ?_ ?_
              · clear hQ105
                refine J_block ?_
                refine J_loop (σ := Nat × Int × (List ((List UInt8) × (List UInt8)))) (fun (s : Nat × Int × (List ((List UInt8) × (List UInt8)))) => envL [(1, .int .i64 length2), (3, .bool last4), (4, .bptr 0 0), (6, .bptr 1 0), (9, .bool r5), (10, .own 2 0 0 (Int.toNat ((List.length p1.2.2 : Int) - 0))), (11, .bptr 3 0), (12, .int .i64 twice51), (13, .bptr 4 0), (14, .bptr 6 0), (17, .int .i64 s.2.1)]) (fun (s : Nat × Int × (List ((List UInt8) × (List UInt8)))) => [.box 24 [.int .i64 p1.1, .str p1.2.1, .view 2 (List.map enc_api_Field p1.2.2)], .box 41 [.int .i64 b3.1, .int .i64 b3.2], .slice 0 37 2 (List.map enc_api_Field (p1.2.2 ++ [([33], [])])), .box 24 [.int .i64 p1.1, .str p1.2.1, .own 2 0 0 (Int.toNat ((List.length p1.2.2 : Int) - 0))], .box 24 [.int .i64 r88.1, .str r88.2.1, .own 5 0 0 (List.length s.2.2)], .slice 0 37 2 (List.map enc_api_Field s.2.2), .box 24 [.int .i64 r89.1, .str r89.2.1, .own 7 0 0 (List.length r89.2.2)], .slice 0 37 2 (List.map enc_api_Field r89.2.2)]) (fun s => law21_HardenHeads_L105  s.1 s.2.1 s.2.2 = some o107) (fun s => s.1) (1099511627776, 0, r88.2.2) hP (so [0, 1, 2, 3, 4, 5, 6, 7]) ?_
                rintro ⟨k104, i102, l103⟩ hP
                dsimp only at hP ⊢
                cases k104 with
                | zero => simp [law21_HardenHeads_L105] at hP
                | succ k104 =>
                  simp only [law21_HardenHeads_L105] at hP
                  refine J_seq ?_
                  refine J_seq ?_
                  refine J_region (by kernel_rfl) ?_
                  (try simp only [go_sem, Nat.reduceEqDiff, ↓reduceIte])
                  refine hold2 (then_n ?_)
                  refine J_condV rfl ?_
                  (try simp only [go_sem, Nat.reduceEqDiff, ↓reduceIte])
                  rcases ite_cases hP with ⟨hc, hP⟩ | ⟨hc, hP⟩
                  · refine condV_t hc ?_
                    refine J_skip (then_n ?_)
                    refine J_seq ?_
                    refine J_block ?_
                    refine J_region (by kernel_rfl) ?_
                    (try simp only [go_sem, Nat.reduceEqDiff, ↓reduceIte])
                    obtain ⟨x106, hx106, hP⟩ := bind_cases hP
                    refine ixO_of hx106 ?_
                    (try simp only [go_sem, Nat.reduceEqDiff, ↓reduceIte])
                    refine getK_of (f := enc_api_Field) hx106 ?_
                    (try simp only [go_sem, Nat.reduceEqDiff, ↓reduceIte])
                    refine hold2 (block_n (then_n ?_))
                    refine J_region (by kernel_rfl) ?_
                    (try simp only [go_sem, Nat.reduceEqDiff, ↓reduceIte])
                    refine hold2 ?_
                    exact loop_n (k104, iadd .i64 i102 1, List.set l103 (Int.toNat i102) ([63], [])) hP (Nat.lt_succ_self _) (so [0, 1, 2, 3, 4, 5, 6, 7])
                  · refine condV_f hc ?_
                    refine J_exit (then_exit (loop_exit (block_eq ?_)))
                    exact join_n () (Option.some.inj hP) (so [0, 1, 2, 3, 6, 7])
              · intro j108 hs
                subst hs
                have hP := hQ105
                clear hQ105
                refine then_n ?_
                obtain ⟨s109, hs109, hP⟩ := bind_cases hP
                refine J_seq ?_
                refine J_region (by kernel_rfl) ?_
                (try simp only [go_sem, Nat.reduceEqDiff, ↓reduceIte])
                refine hold2 (then_n ?_)
                obtain ⟨o120, hP, hQ118⟩ := bind_cases hP
                refine J_joinK0 (fun (s : Unit) => envL [(1, .int .i64 length2), (3, .bool last4), (4, .bptr 0 0), (6, .bptr 1 0), (9, .bool r5), (10, .own 2 0 0 (Int.toNat ((List.length p1.2.2 : Int) - 0))), (11, .bptr 3 0), (12, .int .i64 twice51)]) (fun (s : Unit) => [.box 24 [.int .i64 p1.1, .str p1.2.1, .view 2 (List.map enc_api_Field p1.2.2)], .box 41 [.int .i64 b3.1, .int .i64 b3.2], .slice 0 37 2 (List.map enc_api_Field (p1.2.2 ++ [([33], [])])), .box 24 [.int .i64 p1.1, .str p1.2.1, .own 2 0 0 (Int.toNat ((List.length p1.2.2 : Int) - 0))]]) (fun s => s = o120) ?_ ?_
                · clear hQ118
                  refine J_block ?_
                  refine J_loop (σ := Nat × Int × (List ((List UInt8) × (List UInt8)))) (fun (s : Nat × Int × (List ((List UInt8) × (List UInt8)))) => envL [(1, .int .i64 length2), (3, .bool last4), (4, .bptr 0 0), (6, .bptr 1 0), (9, .bool r5), (10, .own 2 0 0 (Int.toNat ((List.length p1.2.2 : Int) - 0))), (11, .bptr 3 0), (12, .int .i64 twice51), (14, .bptr 4 0), (18, .int .i64 s.2.1)]) (fun (s : Nat × Int × (List ((List UInt8) × (List UInt8)))) => [.box 24 [.int .i64 p1.1, .str p1.2.1, .view 2 (List.map enc_api_Field p1.2.2)], .box 41 [.int .i64 b3.1, .int .i64 b3.2], .slice 0 37 2 (List.map enc_api_Field (p1.2.2 ++ [([33], [])])), .box 24 [.int .i64 p1.1, .str p1.2.1, .own 2 0 0 (Int.toNat ((List.length p1.2.2 : Int) - 0))], .box 24 [.int .i64 r89.1, .str r89.2.1, .own 5 0 0 (List.length s.2.2)], .slice 0 37 2 (List.map enc_api_Field s.2.2)]) (fun s => law21_HardenHeads_L118  s.1 s.2.1 s.2.2 = some o120) (fun s => s.1) (1099511627776, 0, r89.2.2) hP (so [0, 1, 2, 3, 4, 5]) ?_
                  rintro ⟨k117, i115, l116⟩ hP
                  dsimp only at hP ⊢
                  cases k117 with
                  | zero => simp [law21_HardenHeads_L118] at hP
                  | succ k117 =>
                    simp only [law21_HardenHeads_L118] at hP
                    refine J_seq ?_
                    refine J_seq ?_
                    refine J_region (by kernel_rfl) ?_
                    (try simp only [go_sem, Nat.reduceEqDiff, ↓reduceIte])
                    refine hold2 (then_n ?_)
                    refine J_condV rfl ?_
                    (try simp only [go_sem, Nat.reduceEqDiff, ↓reduceIte])
                    rcases ite_cases hP with ⟨hc, hP⟩ | ⟨hc, hP⟩
                    · refine condV_t hc ?_
                      refine J_skip (then_n ?_)
                      refine J_seq ?_
                      refine J_block ?_
                      refine J_region (by kernel_rfl) ?_
                      (try simp only [go_sem, Nat.reduceEqDiff, ↓reduceIte])
                      obtain ⟨x119, hx119, hP⟩ := bind_cases hP
                      refine ixO_of hx119 ?_
                      (try simp only [go_sem, Nat.reduceEqDiff, ↓reduceIte])
                      refine getK_of (f := enc_api_Field) hx119 ?_
                      (try simp only [go_sem, Nat.reduceEqDiff, ↓reduceIte])
                      refine hold2 (block_n (then_n ?_))
                      refine J_region (by kernel_rfl) ?_
                      (try simp only [go_sem, Nat.reduceEqDiff, ↓reduceIte])
                      refine hold2 ?_
                      exact loop_n (k117, iadd .i64 i115 1, List.set l116 (Int.toNat i115) ([63], [])) hP (Nat.lt_succ_self _) (so [0, 1, 2, 3, 4, 5])
                    · refine condV_f hc ?_
                      refine J_exit (then_exit (loop_exit (block_eq ?_)))
                      exact join_n () (Option.some.inj hP) (so [0, 1, 2, 3])
                · intro j121 hs
                  subst hs
                  have hP := hQ118
                  clear hQ118
                  refine block_n (then_n ?_)
                  obtain ⟨s122, hs122, hP⟩ := bind_cases hP
                  refine J_region (by kernel_rfl) ?_
                  (try simp only [go_sem, Nat.reduceEqDiff, ↓reduceIte])
                  refine hold2 ?_
                  exact loop_n (k52, iadd .i64 twice51 1) hP (Nat.lt_succ_self _) (so [0, 1, 2, 3])
        · refine condV_f hc ?_
          refine J_exit (then_exit (loop_exit (block_eq ?_)))
          exact join_n () (Option.some.inj hP) (so [0, 2])
    · intro j124 hs
      subst hs
      have hP := hQ87
      dsimp only at hP
      clear hQ87
      refine then_n ?_
      obtain ⟨s125, hs125, hP⟩ := bind_cases hP
      refine J_seq ?_
      refine J_region (by kernel_rfl) ?_
      (try simp only [go_sem, Nat.reduceEqDiff, ↓reduceIte])
      obtain ⟨o139, hP, hQ138⟩ := bind_cases hP
      refine call_join (fun (s : Bool) => .bool s) (fun (s : Bool) => envL []) (fun (s : Bool) => []) (fun s => s = o139) (callI_of (n := 25) (rs := [.tmp 4]) Tryz.func17 rfl (by decide) rfl rfl (by simp) rfl ?_) ?_
      · clear hQ138
        refine J_seq ?_
        refine J_region (by kernel_rfl) ?_
        (try simp only [go_sem, Nat.reduceEqDiff, ↓reduceIte])
        refine hold2 (then_n ?_)
        refine J_seq ?_
        refine J_region (by kernel_rfl) ?_
        (try simp only [go_sem, Nat.reduceEqDiff, ↓reduceIte, Nat.reduceAdd, Nat.reduceSub, Nat.reduceLT, Nat.reduceMul, reduceCtorEq, Int.reduceToNat, Int.reduceLE, Int.reduceLT, Nat.reduceLeDiff])
        obtain ⟨r132, hr132, hP⟩ := bind_cases hP
        refine call_ok [.view 2 (List.map enc_api_Field s125), .view 2 (List.map enc_api_Field p1.2.2)] (ref04_Same_ok hr132) ⟨argR_m false (by simp only [arg, own_cut0 hs125, go_sem, Nat.reduceEqDiff, ↓reduceIte]), argR_m false rfl, trivial⟩ ?_
        (try simp only [go_sem, Nat.reduceEqDiff, ↓reduceIte])
        refine hold2 (then_n ?_)
        refine J_seq ?_
        refine J_region (by kernel_rfl) ?_
        (try simp only [go_sem, Nat.reduceEqDiff, ↓reduceIte, Nat.reduceAdd, Nat.reduceSub, Nat.reduceLT, Nat.reduceMul, reduceCtorEq, Int.reduceToNat, Int.reduceLE, Int.reduceLT, Nat.reduceLeDiff])
        obtain ⟨s133, hs133, hP⟩ := bind_cases hP
        refine slO_of hs133 ?_
        (try simp only [go_sem, Nat.reduceEqDiff, ↓reduceIte])
        refine hold2 (then_n ?_)
        obtain ⟨o135, hP, hQ135⟩ := bind_cases hP
        refine J_join (fun (s : Bool) => envL [(4, .bool s)]) (fun (s : Bool) => []) (fun s => s = o135) ?_ ?_
        · clear hQ135
          refine J_region (by kernel_rfl) ?_
          (try simp only [go_sem, Nat.reduceEqDiff, ↓reduceIte])
          rcases ite_cases hP with ⟨hc, hP⟩ | ⟨hc, hP⟩
          · refine guard_is hc ?_
            (try simp only [go_sem, Nat.reduceEqDiff, ↓reduceIte, Nat.reduceAdd, Nat.reduceSub, Nat.reduceLT, Nat.reduceMul, reduceCtorEq, Int.reduceToNat, Int.reduceLE, Int.reduceLT, Nat.reduceLeDiff])
            obtain ⟨x136, hx136, hP⟩ := bind_cases hP
            refine ixO_cut hs133 hx136 ?_
            (try simp only [go_sem, Nat.reduceEqDiff, ↓reduceIte])
            refine getK_of (f := enc_api_Field) (cut_ix hs133 hx136) ?_
            (try simp only [go_sem, Nat.reduceEqDiff, ↓reduceIte])
            refine getK_of (f := enc_api_Field) (cut_ix hs133 hx136) ?_
            (try simp only [go_sem, Nat.reduceEqDiff, ↓reduceIte])
            refine hold2 ?_
            exact join_n (decide (x136.1 = [33])) (Option.some.inj hP) (so [])
          · refine guard_not hc ?_
            (try simp only [go_sem, Nat.reduceEqDiff, ↓reduceIte])
            refine hold2 ?_
            exact join_n false (Option.some.inj hP) (so [])
        · intro j137 hs
          subst hs
          have hP := hQ135
          clear hQ135
          refine J_ret (finI_ret ?_)
          exact told_of ⟨j137, Option.some.inj hP, sr []⟩
      · intro a138 hs
        subst hs
        have hP := hQ138
        clear hQ138
        (try simp only [go_sem, Nat.reduceEqDiff, ↓reduceIte])
        refine hold2 (then_n ?_)
        refine J_ret (fin_ret ?_)
        obtain rfl := Option.some.inj hP
        (try simp only [go_sem, Nat.reduceEqDiff, ↓reduceIte])
        exact fo []
end Go.Proofs.YtgngopfpnidbaaaGreatDoor
