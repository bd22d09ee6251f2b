/- Functions of the program, and pure ones that go the same ways: that the program's return what these compute. -/
import Derived.Test.YtgngopfpnidbaaaGreatDoorGH
import Derived.Test.YtgngopfpnidbaaaGreatDoorGR
import Derived.Test.YtgngopfpnidbaaaGreatDoorAvJ
namespace Go.Proofs.YtgngopfpnidbaaaGreatDoor
open Go.Av
set_option linter.unusedVariables false
set_option linter.unusedSimpArgs false
/-- colander/colanderref05.SameRequest -/
def ref05_SameRequest (a1 : (List UInt8) × (List UInt8) × (List ((List UInt8) × (List UInt8)))) (b2 : (List UInt8) × (List UInt8) × (List ((List UInt8) × (List UInt8)))) : Option (Bool) :=
  (ref04_Same a1.2.2 b2.2.2).bind fun r3 =>
  if decide (a1.1 = b2.1) then
    if decide (a1.2.1 = b2.2.1) then
      some r3
    else
      some false
  else
    some false
set_option maxRecDepth 100000 in
set_option maxHeartbeats 40000000 in
theorem ref05_SameRequest_ok {a1 : (List UInt8) × (List UInt8) × (List ((List UInt8) × (List UInt8)))} {b2 : (List UInt8) × (List UInt8) × (List ((List UInt8) × (List UInt8)))} {r : Bool} (hP : ref05_SameRequest a1 b2 = some r) : CallOK Tryz.prog 14 [.agg [.str a1.1, .str a1.2.1, .view 2 (List.map enc_api_Field a1.2.2)], .agg [.str b2.1, .str b2.2.1, .view 2 (List.map enc_api_Field b2.2.2)]] (.bool r) [] := by
  unfold ref05_SameRequest at hP
  refine co 26 [.tmp 4] Tryz.func14 ?_
  refine J_seq ?_
  refine J_region (by kernel_rfl) ?_
  (try simp only [go_sem, Nat.reduceEqDiff, reduceIte])
  refine hold2 (then_n ?_)
  refine J_seq ?_
  refine J_region (by kernel_rfl) ?_
  (try simp only [go_sem, Nat.reduceEqDiff, reduceIte])
  obtain ⟨r3, hr3, hP⟩ := bind_cases hP
  refine call_ok [.view 2 (List.map enc_api_Field a1.2.2), .view 2 (List.map enc_api_Field b2.2.2)] (ref04_Same_ok hr3) ⟨argR_m false rfl, argR_m false rfl, trivial⟩ ?_
  (try simp only [go_sem, Nat.reduceEqDiff, reduceIte])
  refine hold2 (then_n ?_)
  refine J_seq ?_
  refine J_region (by kernel_rfl) ?_
  (try simp only [go_sem, Nat.reduceEqDiff, reduceIte])
  rcases ite_cases hP with ⟨hc, hP⟩ | ⟨hc, hP⟩
  · refine guard_is hc ?_
    (try simp only [go_sem, Nat.reduceEqDiff, reduceIte])
    rcases ite_cases hP with ⟨hc, hP⟩ | ⟨hc, hP⟩
    · refine guard_is hc ?_
      (try simp only [go_sem, Nat.reduceEqDiff, reduceIte])
      refine hold2 (then_n ?_)
      refine J_ret (fin_ret ?_)
      obtain rfl := Option.some.inj hP
      (try simp only [go_sem, Nat.reduceEqDiff, reduceIte])
      exact fo []
    · refine guard_not hc ?_
      (try simp only [go_sem, Nat.reduceEqDiff, reduceIte])
      refine hold2 (then_n ?_)
      refine J_ret (fin_ret ?_)
      obtain rfl := Option.some.inj hP
      (try simp only [go_sem, Nat.reduceEqDiff, reduceIte])
      exact fo []
  · refine guard_not hc ?_
    (try simp only [go_sem, Nat.reduceEqDiff, reduceIte])
    refine hold2 (then_n ?_)
    refine J_ret (fin_ret ?_)
    obtain rfl := Option.some.inj hP
    (try simp only [go_sem, Nat.reduceEqDiff, reduceIte])
    exact fo []
/-- colander/colanderref05.wrong -/
def ref05_wrong_L25 (s1 : List UInt8) : Nat → Int → Option (Sum (Int) (Unit))
  | 0, _ => none
  | k15 + 1, i14 =>
    if decide (i14 < (List.length s1 : Int)) then
      (show Option (Bool) from
        (ixL s1 i14).bind fun c31 =>
        if decide (b2i c31 < b2i (bC 32)) then
          (ixL s1 i14).bind fun c32 =>
          if !decide (b2i c32 = b2i (bC 9)) then
            some true
          else
            (ixL s1 i14).bind fun c33 =>
            some (decide (b2i c33 = b2i (bC 127)))
        else
          (ixL s1 i14).bind fun c34 =>
          some (decide (b2i c34 = b2i (bC 127)))).bind fun j35 =>
        if j35 then
          some (Sum.inl i14)
        else
          ref05_wrong_L25 s1 k15 (iadd .i64 i14 1)
    else
      some (Sum.inr ())
def ref05_wrong (s1 : List UInt8) (from2 : Int) : Option (Int) :=
  (ref05_wrong_L25 s1 1099511627776 from2).bind fun o36 => match o36 with
  | Sum.inl r => some r
  | Sum.inr j37 =>
    some (-1)
set_option maxRecDepth 100000 in
set_option maxHeartbeats 40000000 in
theorem ref05_wrong_ok {s1 : List UInt8} {from2 : Int} {r : Int} (hP : ref05_wrong s1 from2 = some r) : CallOK Tryz.prog 98 [.str s1, .int .i64 from2] (.int .i64 r) [] := by
  unfold ref05_wrong at hP
  refine co 30 [.tmp 4] Tryz.func98 ?_
  refine J_seq ?_
  refine J_region (by kernel_rfl) ?_
  (try simp only [go_sem, Nat.reduceEqDiff, reduceIte])
  refine hold2 (then_n ?_)
  refine J_seq ?_
  refine J_seq ?_
  refine J_region (by kernel_rfl) ?_
  (try simp only [go_sem, Nat.reduceEqDiff, reduceIte])
  refine hold2 (then_n ?_)
  obtain ⟨o36, hP, hQ25⟩ := bind_cases hP
  refine J_joinK (fun (s : Unit) => envL []) (fun (s : Unit) => []) (fun s => Sum.inr s = o36) (by repeat (first | exact subC_then | refine subC_block ?_)) ?_ ?_
  · refine J_block ?_
    refine J_loop (σ := Nat × Int) (fun (s : Nat × Int) => envL [(0, .str s1), (5, .int .i64 s.2)]) (fun (s : Nat × Int) => []) (fun s => ref05_wrong_L25 s1 s.1 s.2 = some o36) (fun s => s.1) (1099511627776, from2) hP (so []) ?_
    rintro ⟨k15, i14⟩ hP
    dsimp only at hP ⊢
    cases k15 with
    | zero => simp [ref05_wrong_L25] at hP
    | succ k15 =>
      simp only [ref05_wrong_L25] at hP
      refine J_seq ?_
      refine J_seq ?_
      refine J_region (by kernel_rfl) ?_
      (try simp only [go_sem, Nat.reduceEqDiff, reduceIte])
      refine hold2 (then_n ?_)
      refine J_condV rfl ?_
      (try simp only [go_sem, Nat.reduceEqDiff, reduceIte])
      rcases ite_cases hP with ⟨hc, hP⟩ | ⟨hc, hP⟩
      · refine condV_t hc ?_
        refine J_skip (then_n ?_)
        refine J_seq ?_
        refine J_block ?_
        obtain ⟨o30, hP, hQ30⟩ := bind_cases hP
        refine J_join (fun (s : Bool) => envL [(0, .str s1), (5, .int .i64 i14), (28, .bool s)]) (fun (s : Bool) => []) (fun s => s = o30) ?_ ?_
        · clear hQ30
          refine J_region (by kernel_rfl) ?_
          (try simp only [go_sem, Nat.reduceEqDiff, reduceIte])
          obtain ⟨c31, hc31, hP⟩ := bind_cases hP
          refine ixS_of hc31 ?_
          (try simp only [go_sem, Nat.reduceEqDiff, reduceIte])
          rcases ite_cases hP with ⟨hc, hP⟩ | ⟨hc, hP⟩
          · refine guard_is hc ?_
            (try simp only [go_sem, Nat.reduceEqDiff, reduceIte])
            obtain ⟨c32, hc32, hP⟩ := bind_cases hP
            refine ixS_of hc32 ?_
            (try simp only [go_sem, Nat.reduceEqDiff, reduceIte])
            rcases ite_cases hP with ⟨hc, hP⟩ | ⟨hc, hP⟩
            · refine guard_not hc ?_
              (try simp only [go_sem, Nat.reduceEqDiff, reduceIte])
              refine hold2 ?_
              exact join_n true (Option.some.inj hP) (so [])
            · refine guard_is hc ?_
              (try simp only [go_sem, Nat.reduceEqDiff, reduceIte])
              obtain ⟨c33, hc33, hP⟩ := bind_cases hP
              refine ixS_of hc33 ?_
              (try simp only [go_sem, Nat.reduceEqDiff, reduceIte])
              refine hold2 ?_
              exact join_n (decide (b2i c33 = b2i (bC 127))) (Option.some.inj hP) (so [])
          · refine guard_not hc ?_
            (try simp only [go_sem, Nat.reduceEqDiff, reduceIte])
            obtain ⟨c34, hc34, hP⟩ := bind_cases hP
            refine ixS_of hc34 ?_
            (try simp only [go_sem, Nat.reduceEqDiff, reduceIte])
            refine hold2 ?_
            exact join_n (decide (b2i c34 = b2i (bC 127))) (Option.some.inj hP) (so [])
        · intro j35 hs
          subst hs
          have hP := hQ30
          clear hQ30
          refine J_condV rfl ?_
          (try simp only [go_sem, Nat.reduceEqDiff, reduceIte])
          rcases ite_cases hP with ⟨hc, hP⟩ | ⟨hc, hP⟩
          · refine condV_t hc ?_
            refine J_seq ?_
            refine J_region (by kernel_rfl) ?_
            (try simp only [go_sem, Nat.reduceEqDiff, reduceIte])
            refine hold2 (then_n ?_)
            refine J_ret (block_ret (then_ret (loop_ret (block_ret (join_ret (then_ret (fin_ret ?_)))))))
            obtain rfl := Option.some.inj hP
            have hP := hQ25
            dsimp only at hP
            obtain rfl := Option.some.inj hP
            (try simp only [go_sem, Nat.reduceEqDiff, reduceIte])
            exact fo []
          · refine condV_f hc ?_
            refine J_skip (block_n (then_n ?_))
            refine J_region (by kernel_rfl) ?_
            (try simp only [go_sem, Nat.reduceEqDiff, reduceIte])
            refine hold2 ?_
            exact loop_n (k15, iadd .i64 i14 1) hP (Nat.lt_succ_self _) (so [])
      · refine condV_f hc ?_
        refine J_exit (then_exit (loop_exit (block_eq ?_)))
        exact join_n () (Option.some.inj hP) (so [])
  · intro j37 hs
    subst hs
    have hP := hQ25
    dsimp only at hP
    clear hQ25
    refine then_n ?_
    refine J_seq ?_
    refine J_region (by kernel_rfl) ?_
    (try simp only [go_sem, Nat.reduceEqDiff, reduceIte])
    refine hold2 (then_n ?_)
    refine J_ret (fin_ret ?_)
    obtain rfl := Option.some.inj hP
    (try simp only [go_sem, Nat.reduceEqDiff, reduceIte])
    exact fo []
/-- colander/colanderref05.ResponseText -/
def ref05_ResponseText (p1 : Int × (List UInt8) × (List ((List UInt8) × (List UInt8)))) : Option ((List UInt8)) :=
  (ref04_Right p1.2.2).bind fun r2 =>
  (show Option (Bool) from
    if decide (p1.1 < 200) then
      some true
    else
      if decide (599 < p1.1) then
        some true
      else
        (ref05_wrong p1.2.1 0).bind fun r5 =>
        if decide (0 ≤ r5) then
          some true
        else
          some (!decide (r2.2 = 0))).bind fun j6 =>
    if j6 then
      some []
    else
      (ref02_Digits p1.1).bind fun r7 =>
      (szC (List.length ([72, 84, 84, 80, 47, 49, 46, 49, 32] ++ r7))).bind fun _ =>
      (szC (List.length (([72, 84, 84, 80, 47, 49, 46, 49, 32] ++ r7) ++ [32]))).bind fun _ =>
      (szC (List.length ((([72, 84, 84, 80, 47, 49, 46, 49, 32] ++ r7) ++ [32]) ++ p1.2.1))).bind fun _ =>
      (szC (List.length (((([72, 84, 84, 80, 47, 49, 46, 49, 32] ++ r7) ++ [32]) ++ p1.2.1) ++ [13, 10]))).bind fun _ =>
      (ref04_Text p1.2.2).bind fun r12 =>
      (szC (List.length ((((([72, 84, 84, 80, 47, 49, 46, 49, 32] ++ r7) ++ [32]) ++ p1.2.1) ++ [13, 10]) ++ r12))).bind fun _ =>
      (szC (List.length (((((([72, 84, 84, 80, 47, 49, 46, 49, 32] ++ r7) ++ [32]) ++ p1.2.1) ++ [13, 10]) ++ r12) ++ [13, 10]))).bind fun _ =>
      if decide (2048 < (List.length (((((([72, 84, 84, 80, 47, 49, 46, 49, 32] ++ r7) ++ [32]) ++ p1.2.1) ++ [13, 10]) ++ r12) ++ [13, 10]) : Int)) then
        some []
      else
        some (((((([72, 84, 84, 80, 47, 49, 46, 49, 32] ++ r7) ++ [32]) ++ p1.2.1) ++ [13, 10]) ++ r12) ++ [13, 10])
set_option maxRecDepth 100000 in
set_option maxHeartbeats 40000000 in
theorem ref05_ResponseText_ok {p1 : Int × (List UInt8) × (List ((List UInt8) × (List UInt8)))} {r : (List UInt8)} (hP : ref05_ResponseText p1 = some r) : CallOK Tryz.prog 56 [.agg [.int .i64 p1.1, .str p1.2.1, .view 2 (List.map enc_api_Field p1.2.2)]] (.str r) [] := by
  unfold ref05_ResponseText at hP
  refine co 48 [.tmp 2] Tryz.func56 ?_
  refine J_seq ?_
  refine J_region (by kernel_rfl) ?_
  (try simp only [go_sem, Nat.reduceEqDiff, reduceIte])
  refine hold2 (then_n ?_)
  refine J_seq ?_
  refine J_region (by kernel_rfl) ?_
  (try simp only [go_sem, Nat.reduceEqDiff, reduceIte])
  obtain ⟨r2, hr2, hP⟩ := bind_cases hP
  refine call_ok [.view 2 (List.map enc_api_Field p1.2.2)] (ref04_Right_ok hr2) ⟨argR_m false rfl, trivial⟩ ?_
  (try simp only [go_sem, Nat.reduceEqDiff, reduceIte])
  refine hold2 (then_n ?_)
  refine J_seq ?_
  obtain ⟨o4, hP, hQ4⟩ := bind_cases hP
  refine J_join (fun (s : Bool) => envL [(1, .bptr 0 0), (29, .bool s)]) (fun (s : Bool) => [.box 24 [.int .i64 p1.1, .str p1.2.1, .view 2 (List.map enc_api_Field p1.2.2)]]) (fun s => s = o4) ?_ ?_
  · clear hQ4
    refine J_region (by kernel_rfl) ?_
    (try simp only [go_sem, Nat.reduceEqDiff, reduceIte])
    rcases ite_cases hP with ⟨hc, hP⟩ | ⟨hc, hP⟩
    · refine guard_not hc ?_
      (try simp only [go_sem, Nat.reduceEqDiff, reduceIte])
      refine hold2 ?_
      exact join_n true (Option.some.inj hP) (so [0])
    · refine guard_is hc ?_
      (try simp only [go_sem, Nat.reduceEqDiff, reduceIte])
      rcases ite_cases hP with ⟨hc, hP⟩ | ⟨hc, hP⟩
      · refine guard_not hc ?_
        (try simp only [go_sem, Nat.reduceEqDiff, reduceIte])
        refine hold2 ?_
        exact join_n true (Option.some.inj hP) (so [0])
      · refine guard_is hc ?_
        (try simp only [go_sem, Nat.reduceEqDiff, reduceIte])
        obtain ⟨r5, hr5, hP⟩ := bind_cases hP
        refine call_ok [.str p1.2.1, .int .i64 0] (ref05_wrong_ok hr5) ⟨argR_m false rfl, argR_m false rfl, trivial⟩ ?_
        (try simp only [go_sem, Nat.reduceEqDiff, reduceIte])
        rcases ite_cases hP with ⟨hc, hP⟩ | ⟨hc, hP⟩
        · refine guard_not hc ?_
          (try simp only [go_sem, Nat.reduceEqDiff, reduceIte])
          refine hold2 ?_
          exact join_n true (Option.some.inj hP) (so [0])
        · refine guard_is hc ?_
          (try simp only [go_sem, Nat.reduceEqDiff, reduceIte])
          refine hold2 ?_
          exact join_n (!decide (r2.2 = 0)) (Option.some.inj hP) (so [0])
  · intro j6 hs
    subst hs
    have hP := hQ4
    clear hQ4
    refine J_condV rfl ?_
    (try simp only [go_sem, Nat.reduceEqDiff, reduceIte])
    rcases ite_cases hP with ⟨hc, hP⟩ | ⟨hc, hP⟩
    · refine condV_t hc ?_
      refine J_seq ?_
      refine J_region (by kernel_rfl) ?_
      (try simp only [go_sem, Nat.reduceEqDiff, reduceIte])
      refine hold2 (then_n ?_)
      refine J_ret (then_ret (fin_ret ?_))
      obtain rfl := Option.some.inj hP
      (try simp only [go_sem, Nat.reduceEqDiff, reduceIte])
      exact fo []
    · refine condV_f hc ?_
      refine J_skip (then_n ?_)
      refine J_seq ?_
      refine J_regionq follows_mixed (by kernel_rfl) (by kernel_rfl) ?_
      (try simp only [go_sem, Nat.reduceEqDiff, reduceIte])
      obtain ⟨r7, hr7, hP⟩ := bind_cases hP
      refine call_okq [.int .i64 p1.1] (ref02_Digits_ok hr7) ⟨argR_m false rfl, trivial⟩ rfl ?_
      (try simp only [go_sem, Nat.reduceEqDiff, reduceIte])
      obtain ⟨_, hz8, hP⟩ := bind_cases hP
      refine chk_of (by first | exact szC_63 hz8 | (have q := szC_63 hz8; simp only [List.length_append, List.length_cons, List.length_nil] at q ⊢; omega)) ?_
      (try simp only [go_sem, Nat.reduceEqDiff, reduceIte])
      obtain ⟨_, hz9, hP⟩ := bind_cases hP
      refine chk_of (by first | exact szC_63 hz9 | (have q := szC_63 hz9; simp only [List.length_append, List.length_cons, List.length_nil] at q ⊢; omega)) ?_
      (try simp only [go_sem, Nat.reduceEqDiff, reduceIte])
      obtain ⟨_, hz10, hP⟩ := bind_cases hP
      refine chk_of (by first | exact szC_63 hz10 | (have q := szC_63 hz10; simp only [List.length_append, List.length_cons, List.length_nil] at q ⊢; omega)) ?_
      (try simp only [go_sem, Nat.reduceEqDiff, reduceIte])
      obtain ⟨_, hz11, hP⟩ := bind_cases hP
      refine chk_of (by first | exact szC_63 hz11 | (have q := szC_63 hz11; simp only [List.length_append, List.length_cons, List.length_nil] at q ⊢; omega)) ?_
      (try simp only [go_sem, Nat.reduceEqDiff, reduceIte])
      obtain ⟨r12, hr12, hP⟩ := bind_cases hP
      refine call_okq [.view 2 (List.map enc_api_Field p1.2.2)] (ref04_Text_ok hr12) ⟨argR_m false rfl, trivial⟩ rfl ?_
      (try simp only [go_sem, Nat.reduceEqDiff, reduceIte])
      obtain ⟨_, hz13, hP⟩ := bind_cases hP
      refine chk_of (by first | exact szC_63 hz13 | (have q := szC_63 hz13; simp only [List.length_append, List.length_cons, List.length_nil] at q ⊢; omega)) ?_
      (try simp only [go_sem, Nat.reduceEqDiff, reduceIte])
      obtain ⟨_, hz14, hP⟩ := bind_cases hP
      refine chk_of (by first | exact szC_63 hz14 | (have q := szC_63 hz14; simp only [List.length_append, List.length_cons, List.length_nil] at q ⊢; omega)) ?_
      (try simp only [go_sem, Nat.reduceEqDiff, reduceIte])
      refine hold2 (then_n ?_)
      refine J_seq ?_
      refine J_seq ?_
      refine J_region (by kernel_rfl) ?_
      (try simp only [go_sem, Nat.reduceEqDiff, reduceIte])
      refine hold2 (then_n ?_)
      refine J_condV rfl ?_
      (try simp only [go_sem, Nat.reduceEqDiff, reduceIte])
      rcases ite_cases hP with ⟨hc, hP⟩ | ⟨hc, hP⟩
      · refine condV_t hc ?_
        refine J_seq ?_
        refine J_region (by kernel_rfl) ?_
        (try simp only [go_sem, Nat.reduceEqDiff, reduceIte])
        refine hold2 (then_n ?_)
        refine J_ret (then_ret (fin_ret ?_))
        obtain rfl := Option.some.inj hP
        (try simp only [go_sem, Nat.reduceEqDiff, reduceIte])
        exact fo []
      · refine condV_f hc ?_
        refine J_skip (then_n ?_)
        refine J_seq ?_
        refine J_region (by kernel_rfl) ?_
        (try simp only [go_sem, Nat.reduceEqDiff, reduceIte])
        refine hold2 (then_n ?_)
        refine J_ret (fin_ret ?_)
        obtain rfl := Option.some.inj hP
        (try simp only [go_sem, Nat.reduceEqDiff, reduceIte])
        exact fo []
end Go.Proofs.YtgngopfpnidbaaaGreatDoor
