/- Functions of the program, and pure ones that go the same ways: that the program's return what these compute. -/
import Derived.Test.YtecpgelhhbbjmaaDoorBls
import Derived.Test.YtecpgelhhbbjmaaDoorAvPj
namespace Go.Proofs.YtecpgelhhbbjmaaDoor
open Go.Av
set_option linter.unusedVariables false
set_option linter.unusedSimpArgs false
/-- colander/utf8.look -/
def utf8_look_L24 (j5 : Int × UInt8 × UInt8) (i2 : Int) (b1 : List (UInt8)) : Nat → UInt8 → UInt8 → Int → Option (Sum (Int × Bool) (Int))
  | 0, _, _, _ => none
  | k18 + 1, lo15, hi16, n17 =>
    if decide (n17 ≤ j5.1) then
      (show Option (Bool) from
        if decide (iadd .i64 i2 n17 = (List.length b1 : Int)) then
          some true
        else
          (ixL b1 (iadd .i64 i2 n17)).bind fun x28 =>
          if decide (b2i x28 < b2i lo15) then
            some true
          else
            (ixL b1 (iadd .i64 i2 n17)).bind fun x29 =>
            some (decide (b2i hi16 < b2i x29))).bind fun j30 =>
        if j30 then
          some (Sum.inl (n17, false))
        else
          utf8_look_L24 j5 i2 b1 k18 (bC 128) (bC 191) (iadd .i64 n17 1)
    else
      some (Sum.inr n17)
def utf8_look (b1 : List (UInt8)) (i2 : Int) : Option (Int × Bool) :=
  (ixL b1 i2).bind fun x3 =>
  (show Option (Sum (Int × Bool) (Int × UInt8 × UInt8)) from
    if decide (b2i x3 < b2i (bC 128)) then
      some (Sum.inl (1, true))
    else
      if decide (b2i x3 < b2i (bC 194)) then
        some (Sum.inl (0, false))
      else
        if decide (b2i x3 < b2i (bC 224)) then
          some (Sum.inr (1, (bC 128), (bC 191)))
        else
          if decide (b2i x3 = b2i (bC 224)) then
            some (Sum.inr (2, (bC 160), (bC 191)))
          else
            if decide (b2i x3 = b2i (bC 237)) then
              some (Sum.inr (2, (bC 128), (bC 159)))
            else
              if decide (b2i x3 < b2i (bC 240)) then
                some (Sum.inr (2, (bC 128), (bC 191)))
              else
                if decide (b2i x3 = b2i (bC 240)) then
                  some (Sum.inr (3, (bC 144), (bC 191)))
                else
                  if decide (b2i x3 < b2i (bC 244)) then
                    some (Sum.inr (3, (bC 128), (bC 191)))
                  else
                    if decide (b2i x3 = b2i (bC 244)) then
                      some (Sum.inr (3, (bC 128), (bC 143)))
                    else
                      some (Sum.inl (0, false))).bind fun o4 => match o4 with
  | Sum.inl r => some r
  | Sum.inr j5 =>
    (utf8_look_L24 j5 i2 b1 140737488355328 j5.2.1 j5.2.2 1).bind fun o31 => match o31 with
    | Sum.inl r => some r
    | Sum.inr j32 =>
      some (j32, true)
set_option maxRecDepth 100000 in
set_option maxHeartbeats 40000000 in
theorem utf8_look_ok {b1 : List (UInt8)} {i2 : Int} {r : Int × Bool} (hP : utf8_look b1 i2 = some r) : CallOK Tryd.prog 44 [.view 1 (List.map encB b1), .int .i64 i2] (.tup [.int .i64 r.1, .bool r.2]) [] := by
  unfold utf8_look at hP
  refine co 75 [.tmp 4, .tmp 5] Tryd.func44 ?_
  refine J_seq ?_
  refine J_region (by kernel_rfl) ?_
  (try simp only [go_sem, Nat.reduceEqDiff, ↓reduceIte])
  refine hold2 (then_n ?_)
  refine J_seq ?_
  refine J_region (by kernel_rfl) ?_
  (try simp only [go_sem, Nat.reduceEqDiff, ↓reduceIte])
  obtain ⟨x3, hx3, hP⟩ := bind_cases hP
  refine ixV_of hx3 ?_
  (try simp only [go_sem, Nat.reduceEqDiff, ↓reduceIte])
  refine hold2 (then_n ?_)
  refine J_seq ?_
  refine J_region (by kernel_rfl) ?_
  (try simp only [go_sem, Nat.reduceEqDiff, ↓reduceIte])
  refine hold2 (then_n ?_)
  obtain ⟨o4, hP, hQ4⟩ := bind_cases hP
  refine J_join (fun (s : Int × UInt8 × UInt8) => envL [(0, .view 1 (List.map encB b1)), (1, .int .i64 i2), (7, .int .i64 s.1), (8, .int .u8 (b2i s.2.1)), (9, .int .u8 (b2i s.2.2))]) (fun (s : Int × UInt8 × UInt8) => []) (fun s => Sum.inr s = o4) ?_ ?_
  · refine J_block ?_
    refine J_seq ?_
    refine J_region (by kernel_rfl) ?_
    (try simp only [go_sem, Nat.reduceEqDiff, ↓reduceIte])
    refine hold2 (then_n ?_)
    refine J_condV rfl ?_
    (try simp only [go_sem, Nat.reduceEqDiff, ↓reduceIte])
    rcases ite_cases hP with ⟨hc, hP⟩ | ⟨hc, hP⟩
    · refine condV_t hc ?_
      refine J_seq ?_
      refine J_region (by kernel_rfl) ?_
      (try simp only [go_sem, Nat.reduceEqDiff, ↓reduceIte])
      refine hold2 (then_n ?_)
      refine J_ret (block_ret (join_ret (fin_ret ?_)))
      obtain rfl := Option.some.inj hP
      have hP := hQ4
      dsimp only at hP
      obtain rfl := Option.some.inj hP
      (try simp only [go_sem, Nat.reduceEqDiff, ↓reduceIte])
      exact fo []
    · refine condV_f hc ?_
      refine J_seq ?_
      refine J_region (by kernel_rfl) ?_
      (try simp only [go_sem, Nat.reduceEqDiff, ↓reduceIte])
      refine hold2 (then_n ?_)
      refine J_condV rfl ?_
      (try simp only [go_sem, Nat.reduceEqDiff, ↓reduceIte])
      rcases ite_cases hP with ⟨hc, hP⟩ | ⟨hc, hP⟩
      · refine condV_t hc ?_
        refine J_seq ?_
        refine J_region (by kernel_rfl) ?_
        (try simp only [go_sem, Nat.reduceEqDiff, ↓reduceIte])
        refine hold2 (then_n ?_)
        refine J_ret (block_ret (join_ret (fin_ret ?_)))
        obtain rfl := Option.some.inj hP
        have hP := hQ4
        dsimp only at hP
        obtain rfl := Option.some.inj hP
        (try simp only [go_sem, Nat.reduceEqDiff, ↓reduceIte])
        exact fo []
      · refine condV_f hc ?_
        refine J_seq ?_
        refine J_region (by kernel_rfl) ?_
        (try simp only [go_sem, Nat.reduceEqDiff, ↓reduceIte])
        refine hold2 (then_n ?_)
        refine J_condV rfl ?_
        (try simp only [go_sem, Nat.reduceEqDiff, ↓reduceIte])
        rcases ite_cases hP with ⟨hc, hP⟩ | ⟨hc, hP⟩
        · refine condV_t hc ?_
          refine J_region (by kernel_rfl) ?_
          (try simp only [go_sem, Nat.reduceEqDiff, ↓reduceIte])
          refine hold2 (block_n ?_)
          exact join_n (1, (bC 128), (bC 191)) (Option.some.inj hP) (so [])
        · refine condV_f hc ?_
          refine J_seq ?_
          refine J_region (by kernel_rfl) ?_
          (try simp only [go_sem, Nat.reduceEqDiff, ↓reduceIte])
          refine hold2 (then_n ?_)
          refine J_condV rfl ?_
          (try simp only [go_sem, Nat.reduceEqDiff, ↓reduceIte])
          rcases ite_cases hP with ⟨hc, hP⟩ | ⟨hc, hP⟩
          · refine condV_t hc ?_
            refine J_region (by kernel_rfl) ?_
            (try simp only [go_sem, Nat.reduceEqDiff, ↓reduceIte])
            refine hold2 (block_n ?_)
            exact join_n (2, (bC 160), (bC 191)) (Option.some.inj hP) (so [])
          · refine condV_f hc ?_
            refine J_seq ?_
            refine J_region (by kernel_rfl) ?_
            (try simp only [go_sem, Nat.reduceEqDiff, ↓reduceIte])
            refine hold2 (then_n ?_)
            refine J_condV rfl ?_
            (try simp only [go_sem, Nat.reduceEqDiff, ↓reduceIte])
            rcases ite_cases hP with ⟨hc, hP⟩ | ⟨hc, hP⟩
            · refine condV_t hc ?_
              refine J_region (by kernel_rfl) ?_
              (try simp only [go_sem, Nat.reduceEqDiff, ↓reduceIte])
              refine hold2 (block_n ?_)
              exact join_n (2, (bC 128), (bC 159)) (Option.some.inj hP) (so [])
            · refine condV_f hc ?_
              refine J_seq ?_
              refine J_region (by kernel_rfl) ?_
              (try simp only [go_sem, Nat.reduceEqDiff, ↓reduceIte])
              refine hold2 (then_n ?_)
              refine J_condV rfl ?_
              (try simp only [go_sem, Nat.reduceEqDiff, ↓reduceIte])
              rcases ite_cases hP with ⟨hc, hP⟩ | ⟨hc, hP⟩
              · refine condV_t hc ?_
                refine J_region (by kernel_rfl) ?_
                (try simp only [go_sem, Nat.reduceEqDiff, ↓reduceIte])
                refine hold2 (block_n ?_)
                exact join_n (2, (bC 128), (bC 191)) (Option.some.inj hP) (so [])
              · refine condV_f hc ?_
                refine J_seq ?_
                refine J_region (by kernel_rfl) ?_
                (try simp only [go_sem, Nat.reduceEqDiff, ↓reduceIte])
                refine hold2 (then_n ?_)
                refine J_condV rfl ?_
                (try simp only [go_sem, Nat.reduceEqDiff, ↓reduceIte])
                rcases ite_cases hP with ⟨hc, hP⟩ | ⟨hc, hP⟩
                · refine condV_t hc ?_
                  refine J_region (by kernel_rfl) ?_
                  (try simp only [go_sem, Nat.reduceEqDiff, ↓reduceIte])
                  refine hold2 (block_n ?_)
                  exact join_n (3, (bC 144), (bC 191)) (Option.some.inj hP) (so [])
                · refine condV_f hc ?_
                  refine J_seq ?_
                  refine J_region (by kernel_rfl) ?_
                  (try simp only [go_sem, Nat.reduceEqDiff, ↓reduceIte])
                  refine hold2 (then_n ?_)
                  refine J_condV rfl ?_
                  (try simp only [go_sem, Nat.reduceEqDiff, ↓reduceIte])
                  rcases ite_cases hP with ⟨hc, hP⟩ | ⟨hc, hP⟩
                  · refine condV_t hc ?_
                    refine J_region (by kernel_rfl) ?_
                    (try simp only [go_sem, Nat.reduceEqDiff, ↓reduceIte])
                    refine hold2 (block_n ?_)
                    exact join_n (3, (bC 128), (bC 191)) (Option.some.inj hP) (so [])
                  · refine condV_f hc ?_
                    refine J_seq ?_
                    refine J_region (by kernel_rfl) ?_
                    (try simp only [go_sem, Nat.reduceEqDiff, ↓reduceIte])
                    refine hold2 (then_n ?_)
                    refine J_condV rfl ?_
                    (try simp only [go_sem, Nat.reduceEqDiff, ↓reduceIte])
                    rcases ite_cases hP with ⟨hc, hP⟩ | ⟨hc, hP⟩
                    · refine condV_t hc ?_
                      refine J_region (by kernel_rfl) ?_
                      (try simp only [go_sem, Nat.reduceEqDiff, ↓reduceIte])
                      refine hold2 (block_n ?_)
                      exact join_n (3, (bC 128), (bC 143)) (Option.some.inj hP) (so [])
                    · refine condV_f hc ?_
                      refine J_seq ?_
                      refine J_region (by kernel_rfl) ?_
                      (try simp only [go_sem, Nat.reduceEqDiff, ↓reduceIte])
                      refine hold2 (then_n ?_)
                      refine J_ret (block_ret (join_ret (fin_ret ?_)))
                      obtain rfl := Option.some.inj hP
                      have hP := hQ4
                      dsimp only at hP
                      obtain rfl := Option.some.inj hP
                      (try simp only [go_sem, Nat.reduceEqDiff, ↓reduceIte])
                      exact fo []
  · intro j5 hs
    subst hs
    have hP := hQ4
    dsimp only at hP
    clear hQ4
    refine J_seq ?_
    refine J_region (by kernel_rfl) ?_
    (try simp only [go_sem, Nat.reduceEqDiff, ↓reduceIte])
    refine hold2 (then_n ?_)
    refine J_seq ?_
    obtain ⟨o31, hP, hQ24⟩ := bind_cases hP
    refine J_joinK0 (fun (s : Int) => envL [(10, .int .i64 s)]) (fun (s : Int) => []) (fun s => Sum.inr s = o31) ?_ ?_
    · refine J_block ?_
      refine J_loop (σ := Nat × UInt8 × UInt8 × Int) (fun (s : Nat × UInt8 × UInt8 × Int) => envL [(0, .view 1 (List.map encB b1)), (1, .int .i64 i2), (7, .int .i64 j5.1), (8, .int .u8 (b2i s.2.1)), (9, .int .u8 (b2i s.2.2.1)), (10, .int .i64 s.2.2.2)]) (fun (s : Nat × UInt8 × UInt8 × Int) => []) (fun s => utf8_look_L24 j5 i2 b1 s.1 s.2.1 s.2.2.1 s.2.2.2 = some o31) (fun s => s.1) (140737488355328, j5.2.1, j5.2.2, 1) hP (so []) ?_
      rintro ⟨k18, lo15, hi16, n17⟩ hP
      dsimp only at hP ⊢
      cases k18 with
      | zero => simp [utf8_look_L24] at hP
      | succ k18 =>
        simp only [utf8_look_L24] at hP
        refine J_seq ?_
        refine J_seq ?_
        refine J_region (by kernel_rfl) ?_
        (try simp only [go_sem, Nat.reduceEqDiff, ↓reduceIte])
        refine hold2 (then_n ?_)
        refine J_condV rfl ?_
        (try simp only [go_sem, Nat.reduceEqDiff, ↓reduceIte])
        rcases ite_cases hP with ⟨hc, hP⟩ | ⟨hc, hP⟩
        · refine condV_t hc ?_
          refine J_skip (then_n ?_)
          refine J_seq ?_
          refine J_block ?_
          refine J_seq ?_
          obtain ⟨o27, hP, hQ27⟩ := bind_cases hP
          refine J_join (fun (s : Bool) => envL [(0, .view 1 (List.map encB b1)), (1, .int .i64 i2), (7, .int .i64 j5.1), (10, .int .i64 n17), (72, .bool s)]) (fun (s : Bool) => []) (fun s => s = o27) ?_ ?_
          · clear hQ27
            refine J_region (by kernel_rfl) ?_
            (try simp only [go_sem, Nat.reduceEqDiff, ↓reduceIte])
            rcases ite_cases hP with ⟨hc, hP⟩ | ⟨hc, hP⟩
            · refine guard_not hc ?_
              (try simp only [go_sem, Nat.reduceEqDiff, ↓reduceIte])
              refine hold2 ?_
              exact join_n true (Option.some.inj hP) (so [])
            · refine guard_is hc ?_
              (try simp only [go_sem, Nat.reduceEqDiff, ↓reduceIte])
              obtain ⟨x28, hx28, hP⟩ := bind_cases hP
              refine ixV_of hx28 ?_
              (try simp only [go_sem, Nat.reduceEqDiff, ↓reduceIte])
              rcases ite_cases hP with ⟨hc, hP⟩ | ⟨hc, hP⟩
              · refine guard_not hc ?_
                (try simp only [go_sem, Nat.reduceEqDiff, ↓reduceIte])
                refine hold2 ?_
                exact join_n true (Option.some.inj hP) (so [])
              · refine guard_is hc ?_
                (try simp only [go_sem, Nat.reduceEqDiff, ↓reduceIte])
                obtain ⟨x29, hx29, hP⟩ := bind_cases hP
                refine ixV_of hx29 ?_
                (try simp only [go_sem, Nat.reduceEqDiff, ↓reduceIte])
                refine hold2 ?_
                exact join_n (decide (b2i hi16 < b2i x29)) (Option.some.inj hP) (so [])
          · intro j30 hs
            subst hs
            have hP := hQ27
            clear hQ27
            refine J_condV rfl ?_
            (try simp only [go_sem, Nat.reduceEqDiff, ↓reduceIte])
            rcases ite_cases hP with ⟨hc, hP⟩ | ⟨hc, hP⟩
            · refine condV_t hc ?_
              refine J_seq ?_
              refine J_region (by kernel_rfl) ?_
              (try simp only [go_sem, Nat.reduceEqDiff, ↓reduceIte])
              refine hold2 (then_n ?_)
              refine J_ret (then_ret (block_ret (then_ret (loop_ret (block_ret (join_ret (then_ret (fin_ret ?_))))))))
              obtain rfl := Option.some.inj hP
              have hP := hQ24
              dsimp only at hP
              obtain rfl := Option.some.inj hP
              (try simp only [go_sem, Nat.reduceEqDiff, ↓reduceIte])
              exact fo []
            · refine condV_f hc ?_
              refine J_skip (then_n ?_)
              refine J_region (by kernel_rfl) ?_
              (try simp only [go_sem, Nat.reduceEqDiff, ↓reduceIte])
              refine hold2 (block_n (then_n ?_))
              refine J_region (by kernel_rfl) ?_
              (try simp only [go_sem, Nat.reduceEqDiff, ↓reduceIte])
              refine hold2 ?_
              exact loop_n (k18, (bC 128), (bC 191), iadd .i64 n17 1) hP (Nat.lt_succ_self _) (so [])
        · refine condV_f hc ?_
          refine J_exit (then_exit (loop_exit (block_eq ?_)))
          exact join_n n17 (Option.some.inj hP) (so [])
    · intro j32 hs
      subst hs
      have hP := hQ24
      dsimp only at hP
      clear hQ24
      refine then_n ?_
      refine J_seq ?_
      refine J_region (by kernel_rfl) ?_
      (try simp only [go_sem, Nat.reduceEqDiff, ↓reduceIte])
      refine hold2 (then_n ?_)
      refine J_ret (fin_ret ?_)
      obtain rfl := Option.some.inj hP
      (try simp only [go_sem, Nat.reduceEqDiff, ↓reduceIte])
      exact fo []
/-- colander/utf8.Decode -/
def utf8_Decode_L39 (b1 : List (UInt8)) : Nat → Int → (List (UInt8)) → Option ((List (UInt8)))
  | 0, _, _ => none
  | k29 + 1, i26, l27 =>
    if decide (i26 < (List.length b1 : Int)) then
      (utf8_look b1 i26).bind fun r40 =>
      if r40.2 then
        (slL b1 i26 (iadd .i64 i26 r40.1)).bind fun s41 =>
        (show Option (Unit) from
          (szC (List.length (l27 ++ s41 : List (UInt8)))).bind fun _ =>
          some ()).bind fun a44 =>
          utf8_Decode_L39 b1 k29 (iadd .i64 i26 (max r40.1 1)) (l27 ++ s41)
      else
        (show Option (Unit) from
          (szC (List.length (l27 ++ runeB 65533 : List UInt8))).bind fun _ =>
          some ()).bind fun a48 =>
          utf8_Decode_L39 b1 k29 (iadd .i64 i26 (max r40.1 1)) (l27 ++ runeB 65533)
    else
      some l27
def utf8_Decode (b1 : List (UInt8)) : Option ((List UInt8)) :=
  (utf8_Decode_L39 b1 140737488355328 0 ([] : List UInt8)).bind fun j51 =>
    some j51
set_option maxRecDepth 100000 in
set_option maxHeartbeats 40000000 in
theorem utf8_Decode_ok {b1 : List (UInt8)} {r : (List UInt8)} (hP : utf8_Decode b1 = some r) : CallOK Tryd.prog 20 [.view 1 (List.map encB b1)] (.str r) [] := by
  unfold utf8_Decode at hP
  refine co 31 [.tmp 2] Tryd.func20 ?_
  refine J_seq ?_
  refine J_region (by kernel_rfl) ?_
  (try simp only [go_sem, Nat.reduceEqDiff, ↓reduceIte])
  refine hold2 (then_n ?_)
  refine J_seq ?_
  refine J_region (by kernel_rfl) ?_
  (try simp only [go_sem, Nat.reduceEqDiff, ↓reduceIte])
  refine hold2 (then_n ?_)
  refine J_prom 5 1 (by decide) 0 1 _ _ rfl rfl ?_
  (try simp only [go_sem, Nat.reduceEqDiff, ↓reduceIte])
  refine J_seq ?_
  refine J_seq ?_
  refine J_region (by kernel_rfl) ?_
  (try simp only [go_sem, Nat.reduceEqDiff, ↓reduceIte])
  refine hold2 (then_n ?_)
  obtain ⟨o50, hP, hQ39⟩ := bind_cases hP
  refine J_joinK0 (fun (s : ((List (UInt8))) × Bool) => envL [(3, .bptr 0 0)]) (fun (s : ((List (UInt8))) × Bool) => [.box 64 [selfC s.2 0, .own 1 0 0 (List.length s.1)], .slice 0 5 1 (List.map encB s.1)]) (fun s => s.1 = o50) ?_ ?_
  · clear hQ39
    refine J_block ?_
    refine J_loop (σ := Nat × Int × (List (UInt8)) × Bool) (fun (s : Nat × Int × (List (UInt8)) × Bool) => envL [(0, .view 1 (List.map encB b1)), (3, .bptr 0 0), (4, .int .i64 s.2.1)]) (fun (s : Nat × Int × (List (UInt8)) × Bool) => [.box 64 [selfC s.2.2.2 0, .own 1 0 0 (List.length s.2.2.1)], .slice 0 5 1 (List.map encB s.2.2.1)]) (fun s => utf8_Decode_L39 b1 s.1 s.2.1 s.2.2.1 = some o50) (fun s => s.1) (140737488355328, 0, ([] : List UInt8), false) hP (so [0, 1]) ?_
    rintro ⟨k29, i26, l27, u28⟩ hP
    dsimp only at hP ⊢
    cases k29 with
    | zero => simp [utf8_Decode_L39] at hP
    | succ k29 =>
      simp only [utf8_Decode_L39] at hP
      refine J_seq ?_
      refine J_seq ?_
      refine J_region (by kernel_rfl) ?_
      (try simp only [go_sem, Nat.reduceEqDiff, ↓reduceIte])
      refine hold2 (then_n ?_)
      refine J_condV rfl ?_
      (try simp only [go_sem, Nat.reduceEqDiff, ↓reduceIte])
      rcases ite_cases hP with ⟨hc, hP⟩ | ⟨hc, hP⟩
      · refine condV_t hc ?_
        refine J_skip (then_n ?_)
        refine J_block ?_
        refine J_seq ?_
        refine J_region (by kernel_rfl) ?_
        (try simp only [go_sem, Nat.reduceEqDiff, ↓reduceIte])
        obtain ⟨r40, hr40, hP⟩ := bind_cases hP
        refine call_ok [.view 1 (List.map encB b1), .int .i64 i26] (utf8_look_ok hr40) ⟨argR_m false rfl, argR_m false rfl, trivial⟩ ?_
        (try simp only [go_sem, Nat.reduceEqDiff, ↓reduceIte])
        refine hold2 (then_n ?_)
        refine J_seq ?_
        refine J_seq ?_
        refine J_region (by kernel_rfl) ?_
        (try simp only [go_sem, Nat.reduceEqDiff, ↓reduceIte])
        refine hold2 (then_n ?_)
        refine J_condV rfl ?_
        (try simp only [go_sem, Nat.reduceEqDiff, ↓reduceIte])
        rcases ite_cases hP with ⟨hc, hP⟩ | ⟨hc, hP⟩
        · refine condV_t hc ?_
          refine J_region (by kernel_rfl) ?_
          (try simp only [go_sem, Nat.reduceEqDiff, ↓reduceIte])
          obtain ⟨s41, hs41, hP⟩ := bind_cases hP
          refine slV_of hs41 ?_
          (try simp only [go_sem, Nat.reduceEqDiff, ↓reduceIte])
          obtain ⟨o45, hP, hQ44⟩ := bind_cases hP
          refine call_join (fun (s : Unit) => .tup [.int .i64 (List.length s41 : Int), .sc .nilIface]) (fun (s : Unit) => envL [(0, .view 1 (List.map encB b1)), (3, .bptr 0 0), (4, .int .i64 i26), (5, .int .i64 r40.1)]) (fun (s : Unit) => [.box 64 [selfC true 0, .own 1 0 0 (List.length (l27 ++ s41))], .slice 0 5 1 (List.map encB (l27 ++ s41))]) (fun s => s = o45) (callI_of (n := 19) (rs := [.tmp 4, .tmp 5]) Tryd.func45 rfl (by decide) rfl rfl (by simp) rfl ?_) ?_
          · clear hQ44
            refine J_seq ?_
            refine J_region (by kernel_rfl) ?_
            (try simp only [go_sem, Nat.reduceEqDiff, ↓reduceIte])
            refine hold2 (then_n ?_)
            refine J_seq ?_
            refine J_region (by kernel_rfl) ?_
            (try simp only [go_sem, Nat.reduceEqDiff, ↓reduceIte])
            refine call_in (copyCheck_at (i := 0) u28 rfl ?_)
            (try simp only [go_sem, Nat.reduceEqDiff, ↓reduceIte])
            refine hold2 (then_n ?_)
            refine J_seq ?_
            refine J_region (by kernel_rfl) ?_
            (try simp only [go_sem, Nat.reduceEqDiff, ↓reduceIte])
            obtain ⟨_, hz43, hP⟩ := bind_cases hP
            refine app_own (f := encB) (l27 : List (UInt8)) (s41 : List (UInt8)) rfl tyS_22 (by decide) (by simp only [go_sem, Nat.reduceEqDiff, ↓reduceIte]; first | done | rfl | exact ⟨rfl, rfl⟩) hz43 ?_
            (try simp only [go_sem, Nat.reduceEqDiff, ↓reduceIte, Nat.reduceAdd, Nat.reduceSub, Nat.reduceLT, Nat.reduceMul, reduceCtorEq, Int.reduceToNat, Int.reduceLE, Int.reduceLT, Nat.reduceLeDiff])
            refine hold2 (then_n ?_)
            refine J_seq ?_
            refine J_region (by kernel_rfl) ?_
            (try simp only [go_sem, Nat.reduceEqDiff, ↓reduceIte])
            refine hold2 (then_n ?_)
            refine J_ret (finI_ret ?_)
            exact told_of ⟨(), Option.some.inj hP, sr [0, 1]⟩
          · intro a44 hs
            subst hs
            have hP := hQ44
            clear hQ44
            (try simp only [go_sem, Nat.reduceEqDiff, ↓reduceIte])
            refine hold2 (then_n ?_)
            refine J_region (by kernel_rfl) ?_
            (try simp only [go_sem, Nat.reduceEqDiff, ↓reduceIte])
            refine hold2 (block_n ?_)
            exact loop_n (k29, iadd .i64 i26 (max r40.1 1), l27 ++ s41, true) hP (Nat.lt_succ_self _) (so [0, 1])
        · refine condV_f hc ?_
          refine J_region (by kernel_rfl) ?_
          (try simp only [go_sem, Nat.reduceEqDiff, ↓reduceIte])
          obtain ⟨o49, hP, hQ48⟩ := bind_cases hP
          refine call_join (fun (s : Unit) => .tup [.int .i64 (isub .i64 ((List.length (l27 ++ runeB 65533) : Nat) : Int) ((List.length l27 : Nat) : Int)), .sc .nilIface]) (fun (s : Unit) => envL [(0, .view 1 (List.map encB b1)), (3, .bptr 0 0), (4, .int .i64 i26), (5, .int .i64 r40.1)]) (fun (s : Unit) => [.box 64 [selfC true 0, .own 1 0 0 (List.length (l27 ++ runeB 65533))], .slice 0 5 1 (List.map encB (l27 ++ runeB 65533))]) (fun s => s = o49) (callI_of (n := 30) (rs := [.tmp 4, .tmp 5]) Tryd.func46 rfl (by decide) rfl rfl (by simp) rfl ?_) ?_
          · clear hQ48
            refine J_seq ?_
            refine J_region (by kernel_rfl) ?_
            (try simp only [go_sem, Nat.reduceEqDiff, ↓reduceIte])
            refine hold2 (then_n ?_)
            refine J_seq ?_
            refine J_region (by kernel_rfl) ?_
            (try simp only [go_sem, Nat.reduceEqDiff, ↓reduceIte])
            refine call_in (copyCheck_at (i := 0) u28 rfl ?_)
            (try simp only [go_sem, Nat.reduceEqDiff, ↓reduceIte])
            refine hold2 (then_n ?_)
            refine J_seq ?_
            refine J_region (by kernel_rfl) ?_
            (try simp only [go_sem, Nat.reduceEqDiff, ↓reduceIte, Nat.reduceAdd, Nat.reduceSub, Nat.reduceLT, Nat.reduceMul, reduceCtorEq, Int.reduceToNat, Int.reduceLE, Int.reduceLT, Nat.reduceLeDiff])
            refine hold2 (then_n ?_)
            refine J_seq ?_
            refine J_region (by kernel_rfl) ?_
            (try simp only [go_sem, Nat.reduceEqDiff, ↓reduceIte])
            obtain ⟨_, hz47, hP⟩ := bind_cases hP
            refine call_in (appR_at (j := 1) l27 65533 rfl hz47 ?_)
            (try simp only [go_sem, Nat.reduceEqDiff, ↓reduceIte, Nat.reduceAdd, Nat.reduceSub, Nat.reduceLT, Nat.reduceMul, reduceCtorEq, Int.reduceToNat, Int.reduceLE, Int.reduceLT, Nat.reduceLeDiff])
            refine hold2 (then_n ?_)
            refine J_seq ?_
            refine J_region (by kernel_rfl) ?_
            (try simp only [go_sem, Nat.reduceEqDiff, ↓reduceIte, Nat.reduceAdd, Nat.reduceSub, Nat.reduceLT, Nat.reduceMul, reduceCtorEq, Int.reduceToNat, Int.reduceLE, Int.reduceLT, Nat.reduceLeDiff])
            refine hold2 (then_n ?_)
            refine J_ret (finI_ret ?_)
            exact told_of ⟨(), Option.some.inj hP, sr [0, 1]⟩
          · intro a48 hs
            subst hs
            have hP := hQ48
            clear hQ48
            (try simp only [go_sem, Nat.reduceEqDiff, ↓reduceIte])
            refine hold2 (then_n ?_)
            refine J_region (by kernel_rfl) ?_
            (try simp only [go_sem, Nat.reduceEqDiff, ↓reduceIte])
            refine hold2 (block_n ?_)
            exact loop_n (k29, iadd .i64 i26 (max r40.1 1), l27 ++ runeB 65533, true) hP (Nat.lt_succ_self _) (so [0, 1])
      · refine condV_f hc ?_
        refine J_exit (then_exit (loop_exit (block_eq ?_)))
        cases u28
        · exact join_n (l27, false) (Option.some.inj hP) (so [0, 1])
        · exact join_n (l27, true) (Option.some.inj hP) (so [0, 1])
  · rintro ⟨j51, u52⟩ hs; dsimp only at hs
    subst hs
    have hP := hQ39
    clear hQ39
    refine then_n ?_
    refine J_seq ?_
    refine J_region (by kernel_rfl) ?_
    (try simp only [go_sem, Nat.reduceEqDiff, ↓reduceIte])
    refine call_in (string_at (i := 0) (j := 1) j51 rfl rfl rfl ?_)
    (try simp only [go_sem, Nat.reduceEqDiff, ↓reduceIte])
    refine hold2 (then_n ?_)
    refine J_ret (fin_ret ?_)
    obtain rfl := Option.some.inj hP
    (try simp only [go_sem, Nat.reduceEqDiff, ↓reduceIte])
    exact fo []
/-- colander/utf8.Encode -/
def utf8_Encode_L42 (l1 : List (Int)) : Nat → Int → (List (UInt8)) → Option ((List (UInt8)))
  | 0, _, _ => none
  | k31 + 1, v28, l29 =>
    if decide (v28 < (List.length l1 : Int)) then
      (ixL l1 v28).bind fun x43 =>
      (show Option (Int) from
        (show Option (Bool) from
          if decide (x43 < 0) then
            some true
          else
            if decide (1114111 < x43) then
              some true
            else
              if decide (55296 ≤ x43) then
                some (decide (x43 ≤ 57343))
              else
                some false).bind fun j48 =>
          if j48 then
            some 65533
          else
            some x43).bind fun j49 =>
        (show Option (Unit) from
          (szC (List.length (l29 ++ runeB j49 : List UInt8))).bind fun _ =>
          some ()).bind fun a52 =>
          utf8_Encode_L42 l1 k31 (iadd .i64 v28 1) (l29 ++ runeB j49)
    else
      some l29
def utf8_Encode (l1 : List (Int)) : Option ((List UInt8)) :=
  (utf8_Encode_L42 l1 140737488355328 0 ([] : List UInt8)).bind fun j55 =>
    some j55
set_option maxRecDepth 100000 in
set_option maxHeartbeats 40000000 in
theorem utf8_Encode_ok {l1 : List (Int)} {r : (List UInt8)} (hP : utf8_Encode l1 = some r) : CallOK Tryd.prog 49 [.view 1 (List.map (encI .i32) l1)] (.str r) [] := by
  unfold utf8_Encode at hP
  refine co 30 [.tmp 2] Tryd.func49 ?_
  refine J_seq ?_
  refine J_region (by kernel_rfl) ?_
  (try simp only [go_sem, Nat.reduceEqDiff, ↓reduceIte])
  refine hold2 (then_n ?_)
  refine J_seq ?_
  refine J_region (by kernel_rfl) ?_
  (try simp only [go_sem, Nat.reduceEqDiff, ↓reduceIte])
  refine hold2 (then_n ?_)
  refine J_prom 5 1 (by decide) 0 1 _ _ rfl rfl ?_
  (try simp only [go_sem, Nat.reduceEqDiff, ↓reduceIte])
  refine J_seq ?_
  refine J_seq ?_
  refine J_region (by kernel_rfl) ?_
  (try simp only [go_sem, Nat.reduceEqDiff, ↓reduceIte])
  refine hold2 (then_n ?_)
  obtain ⟨o54, hP, hQ42⟩ := bind_cases hP
  refine J_joinK0 (fun (s : ((List (UInt8))) × Bool) => envL [(3, .bptr 0 0)]) (fun (s : ((List (UInt8))) × Bool) => [.box 64 [selfC s.2 0, .own 1 0 0 (List.length s.1)], .slice 0 5 1 (List.map encB s.1)]) (fun s => s.1 = o54) ?_ ?_
  · clear hQ42
    refine J_block ?_
    refine J_loop (σ := Nat × Int × (List (UInt8)) × Bool) (fun (s : Nat × Int × (List (UInt8)) × Bool) => envL [(3, .bptr 0 0), (6, .view 1 (List.map (encI .i32) l1)), (7, .int .i64 (List.length l1 : Int)), (8, .int .i64 s.2.1)]) (fun (s : Nat × Int × (List (UInt8)) × Bool) => [.box 64 [selfC s.2.2.2 0, .own 1 0 0 (List.length s.2.2.1)], .slice 0 5 1 (List.map encB s.2.2.1)]) (fun s => utf8_Encode_L42 l1 s.1 s.2.1 s.2.2.1 = some o54) (fun s => s.1) (140737488355328, 0, ([] : List UInt8), false) hP (so [0, 1]) ?_
    rintro ⟨k31, v28, l29, u30⟩ hP
    dsimp only at hP ⊢
    cases k31 with
    | zero => simp [utf8_Encode_L42] at hP
    | succ k31 =>
      simp only [utf8_Encode_L42] at hP
      refine J_seq ?_
      refine J_region (by kernel_rfl) ?_
      (try simp only [go_sem, Nat.reduceEqDiff, ↓reduceIte])
      refine hold2 (then_n ?_)
      refine J_seq ?_
      refine J_condV rfl ?_
      (try simp only [go_sem, Nat.reduceEqDiff, ↓reduceIte])
      rcases ite_cases hP with ⟨hc, hP⟩ | ⟨hc, hP⟩
      · refine condV_t hc ?_
        refine J_skip (then_n ?_)
        refine J_seq ?_
        refine J_block ?_
        refine J_seq ?_
        refine J_region (by kernel_rfl) ?_
        (try simp only [go_sem, Nat.reduceEqDiff, ↓reduceIte])
        obtain ⟨x43, hx43, hP⟩ := bind_cases hP
        refine ixV_of hx43 ?_
        (try simp only [go_sem, Nat.reduceEqDiff, ↓reduceIte])
        refine hold2 (then_n ?_)
        obtain ⟨o46, hP, hQ46⟩ := bind_cases hP
        refine J_join (fun (s : Int) => envL [(3, .bptr 0 0), (5, .int .i32 s), (6, .view 1 (List.map (encI .i32) l1)), (7, .int .i64 (List.length l1 : Int)), (8, .int .i64 v28)]) (fun (s : Int) => [.box 64 [selfC u30 0, .own 1 0 0 (List.length l29)], .slice 0 5 1 (List.map encB l29)]) (fun s => s = o46) ?_ ?_
        · clear hQ46
          obtain ⟨o47, hP, hQ47⟩ := bind_cases hP
          refine J_join (fun (s : Bool) => envL [(3, .bptr 0 0), (5, .int .i32 x43), (6, .view 1 (List.map (encI .i32) l1)), (7, .int .i64 (List.length l1 : Int)), (8, .int .i64 v28), (25, .bool s)]) (fun (s : Bool) => [.box 64 [selfC u30 0, .own 1 0 0 (List.length l29)], .slice 0 5 1 (List.map encB l29)]) (fun s => s = o47) ?_ ?_
          · clear hQ47
            refine J_region (by kernel_rfl) ?_
            (try simp only [go_sem, Nat.reduceEqDiff, ↓reduceIte])
            rcases ite_cases hP with ⟨hc, hP⟩ | ⟨hc, hP⟩
            · refine guard_not hc ?_
              (try simp only [go_sem, Nat.reduceEqDiff, ↓reduceIte])
              refine hold2 ?_
              cases u30
              · exact join_n true (Option.some.inj hP) (so [0, 1])
              · exact join_n true (Option.some.inj hP) (so [0, 1])
            · refine guard_is hc ?_
              (try simp only [go_sem, Nat.reduceEqDiff, ↓reduceIte])
              rcases ite_cases hP with ⟨hc, hP⟩ | ⟨hc, hP⟩
              · refine guard_not hc ?_
                (try simp only [go_sem, Nat.reduceEqDiff, ↓reduceIte])
                refine hold2 ?_
                cases u30
                · exact join_n true (Option.some.inj hP) (so [0, 1])
                · exact join_n true (Option.some.inj hP) (so [0, 1])
              · refine guard_is hc ?_
                (try simp only [go_sem, Nat.reduceEqDiff, ↓reduceIte])
                rcases ite_cases hP with ⟨hc, hP⟩ | ⟨hc, hP⟩
                · refine guard_is hc ?_
                  (try simp only [go_sem, Nat.reduceEqDiff, ↓reduceIte])
                  refine hold2 ?_
                  cases u30
                  · exact join_n (decide (x43 ≤ 57343)) (Option.some.inj hP) (so [0, 1])
                  · exact join_n (decide (x43 ≤ 57343)) (Option.some.inj hP) (so [0, 1])
                · refine guard_not hc ?_
                  (try simp only [go_sem, Nat.reduceEqDiff, ↓reduceIte])
                  refine hold2 ?_
                  cases u30
                  · exact join_n false (Option.some.inj hP) (so [0, 1])
                  · exact join_n false (Option.some.inj hP) (so [0, 1])
          · intro j48 hs
            subst hs
            have hP := hQ47
            clear hQ47
            refine J_condV rfl ?_
            (try simp only [go_sem, Nat.reduceEqDiff, ↓reduceIte])
            rcases ite_cases hP with ⟨hc, hP⟩ | ⟨hc, hP⟩
            · refine condV_t hc ?_
              refine J_region (by kernel_rfl) ?_
              (try simp only [go_sem, Nat.reduceEqDiff, ↓reduceIte])
              refine hold2 ?_
              cases u30
              · exact join_n 65533 (Option.some.inj hP) (so [0, 1])
              · exact join_n 65533 (Option.some.inj hP) (so [0, 1])
            · refine condV_f hc ?_
              refine J_skip ?_
              cases u30
              · exact join_n x43 (Option.some.inj hP) (so [0, 1])
              · exact join_n x43 (Option.some.inj hP) (so [0, 1])
        · intro j49 hs
          subst hs
          have hP := hQ46
          clear hQ46
          refine J_region (by kernel_rfl) ?_
          (try simp only [go_sem, Nat.reduceEqDiff, ↓reduceIte])
          obtain ⟨o53, hP, hQ52⟩ := bind_cases hP
          refine call_join (fun (s : Unit) => .tup [.int .i64 (isub .i64 ((List.length (l29 ++ runeB j49) : Nat) : Int) ((List.length l29 : Nat) : Int)), .sc .nilIface]) (fun (s : Unit) => envL [(3, .bptr 0 0), (6, .view 1 (List.map (encI .i32) l1)), (7, .int .i64 (List.length l1 : Int)), (8, .int .i64 v28)]) (fun (s : Unit) => [.box 64 [selfC true 0, .own 1 0 0 (List.length (l29 ++ runeB j49))], .slice 0 5 1 (List.map encB (l29 ++ runeB j49))]) (fun s => s = o53) (callI_of (n := 30) (rs := [.tmp 4, .tmp 5]) Tryd.func46 rfl (by decide) rfl rfl (by simp) rfl ?_) ?_
          · clear hQ52
            refine J_seq ?_
            refine J_region (by kernel_rfl) ?_
            (try simp only [go_sem, Nat.reduceEqDiff, ↓reduceIte])
            refine hold2 (then_n ?_)
            refine J_seq ?_
            refine J_region (by kernel_rfl) ?_
            (try simp only [go_sem, Nat.reduceEqDiff, ↓reduceIte])
            refine call_in (copyCheck_at (i := 0) u30 rfl ?_)
            (try simp only [go_sem, Nat.reduceEqDiff, ↓reduceIte])
            refine hold2 (then_n ?_)
            refine J_seq ?_
            refine J_region (by kernel_rfl) ?_
            (try simp only [go_sem, Nat.reduceEqDiff, ↓reduceIte, Nat.reduceAdd, Nat.reduceSub, Nat.reduceLT, Nat.reduceMul, reduceCtorEq, Int.reduceToNat, Int.reduceLE, Int.reduceLT, Nat.reduceLeDiff])
            refine hold2 (then_n ?_)
            refine J_seq ?_
            refine J_region (by kernel_rfl) ?_
            (try simp only [go_sem, Nat.reduceEqDiff, ↓reduceIte])
            obtain ⟨_, hz51, hP⟩ := bind_cases hP
            refine call_in (appR_at (j := 1) l29 j49 rfl hz51 ?_)
            (try simp only [go_sem, Nat.reduceEqDiff, ↓reduceIte, Nat.reduceAdd, Nat.reduceSub, Nat.reduceLT, Nat.reduceMul, reduceCtorEq, Int.reduceToNat, Int.reduceLE, Int.reduceLT, Nat.reduceLeDiff])
            refine hold2 (then_n ?_)
            refine J_seq ?_
            refine J_region (by kernel_rfl) ?_
            (try simp only [go_sem, Nat.reduceEqDiff, ↓reduceIte, Nat.reduceAdd, Nat.reduceSub, Nat.reduceLT, Nat.reduceMul, reduceCtorEq, Int.reduceToNat, Int.reduceLE, Int.reduceLT, Nat.reduceLeDiff])
            refine hold2 (then_n ?_)
            refine J_ret (finI_ret ?_)
            exact told_of ⟨(), Option.some.inj hP, sr [0, 1]⟩
          · intro a52 hs
            subst hs
            have hP := hQ52
            clear hQ52
            (try simp only [go_sem, Nat.reduceEqDiff, ↓reduceIte])
            refine hold2 (block_n (then_n ?_))
            refine J_region (by kernel_rfl) ?_
            (try simp only [go_sem, Nat.reduceEqDiff, ↓reduceIte])
            refine hold2 ?_
            exact loop_n (k31, iadd .i64 v28 1, l29 ++ runeB j49, true) hP (Nat.lt_succ_self _) (so [0, 1])
      · refine condV_f hc ?_
        refine J_exit (then_exit (loop_exit (block_eq ?_)))
        cases u30
        · exact join_n (l29, false) (Option.some.inj hP) (so [0, 1])
        · exact join_n (l29, true) (Option.some.inj hP) (so [0, 1])
  · rintro ⟨j55, u56⟩ hs; dsimp only at hs
    subst hs
    have hP := hQ42
    clear hQ42
    refine then_n ?_
    refine J_seq ?_
    refine J_region (by kernel_rfl) ?_
    (try simp only [go_sem, Nat.reduceEqDiff, ↓reduceIte])
    refine call_in (string_at (i := 0) (j := 1) j55 rfl rfl rfl ?_)
    (try simp only [go_sem, Nat.reduceEqDiff, ↓reduceIte])
    refine hold2 (then_n ?_)
    refine J_ret (fin_ret ?_)
    obtain rfl := Option.some.inj hP
    (try simp only [go_sem, Nat.reduceEqDiff, ↓reduceIte])
    exact fo []
end Go.Proofs.YtecpgelhhbbjmaaDoor
