/- Functions of the program, and pure ones that go the same ways: that the program's return what these compute. -/
import Derived.Test.YtfhlehkgiamejaaGreatDoorGS
import Derived.Test.YtfhlehkgiamejaaGreatDoorGE
import Derived.Test.YtfhlehkgiamejaaGreatDoorAvY
import Derived.Test.YtfhlehkgiamejaaGreatDoorAvPj
namespace Go.Proofs.YtfhlehkgiamejaaGreatDoor
open Go.Av
set_option linter.unusedVariables false
set_option linter.unusedSimpArgs false
/-- colander/colanderlaw07.ChunkWrites -/
def law07_ChunkWrites_L110 : Nat → Int → (List (UInt8)) → Option (Unit)
  | 0, _, _ => none
  | k109 + 1, i107, l108 =>
    if decide (i107 < ((List.length l108 : Nat) : Int)) then
      (ixL l108 i107).bind fun x111 =>
      law07_ChunkWrites_L110 k109 (iadd .i64 i107 1) (List.set l108 (Int.toNat i107) (bC 7))
    else
      some ()
def law07_ChunkWrites_L122 : Nat → Int → (List (UInt8)) → Option (Unit)
  | 0, _, _ => none
  | k121 + 1, i119, l120 =>
    if decide (i119 < ((List.length l120 : Nat) : Int)) then
      (ixL l120 i119).bind fun x123 =>
      law07_ChunkWrites_L122 k121 (iadd .i64 i119 1) (List.set l120 (Int.toNat i119) (bC 7))
    else
      some ()
def law07_ChunkWrites_L85 (b1 : List (UInt8)) (r2 : Bool) : Nat → Int → Option (Sum (Bool) (Unit))
  | 0, _ => none
  | k45 + 1, twice44 =>
    if decide (twice44 < 2) then
      (chunk_Chunk b1).bind fun r86 =>
      (chunk_Last).bind fun r87 =>
      (show Option (Bool) from
        (show Option (Bool) from
          if !r2 then
            some true
          else
            (ref07_Chunk b1).bind fun r98 =>
            if !decide (r86 = r98) then
              some true
            else
              (ref07_Last).bind fun r99 =>
              some (!decide (r87 = r99))).bind fun j100 =>
          some j100).bind fun j101 =>
        if j101 then
          some (Sum.inl false)
        else
          (law07_ChunkWrites_L110  140737488355328 0 r86).bind fun j113 =>
            (law07_ChunkWrites_L122  140737488355328 0 r87).bind fun j125 =>
              law07_ChunkWrites_L85 b1 r2 k45 (iadd .i64 twice44 1)
    else
      some (Sum.inr ())
def law07_ChunkWrites (b1 : List (UInt8)) : Option (Bool) :=
  (law07_shown).bind fun r2 =>
  (law07_ChunkWrites_L85 b1 r2 140737488355328 0).bind fun o126 => match o126 with
  | Sum.inl r => some r
  | Sum.inr j127 =>
    some true
set_option maxRecDepth 100000 in
set_option maxHeartbeats 40000000 in
theorem law07_ChunkWrites_ok {b1 : List (UInt8)} {r : Bool} (hP : law07_ChunkWrites b1 = some r) : CallOK Tryz.prog 3 [.view 1 (List.map encB b1)] (.bool r) [] := by
  unfold law07_ChunkWrites at hP
  refine co 52 [.tmp 2] Tryz.func3 ?_
  refine J_seq ?_
  refine J_region (by kernel_rfl) ?_
  (try simp only [go_sem, Nat.reduceEqDiff, ↓reduceIte])
  refine hold2 (then_n ?_)
  refine J_seq ?_
  refine J_region (by kernel_rfl) ?_
  (try simp only [go_sem, Nat.reduceEqDiff, ↓reduceIte])
  obtain ⟨r2, hr2, hP⟩ := bind_cases hP
  refine call_ok [] (law07_shown_ok hr2) trivial ?_
  (try simp only [go_sem, Nat.reduceEqDiff, ↓reduceIte])
  refine hold2 (then_n ?_)
  refine J_seq ?_
  refine J_seq ?_
  refine J_region (by kernel_rfl) ?_
  (try simp only [go_sem, Nat.reduceEqDiff, ↓reduceIte])
  refine hold2 (then_n ?_)
  obtain ⟨o126, hP, hQ85⟩ := bind_cases hP
  refine J_joinK0 (fun (s : Unit) => envL []) (fun (s : Unit) => []) (fun s => Sum.inr s = o126) ?_ ?_
  · refine J_block ?_
    refine J_loop (σ := Nat × Int) (fun (s : Nat × Int) => envL [(0, .view 1 (List.map encB b1)), (3, .bool r2), (4, .int .i64 s.2)]) (fun (s : Nat × Int) => []) (fun s => law07_ChunkWrites_L85 b1 r2 s.1 s.2 = some o126) (fun s => s.1) (140737488355328, 0) hP (so []) ?_
    rintro ⟨k45, twice44⟩ hP
    dsimp only at hP ⊢
    cases k45 with
    | zero => simp [law07_ChunkWrites_L85] at hP
    | succ k45 =>
      simp only [law07_ChunkWrites_L85] at hP
      refine J_seq ?_
      refine J_seq ?_
      refine J_region (by kernel_rfl) ?_
      (try simp only [go_sem, Nat.reduceEqDiff, ↓reduceIte])
      refine hold2 (then_n ?_)
      refine J_condV rfl ?_
      (try simp only [go_sem, Nat.reduceEqDiff, ↓reduceIte])
      rcases ite_cases hP with ⟨hc, hP⟩ | ⟨hc, hP⟩
      · refine condV_t hc ?_
        refine J_skip (then_n ?_)
        refine J_seq ?_
        refine J_block ?_
        refine J_seq ?_
        refine J_region (by kernel_rfl) ?_
        (try simp only [go_sem, Nat.reduceEqDiff, ↓reduceIte])
        obtain ⟨r86, hr86, hP⟩ := bind_cases hP
        refine call_ok [.view 1 (List.map encB b1)] (chunk_Chunk_ok hr86) ⟨argR_m false rfl, trivial⟩ ?_
        (try simp only [go_sem, Nat.reduceEqDiff, ↓reduceIte])
        refine hold2 (then_n ?_)
        refine J_seq ?_
        refine J_region (by kernel_rfl) ?_
        (try simp only [go_sem, Nat.reduceEqDiff, ↓reduceIte])
        obtain ⟨r87, hr87, hP⟩ := bind_cases hP
        refine call_ok [] (chunk_Last_ok hr87) trivial ?_
        (try simp only [go_sem, Nat.reduceEqDiff, ↓reduceIte])
        refine hold2 (then_n ?_)
        refine J_seq ?_
        obtain ⟨o94, hP, hQ94⟩ := bind_cases hP
        refine J_join (fun (s : Bool) => envL [(0, .view 1 (List.map encB b1)), (3, .bool r2), (4, .int .i64 twice44), (5, .own 0 0 0 (List.length r86)), (6, .own 1 0 0 (List.length r87)), (33, .bool s)]) (fun (s : Bool) => [.slice 0 5 1 (List.map encB r86), .slice 0 5 1 (List.map encB r87)]) (fun s => s = o94) ?_ ?_
        · clear hQ94
          obtain ⟨o97, hP, hQ97⟩ := bind_cases hP
          refine J_joinK0 (fun (s : Bool) => envL [(0, .view 1 (List.map encB b1)), (3, .bool r2), (4, .int .i64 twice44), (5, .own 0 0 0 (List.length r86)), (6, .own 1 0 0 (List.length r87)), (33, .bool s)]) (fun (s : Bool) => [.slice 0 5 1 (List.map encB r86), .slice 0 5 1 (List.map encB r87)]) (fun s => s = o97) ?_ ?_
          · clear hQ97
            refine J_regionT [(0, none), (1, some [2, 3, 4, 5, 6, 7, 8, 9, 10, 11, 12, 13, 14, 15, 16]), (2, none), (3, none), (5, none), (4, some [8, 9, 10, 11, 12, 13, 14, 15, 16])] (.early 6 (.early 7 (.early 8 (.early 9 (.pure 10 (.pure 11 (.alt (.early 12 (.early 13 (.early 14 (.early 15 (.early 16 (.done)))))) (.early 13 (.alt (.early 12 (.early 14 (.early 15 (.early 16 (.done))))) (.early 14 (.early 12 (.early 15 (.early 16 (.done)))))))))))))) [] [17, 18, 19, 20, 21, 22, 23, 24, 25, 26, 27, 28, 29, 30, 31, 32, 33] follows_mixed (by kernel_rfl) (by kernel_rfl) (by kernel_rfl) (by kernel_rfl) (by kernel_rfl) (by kernel_rfl) ?_
            simp only [pickT_cons, pickT_nil, go_sem, Nat.reduceEqDiff, ↓reduceIte]
            (try simp only [go_sem, Nat.reduceEqDiff, ↓reduceIte])
            rcases ite_cases hP with ⟨hc, hP⟩ | ⟨hc, hP⟩
            · refine guard_not hc ?_
              (try simp only [go_sem, Nat.reduceEqDiff, ↓reduceIte])
              refine ⟨?_, ?_⟩
              · refine hold2 ?_
                exact join_n true (Option.some.inj hP) (so [0, 1])
              refine ⟨?_, ?_⟩
              · refine hold2 ?_
                exact join_n true (Option.some.inj hP) (so [0, 1])
              refine hold2 ?_
              exact join_n true (Option.some.inj hP) (so [0, 1])
            · refine guard_is hc ?_
              (try simp only [go_sem, Nat.reduceEqDiff, ↓reduceIte])
              first | refine bytesK_map ?_ | refine bytesK_of r86 rfl ?_
              (try simp only [go_sem, Nat.reduceEqDiff, ↓reduceIte])
              obtain ⟨r98, hr98, hP⟩ := bind_cases hP
              refine callE_ok [.view 1 (List.map encB b1)] (ref07_Chunk_ok hr98) ⟨argR_m false rfl, trivial⟩ ?_
              (try simp only [go_sem, Nat.reduceEqDiff, ↓reduceIte])
              first | refine bytesK_map ?_ | refine bytesK_of r98 rfl ?_
              (try simp only [go_sem, Nat.reduceEqDiff, ↓reduceIte])
              rcases ite_cases hP with ⟨hc, hP⟩ | ⟨hc, hP⟩
              · refine guard_not hc ?_
                (try simp only [go_sem, Nat.reduceEqDiff, ↓reduceIte])
                refine ⟨?_, ?_⟩
                · refine hold2 ?_
                  exact join_n true (Option.some.inj hP) (so [0, 1])
                refine ⟨?_, ?_⟩
                · refine hold2 ?_
                  exact join_n true (Option.some.inj hP) (so [0, 1])
                refine hold2 ?_
                exact join_n true (Option.some.inj hP) (so [0, 1])
              · refine guard_is hc ?_
                (try simp only [go_sem, Nat.reduceEqDiff, ↓reduceIte])
                refine ⟨?_, ?_⟩
                · first | refine bytesK_map ?_ | refine bytesK_of r87 rfl ?_
                  (try simp only [go_sem, Nat.reduceEqDiff, ↓reduceIte])
                  obtain ⟨r99, hr99, hP⟩ := bind_cases hP
                  refine callE_ok [] (ref07_Last_ok hr99) trivial ?_
                  (try simp only [go_sem, Nat.reduceEqDiff, ↓reduceIte])
                  first | refine bytesK_map ?_ | refine bytesK_of r99 rfl ?_
                  (try simp only [go_sem, Nat.reduceEqDiff, ↓reduceIte])
                  refine hold2 ?_
                  exact join_n (!decide (r87 = r99)) (Option.some.inj hP) (so [0, 1])
                obtain ⟨r99, hr99, hP⟩ := bind_cases hP
                refine callE_ok [] (ref07_Last_ok hr99) trivial ?_
                (try simp only [go_sem, Nat.reduceEqDiff, ↓reduceIte])
                refine ⟨?_, ?_⟩
                · first | refine bytesK_map ?_ | refine bytesK_of r87 rfl ?_
                  (try simp only [go_sem, Nat.reduceEqDiff, ↓reduceIte])
                  first | refine bytesK_map ?_ | refine bytesK_of r99 rfl ?_
                  (try simp only [go_sem, Nat.reduceEqDiff, ↓reduceIte])
                  refine hold2 ?_
                  exact join_n (!decide (r87 = r99)) (Option.some.inj hP) (so [0, 1])
                first | refine bytesK_map ?_ | refine bytesK_of r99 rfl ?_
                (try simp only [go_sem, Nat.reduceEqDiff, ↓reduceIte])
                first | refine bytesK_map ?_ | refine bytesK_of r87 rfl ?_
                (try simp only [go_sem, Nat.reduceEqDiff, ↓reduceIte])
                refine hold2 ?_
                exact join_n (!decide (r87 = r99)) (Option.some.inj hP) (so [0, 1])
          · intro j100 hs
            subst hs
            have hP := hQ97
            clear hQ97
            exact join_n j100 (Option.some.inj hP) (so [0, 1])
        · intro j101 hs
          subst hs
          have hP := hQ94
          clear hQ94
          refine J_condV rfl ?_
          (try simp only [go_sem, Nat.reduceEqDiff, ↓reduceIte])
          rcases ite_cases hP with ⟨hc, hP⟩ | ⟨hc, hP⟩
          · refine condV_t hc ?_
            refine J_seq ?_
            refine J_region (by kernel_rfl) ?_
            (try simp only [go_sem, Nat.reduceEqDiff, ↓reduceIte])
            refine hold2 (then_n ?_)
            refine J_ret (then_ret (block_ret (then_ret (loop_ret (block_ret (join_ret (then_ret (fin_ret ?_))))))))
            obtain rfl := Option.some.inj hP
            have hP := hQ85
            dsimp only at hP
            obtain rfl := Option.some.inj hP
            (try simp only [go_sem, Nat.reduceEqDiff, ↓reduceIte])
            exact fo []
          · refine condV_f hc ?_
            refine J_skip (then_n ?_)
            refine J_seq ?_
            refine J_seq ?_
            refine J_region (by kernel_rfl) ?_
            (try simp only [go_sem, Nat.reduceEqDiff, ↓reduceIte])
            refine hold2 (then_n ?_)
            obtain ⟨o112, hP, hQ110⟩ := bind_cases hP
            refine J_joinK0 (fun (s : Unit) => envL [(0, .view 1 (List.map encB b1)), (3, .bool r2), (4, .int .i64 twice44), (6, .own 0 0 0 (List.length r87))]) (fun (s : Unit) => [.slice 0 5 1 (List.map encB r87)]) (fun s => s = o112) ?_ ?_
            · clear hQ110
              refine J_block ?_
              refine J_loop (σ := Nat × Int × (List (UInt8))) (fun (s : Nat × Int × (List (UInt8))) => envL [(0, .view 1 (List.map encB b1)), (3, .bool r2), (4, .int .i64 twice44), (5, .own 0 0 0 (List.length s.2.2)), (6, .own 1 0 0 (List.length r87)), (7, .int .i64 s.2.1)]) (fun (s : Nat × Int × (List (UInt8))) => [.slice 0 5 1 (List.map encB s.2.2), .slice 0 5 1 (List.map encB r87)]) (fun s => law07_ChunkWrites_L110  s.1 s.2.1 s.2.2 = some o112) (fun s => s.1) (140737488355328, 0, r86) hP (so [0, 1]) ?_
              rintro ⟨k109, i107, l108⟩ hP
              dsimp only at hP ⊢
              cases k109 with
              | zero => simp [law07_ChunkWrites_L110] at hP
              | succ k109 =>
                simp only [law07_ChunkWrites_L110] at hP
                refine J_seq ?_
                refine J_seq ?_
                refine J_region (by kernel_rfl) ?_
                (try simp only [go_sem, Nat.reduceEqDiff, ↓reduceIte])
                refine hold2 (then_n ?_)
                refine J_condV rfl ?_
                (try simp only [go_sem, Nat.reduceEqDiff, ↓reduceIte])
                rcases ite_cases hP with ⟨hc, hP⟩ | ⟨hc, hP⟩
                · refine condV_t hc ?_
                  refine J_skip (then_n ?_)
                  refine J_seq ?_
                  refine J_block ?_
                  refine J_region (by kernel_rfl) ?_
                  (try simp only [go_sem, Nat.reduceEqDiff, ↓reduceIte])
                  obtain ⟨x111, hx111, hP⟩ := bind_cases hP
                  refine ixO_of hx111 ?_
                  (try simp only [go_sem, Nat.reduceEqDiff, ↓reduceIte])
                  refine getK_of (f := encB) hx111 ?_
                  (try simp only [go_sem, Nat.reduceEqDiff, ↓reduceIte])
                  refine hold2 (block_n (then_n ?_))
                  refine J_region (by kernel_rfl) ?_
                  (try simp only [go_sem, Nat.reduceEqDiff, ↓reduceIte])
                  refine hold2 ?_
                  exact loop_n (k109, iadd .i64 i107 1, List.set l108 (Int.toNat i107) (bC 7)) hP (Nat.lt_succ_self _) (so [0, 1])
                · refine condV_f hc ?_
                  refine J_exit (then_exit (loop_exit (block_eq ?_)))
                  exact join_n () (Option.some.inj hP) (so [1])
            · intro j113 hs
              subst hs
              have hP := hQ110
              clear hQ110
              refine then_n ?_
              refine J_seq ?_
              refine J_region (by kernel_rfl) ?_
              (try simp only [go_sem, Nat.reduceEqDiff, ↓reduceIte])
              refine hold2 (then_n ?_)
              obtain ⟨o124, hP, hQ122⟩ := bind_cases hP
              refine J_joinK0 (fun (s : Unit) => envL [(0, .view 1 (List.map encB b1)), (3, .bool r2), (4, .int .i64 twice44)]) (fun (s : Unit) => []) (fun s => s = o124) ?_ ?_
              · clear hQ122
                refine J_block ?_
                refine J_loop (σ := Nat × Int × (List (UInt8))) (fun (s : Nat × Int × (List (UInt8))) => envL [(0, .view 1 (List.map encB b1)), (3, .bool r2), (4, .int .i64 twice44), (6, .own 0 0 0 (List.length s.2.2)), (8, .int .i64 s.2.1)]) (fun (s : Nat × Int × (List (UInt8))) => [.slice 0 5 1 (List.map encB s.2.2)]) (fun s => law07_ChunkWrites_L122  s.1 s.2.1 s.2.2 = some o124) (fun s => s.1) (140737488355328, 0, r87) hP (so [0]) ?_
                rintro ⟨k121, i119, l120⟩ hP
                dsimp only at hP ⊢
                cases k121 with
                | zero => simp [law07_ChunkWrites_L122] at hP
                | succ k121 =>
                  simp only [law07_ChunkWrites_L122] at hP
                  refine J_seq ?_
                  refine J_seq ?_
                  refine J_region (by kernel_rfl) ?_
                  (try simp only [go_sem, Nat.reduceEqDiff, ↓reduceIte])
                  refine hold2 (then_n ?_)
                  refine J_condV rfl ?_
                  (try simp only [go_sem, Nat.reduceEqDiff, ↓reduceIte])
                  rcases ite_cases hP with ⟨hc, hP⟩ | ⟨hc, hP⟩
                  · refine condV_t hc ?_
                    refine J_skip (then_n ?_)
                    refine J_seq ?_
                    refine J_block ?_
                    refine J_region (by kernel_rfl) ?_
                    (try simp only [go_sem, Nat.reduceEqDiff, ↓reduceIte])
                    obtain ⟨x123, hx123, hP⟩ := bind_cases hP
                    refine ixO_of hx123 ?_
                    (try simp only [go_sem, Nat.reduceEqDiff, ↓reduceIte])
                    refine getK_of (f := encB) hx123 ?_
                    (try simp only [go_sem, Nat.reduceEqDiff, ↓reduceIte])
                    refine hold2 (block_n (then_n ?_))
                    refine J_region (by kernel_rfl) ?_
                    (try simp only [go_sem, Nat.reduceEqDiff, ↓reduceIte])
                    refine hold2 ?_
                    exact loop_n (k121, iadd .i64 i119 1, List.set l120 (Int.toNat i119) (bC 7)) hP (Nat.lt_succ_self _) (so [0])
                  · refine condV_f hc ?_
                    refine J_exit (then_exit (loop_exit (block_eq ?_)))
                    exact join_n () (Option.some.inj hP) (so [])
              · intro j125 hs
                subst hs
                have hP := hQ122
                clear hQ122
                refine block_n (then_n ?_)
                refine J_region (by kernel_rfl) ?_
                (try simp only [go_sem, Nat.reduceEqDiff, ↓reduceIte])
                refine hold2 ?_
                exact loop_n (k45, iadd .i64 twice44 1) hP (Nat.lt_succ_self _) (so [])
      · refine condV_f hc ?_
        refine J_exit (then_exit (loop_exit (block_eq ?_)))
        exact join_n () (Option.some.inj hP) (so [])
  · intro j127 hs
    subst hs
    have hP := hQ85
    dsimp only at hP
    clear hQ85
    refine then_n ?_
    refine J_seq ?_
    refine J_region (by kernel_rfl) ?_
    (try simp only [go_sem, Nat.reduceEqDiff, ↓reduceIte])
    refine hold2 (then_n ?_)
    refine J_ret (fin_ret ?_)
    obtain rfl := Option.some.inj hP
    (try simp only [go_sem, Nat.reduceEqDiff, ↓reduceIte])
    exact fo []
end Go.Proofs.YtfhlehkgiamejaaGreatDoor
