/- Functions of the program, and pure ones that go the same ways: that the program's return what these compute. -/
import Derived.Test.YtfhlehkgiamejaaGreatDoorGE
import Derived.Test.YtfhlehkgiamejaaGreatDoorAvY
import Derived.Test.YtfhlehkgiamejaaGreatDoorAvPj
namespace Go.Proofs.YtfhlehkgiamejaaGreatDoor
open Go.Av
set_option linter.unusedVariables false
set_option linter.unusedSimpArgs false
/-- colander/colanderlaw07.ChunkBack -/
def law07_ChunkBack_L36 (pieces1 : List (List (UInt8))) : Nat → Int → (List (UInt8)) → (List (UInt8)) → Option ((List (UInt8)) × (List (UInt8)))
  | 0, _, _, _ => none
  | k28 + 1, i25, l26, l27 =>
    (show Option (Bool) from
      if decide (i25 < (List.length pieces1 : Int)) then
        some (decide (i25 < 200))
      else
        some false).bind fun j38 =>
      if j38 then
        (ixL pieces1 i25).bind fun x39 =>
        if decide (8192 < iadd .i64 ((List.length l26 : Nat) : Int) (List.length x39 : Int)) then
          some (l26, l27)
        else
          (ixL pieces1 i25).bind fun x40 =>
          (szC (List.length (l26 ++ x40 : List (UInt8)))).bind fun _ =>
          (ixL pieces1 i25).bind fun x42 =>
          (chunk_Chunk x42).bind fun r43 =>
          (szC (List.length (l27 ++ r43 : List (UInt8)))).bind fun _ =>
          law07_ChunkBack_L36 pieces1 k28 (iadd .i64 i25 1) (l26 ++ x40) (l27 ++ r43)
      else
        some (l26, l27)
def law07_ChunkBack_L166 (j46 : (List (UInt8)) × (List (UInt8))) (r47 : (List (UInt8))) (behind3 : List (UInt8)) (cuts2 : List (Int)) : Nat → Int → Int → Int → Bool → Int → Int → Bool → Int → (List (UInt8)) → (List (UInt8)) → Option (Int × Int × Bool × Int × Int × Bool × Int × (List (UInt8)) × (List (UInt8)))
  | 0, _, _, _, _, _, _, _, _, _, _ => none
  | k136 + 1, at126, i127, l128, l129, l130, l131, l132, l133, l134, l135 =>
    if decide (at126 < ((List.length ((j46.2 ++ r47) ++ behind3) : Nat) : Int)) then
      (show Option (Int) from
        (show Option (Bool) from
          if decide (0 < (List.length cuts2 : Int)) then
            (chk (decide ((List.length cuts2 : Int) ≠ 0))).bind fun _ =>
            (ixL cuts2 (irem i127 (List.length cuts2 : Int))).bind fun x186 =>
            if decide (0 < x186) then
              (chk (decide ((List.length cuts2 : Int) ≠ 0))).bind fun _ =>
              (ixL cuts2 (irem i127 (List.length cuts2 : Int))).bind fun x188 =>
              some (decide (x188 < isub .i64 ((List.length ((j46.2 ++ r47) ++ behind3) : Nat) : Int) at126))
            else
              some false
          else
            some false).bind fun j189 =>
          if j189 then
            (chk (decide ((List.length cuts2 : Int) ≠ 0))).bind fun _ =>
            (ixL cuts2 (irem i127 (List.length cuts2 : Int))).bind fun x191 =>
            some x191
          else
            some (isub .i64 ((List.length ((j46.2 ++ r47) ++ behind3) : Nat) : Int) at126)).bind fun j192 =>
        (slL ((j46.2 ++ r47) ++ behind3) at126 (iadd .i64 at126 j192)).bind fun s193 =>
        (chunk_Reader_Take s193 l128 l129 l130 l131 l132 l133 l134 ([] : List UInt8)).bind fun r195 =>
        (szC (List.length (l135 ++ r195.2.2.2.2.2.2.2.2 : List (UInt8)))).bind fun _ =>
        if decide (r195.1 < j192) then
          some (iadd .i64 at126 r195.1, r195.2.1, r195.2.2.1, r195.2.2.2.1, r195.2.2.2.2.1, r195.2.2.2.2.2.1, r195.2.2.2.2.2.2.1, r195.2.2.2.2.2.2.2.1, l135 ++ r195.2.2.2.2.2.2.2.2)
        else
          law07_ChunkBack_L166 j46 r47 behind3 cuts2 k136 (iadd .i64 at126 r195.1) (iadd .i64 i127 1) r195.2.1 r195.2.2.1 r195.2.2.2.1 r195.2.2.2.2.1 r195.2.2.2.2.2.1 r195.2.2.2.2.2.2.1 r195.2.2.2.2.2.2.2.1 (l135 ++ r195.2.2.2.2.2.2.2.2)
    else
      some (at126, l128, l129, l130, l131, l132, l133, l134, l135)
def law07_ChunkBack (pieces1 : List (List (UInt8))) (cuts2 : List (Int)) (behind3 : List (UInt8)) : Option (Bool) :=
  (law07_shown).bind fun r4 =>
  (law07_ChunkBack_L36 pieces1 141836999983104 0 ([] : List UInt8) ([] : List UInt8)).bind fun j46 =>
    (chunk_Last).bind fun r47 =>
    (szC (List.length (j46.2 ++ r47 : List (UInt8)))).bind fun _ =>
    (szC (List.length ((j46.2 ++ r47) ++ behind3 : List (UInt8)))).bind fun _ =>
    (chunk_New).bind fun r51 =>
    (show Option (Bool) from
      if !r4 then
        some true
      else
        some false).bind fun j53 =>
      if j53 then
        some false
      else
        (law07_ChunkBack_L166 j46 r47 behind3 cuts2 141836999983104 0 0 0 false 0 0 false 0 ([] : List UInt8) ([] : List UInt8)).bind fun j198 =>
          if decide (j198.2.2.2.2.2.2.2.2 = j46.1) then
            if decide (j198.1 = ((List.length (j46.2 ++ r47) : Nat) : Int)) then
              (chunk_Reader_Done ((), ([] : List UInt8), j198.2.1, j198.2.2.1, j198.2.2.2.1)).bind fun r199 =>
              if r199 then
                (chunk_Reader_Err ((), ([] : List UInt8), j198.2.1, j198.2.2.1, j198.2.2.2.1)).bind fun r200 =>
                some (decide (r200 = 0))
              else
                some false
            else
              some false
          else
            some false
set_option maxRecDepth 100000 in
set_option maxHeartbeats 40000000 in
theorem law07_ChunkBack_ok {pieces1 : List (List (UInt8))} {cuts2 : List (Int)} {behind3 : List (UInt8)} {r : Bool} (hP : law07_ChunkBack pieces1 cuts2 behind3 = some r) : CallOK Tryz.prog 4 [.view 1 (List.map (encL 1 encB) pieces1), .view 1 (List.map (encI .i64) cuts2), .view 1 (List.map encB behind3)] (.bool r) [] := by
  unfold law07_ChunkBack at hP
  refine co 148 [.tmp 6] Tryz.func4 ?_
  refine J_seq ?_
  refine J_region (by kernel_rfl) ?_
  (try simp only [go_sem, Nat.reduceEqDiff, ↓reduceIte])
  refine hold2 (then_n ?_)
  refine J_seq ?_
  refine J_region (by kernel_rfl) ?_
  (try simp only [go_sem, Nat.reduceEqDiff, ↓reduceIte])
  obtain ⟨r4, hr4, hP⟩ := bind_cases hP
  refine call_ok [] (law07_shown_ok hr4) trivial ?_
  (try simp only [go_sem, Nat.reduceEqDiff, ↓reduceIte])
  refine hold2 (then_n ?_)
  refine J_seq ?_
  refine J_region (by kernel_rfl) ?_
  (try simp only [go_sem, Nat.reduceEqDiff, ↓reduceIte])
  refine hold2 (then_n ?_)
  refine J_seq ?_
  refine J_region (by kernel_rfl) ?_
  (try simp only [go_sem, Nat.reduceEqDiff, ↓reduceIte])
  refine hold2 (then_n ?_)
  refine J_seq ?_
  refine J_seq ?_
  refine J_region (by kernel_rfl) ?_
  (try simp only [go_sem, Nat.reduceEqDiff, ↓reduceIte])
  refine hold2 (then_n ?_)
  obtain ⟨o45, hP, hQ36⟩ := bind_cases hP
  refine J_joinK0 (fun (s : (List (UInt8)) × (List (UInt8))) => envL [(1, .view 1 (List.map (encI .i64) cuts2)), (2, .view 1 (List.map encB behind3)), (7, .bool r4), (8, .own 0 0 0 (List.length s.1)), (9, .own 1 0 0 (List.length s.2))]) (fun (s : (List (UInt8)) × (List (UInt8))) => [.slice 0 5 1 (List.map encB s.1), .slice 0 5 1 (List.map encB s.2)]) (fun s => s = o45) ?_ ?_
  · clear hQ36
    refine J_block ?_
    refine J_loop (σ := Nat × Int × (List (UInt8)) × (List (UInt8))) (fun (s : Nat × Int × (List (UInt8)) × (List (UInt8))) => envL [(0, .view 1 (List.map (encL 1 encB) pieces1)), (1, .view 1 (List.map (encI .i64) cuts2)), (2, .view 1 (List.map encB behind3)), (7, .bool r4), (8, .own 0 0 0 (List.length s.2.2.1)), (9, .own 1 0 0 (List.length s.2.2.2)), (10, .int .i64 s.2.1)]) (fun (s : Nat × Int × (List (UInt8)) × (List (UInt8))) => [.slice 0 5 1 (List.map encB s.2.2.1), .slice 0 5 1 (List.map encB s.2.2.2)]) (fun s => law07_ChunkBack_L36 pieces1 s.1 s.2.1 s.2.2.1 s.2.2.2 = some o45) (fun s => s.1) (141836999983104, 0, ([] : List UInt8), ([] : List UInt8)) hP (so [0, 1]) ?_
    rintro ⟨k28, i25, l26, l27⟩ hP
    dsimp only at hP ⊢
    cases k28 with
    | zero => simp [law07_ChunkBack_L36] at hP
    | succ k28 =>
      simp only [law07_ChunkBack_L36] at hP
      refine J_seq ?_
      obtain ⟨o37, hP, hQ37⟩ := bind_cases hP
      refine J_join (fun (s : Bool) => envL [(0, .view 1 (List.map (encL 1 encB) pieces1)), (1, .view 1 (List.map (encI .i64) cuts2)), (2, .view 1 (List.map encB behind3)), (7, .bool r4), (8, .own 0 0 0 (List.length l26)), (9, .own 1 0 0 (List.length l27)), (10, .int .i64 i25), (27, .bool s)]) (fun (s : Bool) => [.slice 0 5 1 (List.map encB l26), .slice 0 5 1 (List.map encB l27)]) (fun s => s = o37) ?_ ?_
      · clear hQ37
        refine J_region (by kernel_rfl) ?_
        (try simp only [go_sem, Nat.reduceEqDiff, ↓reduceIte])
        rcases ite_cases hP with ⟨hc, hP⟩ | ⟨hc, hP⟩
        · refine guard_is hc ?_
          (try simp only [go_sem, Nat.reduceEqDiff, ↓reduceIte])
          refine hold2 ?_
          exact join_n (decide (i25 < 200)) (Option.some.inj hP) (so [0, 1])
        · refine guard_not hc ?_
          (try simp only [go_sem, Nat.reduceEqDiff, ↓reduceIte])
          refine hold2 ?_
          exact join_n false (Option.some.inj hP) (so [0, 1])
      · intro j38 hs
        subst hs
        have hP := hQ37
        clear hQ37
        refine J_condV rfl ?_
        (try simp only [go_sem, Nat.reduceEqDiff, ↓reduceIte])
        rcases ite_cases hP with ⟨hc, hP⟩ | ⟨hc, hP⟩
        · refine condV_t hc ?_
          refine J_skip (then_n ?_)
          refine J_seq ?_
          refine J_block ?_
          refine J_seq ?_
          refine J_seq ?_
          refine J_region (by kernel_rfl) ?_
          (try simp only [go_sem, Nat.reduceEqDiff, ↓reduceIte])
          obtain ⟨x39, hx39, hP⟩ := bind_cases hP
          refine ixV_of hx39 ?_
          (try simp only [go_sem, Nat.reduceEqDiff, ↓reduceIte])
          refine hold2 (then_n ?_)
          refine J_condV rfl ?_
          (try simp only [go_sem, Nat.reduceEqDiff, ↓reduceIte])
          rcases ite_cases hP with ⟨hc, hP⟩ | ⟨hc, hP⟩
          · refine condV_t hc ?_
            refine J_exit (then_exit (block_ne (by decide) (then_exit (loop_exit (block_eq ?_)))))
            exact join_n (l26, l27) (Option.some.inj hP) (so [0, 1])
          · refine condV_f hc ?_
            refine J_skip (then_n ?_)
            refine J_seq ?_
            refine J_region (by kernel_rfl) ?_
            (try simp only [go_sem, Nat.reduceEqDiff, ↓reduceIte])
            obtain ⟨x40, hx40, hP⟩ := bind_cases hP
            refine ixV_of hx40 ?_
            (try simp only [go_sem, Nat.reduceEqDiff, ↓reduceIte])
            obtain ⟨_, hz41, hP⟩ := bind_cases hP
            refine app_own (f := encB) (l26 : List (UInt8)) (x40 : List (UInt8)) rfl tyS_22 (by decide) (by simp only [go_sem, Nat.reduceEqDiff, ↓reduceIte]; first | done | rfl | exact ⟨rfl, rfl⟩) hz41 ?_
            (try simp only [go_sem, Nat.reduceEqDiff, ↓reduceIte])
            refine hold2 (then_n ?_)
            refine J_region (by kernel_rfl) ?_
            (try simp only [go_sem, Nat.reduceEqDiff, ↓reduceIte])
            obtain ⟨x42, hx42, hP⟩ := bind_cases hP
            refine ixV_of hx42 ?_
            (try simp only [go_sem, Nat.reduceEqDiff, ↓reduceIte])
            obtain ⟨r43, hr43, hP⟩ := bind_cases hP
            refine call_ok [.view 1 (List.map encB x42)] (chunk_Chunk_ok hr43) ⟨argR_m false rfl, trivial⟩ ?_
            (try simp only [go_sem, Nat.reduceEqDiff, ↓reduceIte])
            obtain ⟨_, hz44, hP⟩ := bind_cases hP
            refine app_own (f := encB) (l27 : List (UInt8)) (r43 : List (UInt8)) rfl tyS_22 (by decide) (by simp only [go_sem, Nat.reduceEqDiff, ↓reduceIte]; first | done | rfl | exact ⟨rfl, rfl⟩) hz44 ?_
            (try simp only [go_sem, Nat.reduceEqDiff, ↓reduceIte])
            refine hold2 (block_n (then_n ?_))
            refine J_region (by kernel_rfl) ?_
            (try simp only [go_sem, Nat.reduceEqDiff, ↓reduceIte])
            refine hold2 ?_
            exact loop_n (k28, iadd .i64 i25 1, l26 ++ x40, l27 ++ r43) hP (Nat.lt_succ_self _) (so [0, 1])
        · refine condV_f hc ?_
          refine J_exit (then_exit (loop_exit (block_eq ?_)))
          exact join_n (l26, l27) (Option.some.inj hP) (so [0, 1])
  · intro j46 hs
    subst hs
    have hP := hQ36
    clear hQ36
    refine then_n ?_
    refine J_seq ?_
    refine J_region (by kernel_rfl) ?_
    (try simp only [go_sem, Nat.reduceEqDiff, ↓reduceIte])
    obtain ⟨r47, hr47, hP⟩ := bind_cases hP
    refine call_ok [] (chunk_Last_ok hr47) trivial ?_
    (try simp only [go_sem, Nat.reduceEqDiff, ↓reduceIte])
    obtain ⟨_, hz48, hP⟩ := bind_cases hP
    refine app_own (f := encB) (j46.2 : List (UInt8)) (r47 : List (UInt8)) rfl tyS_22 (by decide) (by simp only [go_sem, Nat.reduceEqDiff, ↓reduceIte]; first | done | rfl | exact ⟨rfl, rfl⟩) hz48 ?_
    (try simp only [go_sem, Nat.reduceEqDiff, ↓reduceIte])
    refine hold2 (then_n ?_)
    refine J_seq ?_
    refine J_region (by kernel_rfl) ?_
    (try simp only [go_sem, Nat.reduceEqDiff, ↓reduceIte])
    refine hold2 (then_n ?_)
    refine J_seq ?_
    refine J_region (by kernel_rfl) ?_
    (try simp only [go_sem, Nat.reduceEqDiff, ↓reduceIte])
    obtain ⟨_, hz49, hP⟩ := bind_cases hP
    refine app_own (f := encB) (j46.2 ++ r47 : List (UInt8)) (behind3 : List (UInt8)) rfl tyS_22 (by decide) (by simp only [go_sem, Nat.reduceEqDiff, ↓reduceIte]; first | done | rfl | exact ⟨rfl, rfl⟩) hz49 ?_
    (try simp only [go_sem, Nat.reduceEqDiff, ↓reduceIte])
    refine hold2 (then_n ?_)
    refine J_seq ?_
    refine J_region (by kernel_rfl) ?_
    (try simp only [go_sem, Nat.reduceEqDiff, ↓reduceIte])
    obtain ⟨r51, hr50, hP⟩ := bind_cases hP
    refine call_pt [] [(1, .view 1 (List.map (encI .i64) cuts2)), (7, .bool r4), (8, .own 0 0 0 (List.length j46.1)), (9, .own 1 0 0 (List.length ((j46.2 ++ r47) ++ behind3))), (11, .int .i64 ((List.length (j46.2 ++ r47) : Nat) : Int))] [.slice 0 5 1 (List.map encB j46.1), .slice 0 5 1 (List.map encB ((j46.2 ++ r47) ++ behind3)), .box 46 [.iface 48 (.bptr 3 0), .own 5 0 0 (List.length ([] : List UInt8)), .int .i64 0, .bool false, .int .i64 0], .box 50 [.own 4 0 0 (List.length ([] : List UInt8)), .int .i64 0, .bool false, .int .i64 0], .slice 0 5 1 (List.map encB ([] : List UInt8)), .slice 0 5 1 (List.map encB ([] : List UInt8))] (.bptr 2 0) (chunk_New_ok hr50) ⟨argP_r (by rfl), trivial⟩ (told_of (sm [0, 1, 3, 4, 5, 6])) ?_
    (try simp only [go_sem, Nat.reduceEqDiff, ↓reduceIte])
    refine hold2 (then_n ?_)
    refine J_seq ?_
    obtain ⟨o52, hP, hQ52⟩ := bind_cases hP
    refine J_join (fun (s : Bool) => envL [(1, .view 1 (List.map (encI .i64) cuts2)), (8, .own 0 0 0 (List.length j46.1)), (9, .own 1 0 0 (List.length ((j46.2 ++ r47) ++ behind3))), (11, .int .i64 ((List.length (j46.2 ++ r47) : Nat) : Int)), (12, .bptr 2 0), (67, .bool s)]) (fun (s : Bool) => [.slice 0 5 1 (List.map encB j46.1), .slice 0 5 1 (List.map encB ((j46.2 ++ r47) ++ behind3)), .box 46 [.iface 48 (.bptr 3 0), .own 5 0 0 (List.length ([] : List UInt8)), .int .i64 0, .bool false, .int .i64 0], .box 50 [.own 4 0 0 (List.length ([] : List UInt8)), .int .i64 0, .bool false, .int .i64 0], .slice 0 5 1 (List.map encB ([] : List UInt8)), .slice 0 5 1 (List.map encB ([] : List UInt8))]) (fun s => s = o52) ?_ ?_
    · clear hQ52
      refine J_region (by kernel_rfl) ?_
      (try simp only [go_sem, Nat.reduceEqDiff, ↓reduceIte])
      rcases ite_cases hP with ⟨hc, hP⟩ | ⟨hc, hP⟩
      · refine guard_not hc ?_
        (try simp only [go_sem, Nat.reduceEqDiff, ↓reduceIte])
        refine hold2 ?_
        exact join_n true (Option.some.inj hP) (so [0, 1, 2, 3, 4, 5])
      · refine guard_is hc ?_
        (try simp only [go_sem, Nat.reduceEqDiff, ↓reduceIte])
        refine hold2 ?_
        exact join_n false (Option.some.inj hP) (so [0, 1, 2, 3, 4, 5])
    · intro j53 hs
      subst hs
      have hP := hQ52
      clear hQ52
      refine J_condV rfl ?_
      (try simp only [go_sem, Nat.reduceEqDiff, ↓reduceIte])
      rcases ite_cases hP with ⟨hc, hP⟩ | ⟨hc, hP⟩
      · refine condV_t hc ?_
        refine J_seq ?_
        refine J_region (by kernel_rfl) ?_
        (try simp only [go_sem, Nat.reduceEqDiff, ↓reduceIte])
        refine hold2 (then_n ?_)
        refine J_ret (then_ret (fin_ret ?_))
        obtain rfl := Option.some.inj hP
        (try simp only [go_sem, Nat.reduceEqDiff, ↓reduceIte])
        exact fo []
      · refine condV_f hc ?_
        refine J_skip (then_n ?_)
        refine J_seq ?_
        refine J_region (by kernel_rfl) ?_
        (try simp only [go_sem, Nat.reduceEqDiff, ↓reduceIte])
        refine hold2 (then_n ?_)
        refine J_seq ?_
        refine J_region (by kernel_rfl) ?_
        (try simp only [go_sem, Nat.reduceEqDiff, ↓reduceIte])
        refine hold2 (then_n ?_)
        refine J_seq ?_
        refine J_seq ?_
        refine J_region (by kernel_rfl) ?_
        (try simp only [go_sem, Nat.reduceEqDiff, ↓reduceIte])
        refine hold2 (then_n ?_)
        obtain ⟨o197, hP, hQ166⟩ := bind_cases hP
        refine J_joinK0 (fun (s : Int × Int × Bool × Int × Int × Bool × Int × (List (UInt8)) × (List (UInt8))) => envL [(8, .own 0 0 0 (List.length j46.1)), (11, .int .i64 ((List.length (j46.2 ++ r47) : Nat) : Int)), (12, .bptr 1 0), (13, .own 5 0 0 (List.length s.2.2.2.2.2.2.2.2)), (14, .int .i64 s.1)]) (fun (s : Int × Int × Bool × Int × Int × Bool × Int × (List (UInt8)) × (List (UInt8))) => [.slice 0 5 1 (List.map encB j46.1), .box 46 [.iface 48 (.bptr 2 0), .own 4 0 0 (List.length ([] : List UInt8)), .int .i64 s.2.1, .bool s.2.2.1, .int .i64 s.2.2.2.1], .box 50 [.own 3 0 0 (List.length s.2.2.2.2.2.2.2.1), .int .i64 s.2.2.2.2.1, .bool s.2.2.2.2.2.1, .int .i64 s.2.2.2.2.2.2.1], .slice 0 5 1 (List.map encB s.2.2.2.2.2.2.2.1), .slice 0 5 1 (List.map encB ([] : List UInt8)), .slice 0 5 1 (List.map encB s.2.2.2.2.2.2.2.2)]) (fun s => s = o197) ?_ ?_
        · clear hQ166
          refine J_block ?_
          refine J_loop (σ := Nat × Int × Int × Int × Bool × Int × Int × Bool × Int × (List (UInt8)) × (List (UInt8))) (fun (s : Nat × Int × Int × Int × Bool × Int × Int × Bool × Int × (List (UInt8)) × (List (UInt8))) => envL [(1, .view 1 (List.map (encI .i64) cuts2)), (8, .own 0 0 0 (List.length j46.1)), (9, .own 1 0 0 (List.length ((j46.2 ++ r47) ++ behind3))), (11, .int .i64 ((List.length (j46.2 ++ r47) : Nat) : Int)), (12, .bptr 2 0), (13, .own 6 0 0 (List.length s.2.2.2.2.2.2.2.2.2.2)), (14, .int .i64 s.2.1), (15, .int .i64 s.2.2.1)]) (fun (s : Nat × Int × Int × Int × Bool × Int × Int × Bool × Int × (List (UInt8)) × (List (UInt8))) => [.slice 0 5 1 (List.map encB j46.1), .slice 0 5 1 (List.map encB ((j46.2 ++ r47) ++ behind3)), .box 46 [.iface 48 (.bptr 3 0), .own 5 0 0 (List.length ([] : List UInt8)), .int .i64 s.2.2.2.1, .bool s.2.2.2.2.1, .int .i64 s.2.2.2.2.2.1], .box 50 [.own 4 0 0 (List.length s.2.2.2.2.2.2.2.2.2.1), .int .i64 s.2.2.2.2.2.2.1, .bool s.2.2.2.2.2.2.2.1, .int .i64 s.2.2.2.2.2.2.2.2.1], .slice 0 5 1 (List.map encB s.2.2.2.2.2.2.2.2.2.1), .slice 0 5 1 (List.map encB ([] : List UInt8)), .slice 0 5 1 (List.map encB s.2.2.2.2.2.2.2.2.2.2)]) (fun s => law07_ChunkBack_L166 j46 r47 behind3 cuts2 s.1 s.2.1 s.2.2.1 s.2.2.2.1 s.2.2.2.2.1 s.2.2.2.2.2.1 s.2.2.2.2.2.2.1 s.2.2.2.2.2.2.2.1 s.2.2.2.2.2.2.2.2.1 s.2.2.2.2.2.2.2.2.2.1 s.2.2.2.2.2.2.2.2.2.2 = some o197) (fun s => s.1) (141836999983104, 0, 0, 0, false, 0, 0, false, 0, ([] : List UInt8), ([] : List UInt8)) hP (so [0, 1, 2, 3, 4, 5, 6]) ?_
          rintro ⟨k136, at126, i127, l128, l129, l130, l131, l132, l133, l134, l135⟩ hP
          dsimp only at hP ⊢
          cases k136 with
          | zero => simp [law07_ChunkBack_L166] at hP
          | succ k136 =>
            simp only [law07_ChunkBack_L166] at hP
            refine J_seq ?_
            refine J_seq ?_
            refine J_region (by kernel_rfl) ?_
            (try simp only [go_sem, Nat.reduceEqDiff, ↓reduceIte])
            refine hold2 (then_n ?_)
            refine J_condV rfl ?_
            (try simp only [go_sem, Nat.reduceEqDiff, ↓reduceIte])
            rcases ite_cases hP with ⟨hc, hP⟩ | ⟨hc, hP⟩
            · refine condV_t hc ?_
              refine J_skip (then_n ?_)
              refine J_seq ?_
              refine J_block ?_
              refine J_seq ?_
              refine J_region (by kernel_rfl) ?_
              (try simp only [go_sem, Nat.reduceEqDiff, ↓reduceIte])
              refine hold2 (then_n ?_)
              obtain ⟨o179, hP, hQ179⟩ := bind_cases hP
              refine J_join (fun (s : Int) => envL [(1, .view 1 (List.map (encI .i64) cuts2)), (8, .own 0 0 0 (List.length j46.1)), (9, .own 1 0 0 (List.length ((j46.2 ++ r47) ++ behind3))), (11, .int .i64 ((List.length (j46.2 ++ r47) : Nat) : Int)), (12, .bptr 2 0), (13, .own 6 0 0 (List.length l135)), (14, .int .i64 at126), (15, .int .i64 i127), (16, .int .i64 s)]) (fun (s : Int) => [.slice 0 5 1 (List.map encB j46.1), .slice 0 5 1 (List.map encB ((j46.2 ++ r47) ++ behind3)), .box 46 [.iface 48 (.bptr 3 0), .own 5 0 0 (List.length ([] : List UInt8)), .int .i64 l128, .bool l129, .int .i64 l130], .box 50 [.own 4 0 0 (List.length l134), .int .i64 l131, .bool l132, .int .i64 l133], .slice 0 5 1 (List.map encB l134), .slice 0 5 1 (List.map encB ([] : List UInt8)), .slice 0 5 1 (List.map encB l135)]) (fun s => s = o179) ?_ ?_
              · clear hQ179
                obtain ⟨o184, hP, hQ184⟩ := bind_cases hP
                refine J_join (fun (s : Bool) => envL [(1, .view 1 (List.map (encI .i64) cuts2)), (8, .own 0 0 0 (List.length j46.1)), (9, .own 1 0 0 (List.length ((j46.2 ++ r47) ++ behind3))), (11, .int .i64 ((List.length (j46.2 ++ r47) : Nat) : Int)), (12, .bptr 2 0), (13, .own 6 0 0 (List.length l135)), (14, .int .i64 at126), (15, .int .i64 i127), (16, .int .i64 (isub .i64 ((List.length ((j46.2 ++ r47) ++ behind3) : Nat) : Int) at126)), (101, .bool s)]) (fun (s : Bool) => [.slice 0 5 1 (List.map encB j46.1), .slice 0 5 1 (List.map encB ((j46.2 ++ r47) ++ behind3)), .box 46 [.iface 48 (.bptr 3 0), .own 5 0 0 (List.length ([] : List UInt8)), .int .i64 l128, .bool l129, .int .i64 l130], .box 50 [.own 4 0 0 (List.length l134), .int .i64 l131, .bool l132, .int .i64 l133], .slice 0 5 1 (List.map encB l134), .slice 0 5 1 (List.map encB ([] : List UInt8)), .slice 0 5 1 (List.map encB l135)]) (fun s => s = o184) ?_ ?_
                · clear hQ184
                  refine J_region (by kernel_rfl) ?_
                  (try simp only [go_sem, Nat.reduceEqDiff, ↓reduceIte])
                  rcases ite_cases hP with ⟨hc, hP⟩ | ⟨hc, hP⟩
                  · refine guard_is hc ?_
                    (try conv => arg 5; simp only [go_sem, Nat.reduceEqDiff, ↓reduceIte])
                    (try simp only [go_sem, Nat.reduceEqDiff, ↓reduceIte])
                    obtain ⟨_, hz185, hP⟩ := bind_cases hP
                    refine chk_of (chk_prop hz185) ?_
                    (try simp only [go_sem, Nat.reduceEqDiff, ↓reduceIte])
                    obtain ⟨x186, hx186, hP⟩ := bind_cases hP
                    refine ixV_of hx186 ?_
                    (try simp only [go_sem, Nat.reduceEqDiff, ↓reduceIte])
                    rcases ite_cases hP with ⟨hc, hP⟩ | ⟨hc, hP⟩
                    · refine guard_is hc ?_
                      (try conv => arg 5; simp only [go_sem, Nat.reduceEqDiff, ↓reduceIte])
                      (try simp only [go_sem, Nat.reduceEqDiff, ↓reduceIte])
                      obtain ⟨_, hz187, hP⟩ := bind_cases hP
                      refine chk_of (chk_prop hz187) ?_
                      (try simp only [go_sem, Nat.reduceEqDiff, ↓reduceIte])
                      obtain ⟨x188, hx188, hP⟩ := bind_cases hP
                      refine ixV_of hx188 ?_
                      (try simp only [go_sem, Nat.reduceEqDiff, ↓reduceIte])
                      refine hold2 ?_
                      exact join_n (decide (x188 < isub .i64 ((List.length ((j46.2 ++ r47) ++ behind3) : Nat) : Int) at126)) (Option.some.inj hP) (so [0, 1, 2, 3, 4, 5, 6])
                    · refine guard_not hc ?_
                      (try conv => arg 5; simp only [go_sem, Nat.reduceEqDiff, ↓reduceIte])
                      (try simp only [go_sem, Nat.reduceEqDiff, ↓reduceIte])
                      refine hold2 ?_
                      exact join_n false (Option.some.inj hP) (so [0, 1, 2, 3, 4, 5, 6])
                  · refine guard_not hc ?_
                    (try conv => arg 5; simp only [go_sem, Nat.reduceEqDiff, ↓reduceIte])
                    (try simp only [go_sem, Nat.reduceEqDiff, ↓reduceIte])
                    refine hold2 ?_
                    exact join_n false (Option.some.inj hP) (so [0, 1, 2, 3, 4, 5, 6])
                · intro j189 hs
                  subst hs
                  have hP := hQ184
                  clear hQ184
                  refine J_condV rfl ?_
                  (try simp only [go_sem, Nat.reduceEqDiff, ↓reduceIte])
                  rcases ite_cases hP with ⟨hc, hP⟩ | ⟨hc, hP⟩
                  · refine condV_t hc ?_
                    refine J_region (by kernel_rfl) ?_
                    (try simp only [go_sem, Nat.reduceEqDiff, ↓reduceIte])
                    obtain ⟨_, hz190, hP⟩ := bind_cases hP
                    refine chk_of (chk_prop hz190) ?_
                    (try simp only [go_sem, Nat.reduceEqDiff, ↓reduceIte])
                    obtain ⟨x191, hx191, hP⟩ := bind_cases hP
                    refine ixV_of hx191 ?_
                    (try simp only [go_sem, Nat.reduceEqDiff, ↓reduceIte])
                    refine hold2 ?_
                    exact join_n x191 (Option.some.inj hP) (so [0, 1, 2, 3, 4, 5, 6])
                  · refine condV_f hc ?_
                    refine J_skip ?_
                    exact join_n (isub .i64 ((List.length ((j46.2 ++ r47) ++ behind3) : Nat) : Int) at126) (Option.some.inj hP) (so [0, 1, 2, 3, 4, 5, 6])
              · intro j192 hs
                subst hs
                have hP := hQ179
                clear hQ179
                refine J_seq ?_
                refine J_region (by kernel_rfl) ?_
                (try simp only [go_sem, Nat.reduceEqDiff, ↓reduceIte])
                obtain ⟨s193, hs193, hP⟩ := bind_cases hP
                refine slO_of hs193 ?_
                (try simp only [go_sem, Nat.reduceEqDiff, ↓reduceIte])
                obtain ⟨r195, hr194, hP⟩ := bind_cases hP
                refine call_pt [2, 3, 4, 5] [(1, .view 1 (List.map (encI .i64) cuts2)), (8, .own 0 0 0 (List.length j46.1)), (9, .own 1 0 0 (List.length ((j46.2 ++ r47) ++ behind3))), (11, .int .i64 ((List.length (j46.2 ++ r47) : Nat) : Int)), (12, .bptr 2 0), (13, .own 6 0 0 (List.length l135)), (14, .int .i64 at126), (15, .int .i64 i127), (16, .int .i64 j192)] [.slice 0 5 1 (List.map encB j46.1), .slice 0 5 1 (List.map encB ((j46.2 ++ r47) ++ behind3)), .box 46 [.iface 48 (.bptr 3 0), .own 5 0 0 (List.length ([] : List UInt8)), .int .i64 r195.2.1, .bool r195.2.2.1, .int .i64 r195.2.2.2.1], .box 50 [.own 4 0 0 (List.length r195.2.2.2.2.2.2.2.1), .int .i64 r195.2.2.2.2.1, .bool r195.2.2.2.2.2.1, .int .i64 r195.2.2.2.2.2.2.1], .slice 0 5 1 (List.map encB r195.2.2.2.2.2.2.2.1), .slice 0 5 1 (List.map encB ([] : List UInt8)), .slice 0 5 1 (List.map encB l135), .slice 0 5 1 (List.map encB r195.2.2.2.2.2.2.2.2)] (.tup [.own 7 0 0 (List.length r195.2.2.2.2.2.2.2.2), .int .i64 r195.1]) (chunk_Reader_Take_ok hr194) ⟨argP_r (by rfl), argP_o (by decide) (by simp only [arg, own_cut hs193, go_sem, Nat.reduceEqDiff, ↓reduceIte]), trivial⟩ (told_of (sm [0, 1, 7, 8, 9, 10, 6, 11])) ?_
                (try simp only [go_sem, Nat.reduceEqDiff, ↓reduceIte])
                refine hold2 (then_n ?_)
                refine J_seq ?_
                refine J_region (by kernel_rfl) ?_
                (try simp only [go_sem, Nat.reduceEqDiff, ↓reduceIte])
                obtain ⟨_, hz196, hP⟩ := bind_cases hP
                refine app_own (f := encB) (l135 : List (UInt8)) (r195.2.2.2.2.2.2.2.2 : List (UInt8)) rfl tyS_22 (by decide) (by simp only [go_sem, Nat.reduceEqDiff, ↓reduceIte]; first | done | rfl | exact ⟨rfl, rfl⟩) hz196 ?_
                (try simp only [go_sem, Nat.reduceEqDiff, ↓reduceIte])
                refine hold2 (then_n ?_)
                refine J_seq ?_
                refine J_region (by kernel_rfl) ?_
                (try simp only [go_sem, Nat.reduceEqDiff, ↓reduceIte])
                refine hold2 (then_n ?_)
                refine J_seq ?_
                refine J_region (by kernel_rfl) ?_
                (try simp only [go_sem, Nat.reduceEqDiff, ↓reduceIte])
                refine hold2 (then_n ?_)
                refine J_condV rfl ?_
                (try simp only [go_sem, Nat.reduceEqDiff, ↓reduceIte])
                rcases ite_cases hP with ⟨hc, hP⟩ | ⟨hc, hP⟩
                · refine condV_t hc ?_
                  refine J_exit (block_ne (by decide) (then_exit (loop_exit (block_eq ?_))))
                  exact join_n (iadd .i64 at126 r195.1, r195.2.1, r195.2.2.1, r195.2.2.2.1, r195.2.2.2.2.1, r195.2.2.2.2.2.1, r195.2.2.2.2.2.2.1, r195.2.2.2.2.2.2.2.1, l135 ++ r195.2.2.2.2.2.2.2.2) (Option.some.inj hP) (so [0, 2, 3, 4, 5, 6])
                · refine condV_f hc ?_
                  refine J_skip (block_n (then_n ?_))
                  refine J_region (by kernel_rfl) ?_
                  (try simp only [go_sem, Nat.reduceEqDiff, ↓reduceIte])
                  refine hold2 ?_
                  exact loop_n (k136, iadd .i64 at126 r195.1, iadd .i64 i127 1, r195.2.1, r195.2.2.1, r195.2.2.2.1, r195.2.2.2.2.1, r195.2.2.2.2.2.1, r195.2.2.2.2.2.2.1, r195.2.2.2.2.2.2.2.1, l135 ++ r195.2.2.2.2.2.2.2.2) hP (Nat.lt_succ_self _) (so [0, 1, 2, 3, 4, 5, 6])
            · refine condV_f hc ?_
              refine J_exit (then_exit (loop_exit (block_eq ?_)))
              exact join_n (at126, l128, l129, l130, l131, l132, l133, l134, l135) (Option.some.inj hP) (so [0, 2, 3, 4, 5, 6])
        · intro j198 hs
          subst hs
          have hP := hQ166
          clear hQ166
          refine then_n ?_
          refine J_seq ?_
          refine J_region (by kernel_rfl) ?_
          (try simp only [go_sem, Nat.reduceEqDiff, ↓reduceIte])
          first | refine bytesK_map ?_ | refine bytesK_of j198.2.2.2.2.2.2.2.2 rfl ?_
          (try simp only [go_sem, Nat.reduceEqDiff, ↓reduceIte])
          first | refine bytesK_map ?_ | refine bytesK_of j46.1 rfl ?_
          (try simp only [go_sem, Nat.reduceEqDiff, ↓reduceIte])
          rcases ite_cases hP with ⟨hc, hP⟩ | ⟨hc, hP⟩
          · refine guard_is hc ?_
            (try simp only [go_sem, Nat.reduceEqDiff, ↓reduceIte])
            rcases ite_cases hP with ⟨hc, hP⟩ | ⟨hc, hP⟩
            · refine guard_is hc ?_
              (try conv => arg 5; simp only [go_sem, Nat.reduceEqDiff, ↓reduceIte])
              (try simp only [go_sem, Nat.reduceEqDiff, ↓reduceIte])
              obtain ⟨r199, hr199, hP⟩ := bind_cases hP
              refine call_ok [.vptr (.agg [.dead, .view 1 (List.map encB ([] : List UInt8)), .int .i64 j198.2.1, .bool j198.2.2.1, .int .i64 j198.2.2.2.1]) 0] (chunk_Reader_Done_ok hr199) ⟨argR_box rfl ⟨argC_d, argC_m false (by simp only [arg, go_sem, Nat.reduceEqDiff, ↓reduceIte]), argC_m false rfl, argC_m false rfl, argC_m false rfl, trivial⟩, trivial⟩ ?_
              (try simp only [go_sem, Nat.reduceEqDiff, ↓reduceIte])
              rcases ite_cases hP with ⟨hc, hP⟩ | ⟨hc, hP⟩
              · refine guard_is hc ?_
                (try conv => arg 5; simp only [go_sem, Nat.reduceEqDiff, ↓reduceIte])
                (try simp only [go_sem, Nat.reduceEqDiff, ↓reduceIte])
                obtain ⟨r200, hr200, hP⟩ := bind_cases hP
                refine call_ok [.vptr (.agg [.dead, .view 1 (List.map encB ([] : List UInt8)), .int .i64 j198.2.1, .bool j198.2.2.1, .int .i64 j198.2.2.2.1]) 0] (chunk_Reader_Err_ok hr200) ⟨argR_box rfl ⟨argC_d, argC_m false (by simp only [arg, go_sem, Nat.reduceEqDiff, ↓reduceIte]), argC_m false rfl, argC_m false rfl, argC_m false rfl, trivial⟩, trivial⟩ ?_
                (try simp only [go_sem, Nat.reduceEqDiff, ↓reduceIte])
                refine hold2 (then_n ?_)
                refine J_ret (fin_ret ?_)
                obtain rfl := Option.some.inj hP
                (try simp only [go_sem, Nat.reduceEqDiff, ↓reduceIte])
                exact fo []
              · refine guard_not hc ?_
                (try conv => arg 5; simp only [go_sem, Nat.reduceEqDiff, ↓reduceIte])
                (try simp only [go_sem, Nat.reduceEqDiff, ↓reduceIte])
                refine hold2 (then_n ?_)
                refine J_ret (fin_ret ?_)
                obtain rfl := Option.some.inj hP
                (try simp only [go_sem, Nat.reduceEqDiff, ↓reduceIte])
                exact fo []
            · refine guard_not hc ?_
              (try conv => arg 5; simp only [go_sem, Nat.reduceEqDiff, ↓reduceIte])
              (try simp only [go_sem, Nat.reduceEqDiff, ↓reduceIte])
              refine hold2 (then_n ?_)
              refine J_ret (fin_ret ?_)
              obtain rfl := Option.some.inj hP
              (try simp only [go_sem, Nat.reduceEqDiff, ↓reduceIte])
              exact fo []
          · refine guard_not hc ?_
            (try simp only [go_sem, Nat.reduceEqDiff, ↓reduceIte])
            refine hold2 (then_n ?_)
            refine J_ret (fin_ret ?_)
            obtain rfl := Option.some.inj hP
            (try simp only [go_sem, Nat.reduceEqDiff, ↓reduceIte])
            exact fo []
end Go.Proofs.YtfhlehkgiamejaaGreatDoor
