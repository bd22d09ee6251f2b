/- Functions of the program, and pure ones that go the same ways: that the program's return what these compute. -/
import Derived.Test.YtbcmngnmfneeaaaDoorGB
import Derived.Test.YtbcmngnmfneeaaaDoorAvPj
namespace Go.Proofs.YtbcmngnmfneeaaaDoor
open Go.Av
set_option linter.unusedVariables false
set_option linter.unusedSimpArgs false
/-- colander/fields.All -/
def fields_All_L17 (l1 : List ((List UInt8) × (List UInt8))) (name2 : List UInt8) : Nat → Int → (List (List UInt8)) → Option ((List (List UInt8)))
  | 0, _, _ => none
  | k14 + 1, v12, l13 =>
    if decide (v12 < (List.length l1 : Int)) then
      (ixL l1 v12).bind fun x18 =>
      (lex_Same x18.1 name2).bind fun r19 =>
      if r19 then
        (szC (16 * List.length (l13 ++ [x18.2] : List (List UInt8)))).bind fun _ =>
        fields_All_L17 l1 name2 k14 (iadd .i64 v12 1) (l13 ++ [x18.2])
      else
        fields_All_L17 l1 name2 k14 (iadd .i64 v12 1) l13
    else
      some l13
def fields_All (l1 : List ((List UInt8) × (List UInt8))) (name2 : List UInt8) : Option ((List (List UInt8))) :=
  (fields_All_L17 l1 name2 140737488355328 0 ([] : List (List UInt8))).bind fun j22 =>
    some j22
set_option maxRecDepth 100000 in
set_option maxHeartbeats 40000000 in
theorem fields_All_ok {l1 : List ((List UInt8) × (List UInt8))} {name2 : List UInt8} {r : (List (List UInt8))} (hP : fields_All l1 name2 = some r) : CallOK Tryd.prog 36 [.view 2 (List.map enc_api_Field l1), .str name2] (.own 0 0 0 (List.length r)) [.slice 0 9 1 (List.map encS r)] := by
  unfold fields_All at hP
  refine co 25 [.tmp 4] Tryd.func36 ?_
  refine J_seq ?_
  refine J_region (by kernel_rfl) ?_
  (try simp only [go_sem, Nat.reduceEqDiff, ↓reduceIte])
  refine hold2 (then_n ?_)
  refine J_seq ?_
  refine J_region (by kernel_rfl) ?_
  (try simp only [go_sem, Nat.reduceEqDiff, ↓reduceIte])
  refine hold2 (then_n ?_)
  refine J_seq ?_
  refine J_seq ?_
  refine J_region (by kernel_rfl) ?_
  (try simp only [go_sem, Nat.reduceEqDiff, ↓reduceIte])
  refine hold2 (then_n ?_)
  obtain ⟨o21, hP, hQ17⟩ := bind_cases hP
  refine J_joinK0 (fun (s : (List (List UInt8))) => envL [(5, .own 0 0 0 (List.length s))]) (fun (s : (List (List UInt8))) => [.slice 0 9 1 (List.map encS s)]) (fun s => s = o21) ?_ ?_
  · clear hQ17
    refine J_block ?_
    refine J_loop (σ := Nat × Int × (List (List UInt8))) (fun (s : Nat × Int × (List (List UInt8))) => envL [(1, .str name2), (5, .own 0 0 0 (List.length s.2.2)), (8, .view 2 (List.map enc_api_Field l1)), (9, .int .i64 (List.length l1 : Int)), (10, .int .i64 s.2.1)]) (fun (s : Nat × Int × (List (List UInt8))) => [.slice 0 9 1 (List.map encS s.2.2)]) (fun s => fields_All_L17 l1 name2 s.1 s.2.1 s.2.2 = some o21) (fun s => s.1) (140737488355328, 0, ([] : List (List UInt8))) hP (so [1]) ?_
    rintro ⟨k14, v12, l13⟩ hP
    dsimp only at hP ⊢
    cases k14 with
    | zero => simp [fields_All_L17] at hP
    | succ k14 =>
      simp only [fields_All_L17] at hP
      refine J_seq ?_
      refine J_region (by kernel_rfl) ?_
      (try simp only [go_sem, Nat.reduceEqDiff, ↓reduceIte])
      refine hold2 (then_n ?_)
      refine J_seq ?_
      refine J_condV rfl ?_
      (try simp only [go_sem, Nat.reduceEqDiff, ↓reduceIte])
      rcases ite_cases hP with ⟨hc, hP⟩ | ⟨hc, hP⟩
      · refine condV_t hc ?_
        refine J_skip (then_n ?_)
        refine J_seq ?_
        refine J_block ?_
        refine J_seq ?_
        refine J_region (by kernel_rfl) ?_
        (try simp only [go_sem, Nat.reduceEqDiff, ↓reduceIte])
        obtain ⟨x18, hx18, hP⟩ := bind_cases hP
        refine ixV_of hx18 ?_
        (try simp only [go_sem, Nat.reduceEqDiff, ↓reduceIte])
        refine hold2 (then_n ?_)
        refine J_seq ?_
        refine J_region (by kernel_rfl) ?_
        (try simp only [go_sem, Nat.reduceEqDiff, ↓reduceIte])
        obtain ⟨r19, hr19, hP⟩ := bind_cases hP
        refine call_ok [.str x18.1, .str name2] (lex_Same_ok hr19) ⟨argR_m false rfl, argR_m false rfl, trivial⟩ ?_
        (try simp only [go_sem, Nat.reduceEqDiff, ↓reduceIte])
        refine hold2 (then_n ?_)
        refine J_condV rfl ?_
        (try simp only [go_sem, Nat.reduceEqDiff, ↓reduceIte])
        rcases ite_cases hP with ⟨hc, hP⟩ | ⟨hc, hP⟩
        · refine condV_t hc ?_
          refine J_region (by kernel_rfl) ?_
          (try simp only [go_sem, Nat.reduceEqDiff, ↓reduceIte])
          obtain ⟨_, hz20, hP⟩ := bind_cases hP
          refine app_ownW (f := encS) (l13 : List (List UInt8)) ([x18.2] : List (List UInt8)) rfl tyS_82 (by decide) (by simp only [go_sem, Nat.reduceEqDiff, ↓reduceIte]; first | done | rfl | exact ⟨rfl, rfl⟩) hz20 ?_
          (try simp only [go_sem, Nat.reduceEqDiff, ↓reduceIte])
          refine hold2 (block_n (then_n ?_))
          refine J_region (by kernel_rfl) ?_
          (try simp only [go_sem, Nat.reduceEqDiff, ↓reduceIte])
          refine hold2 ?_
          exact loop_n (k14, iadd .i64 v12 1, l13 ++ [x18.2]) hP (Nat.lt_succ_self _) (so [0])
        · refine condV_f hc ?_
          refine J_skip (block_n (then_n ?_))
          refine J_region (by kernel_rfl) ?_
          (try simp only [go_sem, Nat.reduceEqDiff, ↓reduceIte])
          refine hold2 ?_
          exact loop_n (k14, iadd .i64 v12 1, l13) hP (Nat.lt_succ_self _) (so [0])
      · refine condV_f hc ?_
        refine J_exit (then_exit (loop_exit (block_eq ?_)))
        exact join_n l13 (Option.some.inj hP) (so [0])
  · intro j22 hs
    subst hs
    have hP := hQ17
    clear hQ17
    refine then_n ?_
    refine J_seq ?_
    refine J_region (by kernel_rfl) ?_
    (try simp only [go_sem, Nat.reduceEqDiff, ↓reduceIte])
    refine hold2 (then_n ?_)
    refine J_ret (fin_ret ?_)
    obtain rfl := Option.some.inj hP
    (try simp only [go_sem, Nat.reduceEqDiff, ↓reduceIte])
    exact fo [0]
end Go.Proofs.YtbcmngnmfneeaaaDoor
