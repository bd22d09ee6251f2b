/- Functions of the program, and pure ones that go the same ways: that the program's return what these compute. -/
import Derived.Test.YtfhlehkgiamejaaGreatDoorLibM
import Derived.Test.YtfhlehkgiamejaaGreatDoorAvPj
namespace Go.Proofs.YtfhlehkgiamejaaGreatDoor
open Go.Av
set_option linter.unusedVariables false
set_option linter.unusedSimpArgs false
/-- colander/colanderref02.text -/
def ref02_text_L17 (base2 : Int) : Nat → Int → (List UInt8) → Option ((List UInt8))
  | 0, _, _ => none
  | k13 + 1, n11, s12 =>
    if decide (base2 ≤ n11) then
      (chk (decide (base2 ≠ 0))).bind fun _ =>
      (chk (decide (base2 ≠ 0))).bind fun _ =>
      (ixL [48, 49, 50, 51, 52, 53, 54, 55, 56, 57, 97, 98, 99, 100, 101, 102] (irem (iquo .i64 n11 base2) base2)).bind fun c20 =>
      (szC (List.length ([c20] ++ s12))).bind fun _ =>
      ref02_text_L17 base2 k13 (iquo .i64 n11 base2) ([c20] ++ s12)
    else
      some s12
def ref02_text (n1 : Int) (base2 : Int) : Option ((List UInt8)) :=
  if decide (n1 < 0) then
    some []
  else
    (chk (decide (base2 ≠ 0))).bind fun _ =>
    (ixL [48, 49, 50, 51, 52, 53, 54, 55, 56, 57, 97, 98, 99, 100, 101, 102] (irem n1 base2)).bind fun c4 =>
    (ref02_text_L17 base2 140737488355328 n1 [c4]).bind fun j23 =>
      some j23
set_option maxRecDepth 100000 in
set_option maxHeartbeats 40000000 in
theorem ref02_text_ok {n1 : Int} {base2 : Int} {r : (List UInt8)} (hP : ref02_text n1 base2 = some r) : CallOK Tryz.prog 20 [.int .i64 n1, .int .i64 base2] (.str r) [] := by
  unfold ref02_text at hP
  refine co 32 [.tmp 4] Tryz.func20 ?_
  refine J_seq ?_
  refine J_region (by kernel_rfl) ?_
  (try simp only [go_sem, Nat.reduceEqDiff, ↓reduceIte])
  refine hold2 (then_n ?_)
  refine J_seq ?_
  refine J_seq ?_
  refine J_region (by kernel_rfl) ?_
  (try simp only [go_sem, Nat.reduceEqDiff, ↓reduceIte])
  refine hold2 (then_n ?_)
  refine J_condV rfl ?_
  (try simp only [go_sem, Nat.reduceEqDiff, ↓reduceIte])
  rcases ite_cases hP with ⟨hc, hP⟩ | ⟨hc, hP⟩
  · refine condV_t hc ?_
    refine J_seq ?_
    refine J_region (by kernel_rfl) ?_
    (try simp only [go_sem, Nat.reduceEqDiff, ↓reduceIte])
    refine hold2 (then_n ?_)
    refine J_ret (then_ret (fin_ret ?_))
    obtain rfl := Option.some.inj hP
    (try simp only [go_sem, Nat.reduceEqDiff, ↓reduceIte])
    exact fo []
  · refine condV_f hc ?_
    refine J_skip (then_n ?_)
    refine J_seq ?_
    refine J_region (by kernel_rfl) ?_
    (try simp only [go_sem, Nat.reduceEqDiff, ↓reduceIte])
    refine hold2 (then_n ?_)
    refine J_seq ?_
    refine J_region (by kernel_rfl) ?_
    (try simp only [go_sem, Nat.reduceEqDiff, ↓reduceIte])
    obtain ⟨_, hz3, hP⟩ := bind_cases hP
    refine chk_of (chk_prop hz3) ?_
    (try simp only [go_sem, Nat.reduceEqDiff, ↓reduceIte])
    obtain ⟨c4, hc4, hP⟩ := bind_cases hP
    refine ixS_of hc4 ?_
    (try simp only [go_sem, Nat.reduceEqDiff, ↓reduceIte])
    first | refine bytesK_map ?_ | refine bytesK_of [c4] rfl ?_
    (try simp only [go_sem, Nat.reduceEqDiff, ↓reduceIte])
    refine hold2 (then_n ?_)
    refine J_seq ?_
    obtain ⟨o22, hP, hQ17⟩ := bind_cases hP
    refine J_joinK0 (fun (s : (List UInt8)) => envL [(6, .str s)]) (fun (s : (List UInt8)) => []) (fun s => s = o22) ?_ ?_
    · clear hQ17
      refine J_block ?_
      refine J_loop (σ := Nat × Int × (List UInt8)) (fun (s : Nat × Int × (List UInt8)) => envL [(0, .int .i64 s.2.1), (1, .int .i64 base2), (5, .str [48, 49, 50, 51, 52, 53, 54, 55, 56, 57, 97, 98, 99, 100, 101, 102]), (6, .str s.2.2)]) (fun (s : Nat × Int × (List UInt8)) => []) (fun s => ref02_text_L17 base2 s.1 s.2.1 s.2.2 = some o22) (fun s => s.1) (140737488355328, n1, [c4]) hP (so []) ?_
      rintro ⟨k13, n11, s12⟩ hP
      dsimp only at hP ⊢
      cases k13 with
      | zero => simp [ref02_text_L17] at hP
      | succ k13 =>
        simp only [ref02_text_L17] at hP
        refine J_seq ?_
        refine J_seq ?_
        refine J_region (by kernel_rfl) ?_
        (try simp only [go_sem, Nat.reduceEqDiff, ↓reduceIte])
        refine hold2 (then_n ?_)
        refine J_condV rfl ?_
        (try simp only [go_sem, Nat.reduceEqDiff, ↓reduceIte])
        rcases ite_cases hP with ⟨hc, hP⟩ | ⟨hc, hP⟩
        · refine condV_t hc ?_
          refine J_skip (then_n ?_)
          refine J_block ?_
          refine J_seq ?_
          refine J_region (by kernel_rfl) ?_
          (try simp only [go_sem, Nat.reduceEqDiff, ↓reduceIte])
          obtain ⟨_, hz18, hP⟩ := bind_cases hP
          refine chk_of (chk_prop hz18) ?_
          (try simp only [go_sem, Nat.reduceEqDiff, ↓reduceIte])
          refine hold2 (then_n ?_)
          refine J_region (by kernel_rfl) ?_
          (try simp only [go_sem, Nat.reduceEqDiff, ↓reduceIte])
          obtain ⟨_, hz19, hP⟩ := bind_cases hP
          refine chk_of (chk_prop hz19) ?_
          (try simp only [go_sem, Nat.reduceEqDiff, ↓reduceIte])
          obtain ⟨c20, hc20, hP⟩ := bind_cases hP
          refine ixS_of hc20 ?_
          (try simp only [go_sem, Nat.reduceEqDiff, ↓reduceIte])
          first | refine bytesK_map ?_ | refine bytesK_of [c20] rfl ?_
          (try simp only [go_sem, Nat.reduceEqDiff, ↓reduceIte])
          obtain ⟨_, hz21, hP⟩ := bind_cases hP
          refine chk_of (by first | exact szC_63 hz21 | (have q := szC_63 hz21; simp only [List.length_append, List.length_cons, List.length_nil] at q ⊢; omega)) ?_
          (try simp only [go_sem, Nat.reduceEqDiff, ↓reduceIte])
          refine hold2 (block_n ?_)
          exact loop_n (k13, iquo .i64 n11 base2, ([c20] ++ s12)) hP (Nat.lt_succ_self _) (so [])
        · refine condV_f hc ?_
          refine J_exit (then_exit (loop_exit (block_eq ?_)))
          exact join_n s12 (Option.some.inj hP) (so [])
    · intro j23 hs
      subst hs
      have hP := hQ17
      clear hQ17
      refine then_n ?_
      refine J_seq ?_
      refine J_region (by kernel_rfl) ?_
      (try simp only [go_sem, Nat.reduceEqDiff, ↓reduceIte])
      refine hold2 (then_n ?_)
      refine J_ret (fin_ret ?_)
      obtain rfl := Option.some.inj hP
      (try simp only [go_sem, Nat.reduceEqDiff, ↓reduceIte])
      exact fo []
/-- colander/colanderref02.Hexes -/
def ref02_Hexes (n1 : Int) : Option ((List UInt8)) :=
  (ref02_text n1 16).bind fun r2 =>
  some r2
set_option maxRecDepth 100000 in
set_option maxHeartbeats 40000000 in
theorem ref02_Hexes_ok {n1 : Int} {r : (List UInt8)} (hP : ref02_Hexes n1 = some r) : CallOK Tryz.prog 18 [.int .i64 n1] (.str r) [] := by
  unfold ref02_Hexes at hP
  refine co 5 [.tmp 2] Tryz.func18 ?_
  refine J_seq ?_
  refine J_region (by kernel_rfl) ?_
  (try simp only [go_sem, Nat.reduceEqDiff, ↓reduceIte])
  refine hold2 (then_n ?_)
  refine J_seq ?_
  refine J_region (by kernel_rfl) ?_
  (try simp only [go_sem, Nat.reduceEqDiff, ↓reduceIte])
  obtain ⟨r2, hr2, hP⟩ := bind_cases hP
  refine call_ok [.int .i64 n1, .int .i64 16] (ref02_text_ok hr2) ⟨argR_m false rfl, argR_m false rfl, trivial⟩ ?_
  (try simp only [go_sem, Nat.reduceEqDiff, ↓reduceIte])
  refine hold2 (then_n ?_)
  refine J_ret (fin_ret ?_)
  obtain rfl := Option.some.inj hP
  (try simp only [go_sem, Nat.reduceEqDiff, ↓reduceIte])
  exact fo []
end Go.Proofs.YtfhlehkgiamejaaGreatDoor
