/- Functions of the program, and pure ones that go the same ways: that the program's return what these compute. -/
import Derived.Test.YtfhlehkgiamejaaGreatDoorGCc
import Derived.Test.YtfhlehkgiamejaaGreatDoorAvY
import Derived.Test.YtfhlehkgiamejaaGreatDoorAvPj
namespace Go.Proofs.YtfhlehkgiamejaaGreatDoor
open Go.Av
set_option linter.unusedVariables false
set_option linter.unusedSimpArgs false
/-- (*colander/chunk.chunked).size$1 -/
def chunk_chunked_size_1 (x1 : Int) : Option (Bool) :=
  if decide (x1 < 32) then
    if !decide (x1 = 9) then
      some true
    else
      some (decide (x1 = 127))
  else
    some (decide (x1 = 127))
set_option maxRecDepth 100000 in
set_option maxHeartbeats 40000000 in
theorem chunk_chunked_size_1_ok {x1 : Int} {r : Bool} (hP : chunk_chunked_size_1 x1 = some r) : CallOK Tryz.prog 64 [.int .i32 x1] (.bool r) [] := by
  unfold chunk_chunked_size_1 at hP
  refine co 13 [.tmp 2] Tryz.func64 ?_
  refine J_seq ?_
  refine J_region (by kernel_rfl) ?_
  (try simp only [go_sem, Nat.reduceEqDiff, ↓reduceIte])
  refine hold2 (then_n ?_)
  refine J_seq ?_
  refine J_region (by kernel_rfl) ?_
  (try simp only [go_sem, Nat.reduceEqDiff, ↓reduceIte])
  rcases ite_cases hP with ⟨hc, hP⟩ | ⟨hc, hP⟩
  · refine guard_is hc ?_
    (try simp only [go_sem, Nat.reduceEqDiff, ↓reduceIte])
    rcases ite_cases hP with ⟨hc, hP⟩ | ⟨hc, hP⟩
    · refine guard_not hc ?_
      (try simp only [go_sem, Nat.reduceEqDiff, ↓reduceIte])
      refine hold2 (then_n ?_)
      refine J_ret (fin_ret ?_)
      obtain rfl := Option.some.inj hP
      (try simp only [go_sem, Nat.reduceEqDiff, ↓reduceIte])
      exact fo []
    · refine guard_is hc ?_
      (try simp only [go_sem, Nat.reduceEqDiff, ↓reduceIte])
      refine hold2 (then_n ?_)
      refine J_ret (fin_ret ?_)
      obtain rfl := Option.some.inj hP
      (try simp only [go_sem, Nat.reduceEqDiff, ↓reduceIte])
      exact fo []
  · refine guard_not hc ?_
    (try simp only [go_sem, Nat.reduceEqDiff, ↓reduceIte])
    refine hold2 (then_n ?_)
    refine J_ret (fin_ret ?_)
    obtain rfl := Option.some.inj hP
    (try simp only [go_sem, Nat.reduceEqDiff, ↓reduceIte])
    exact fo []
/-- colander/chunk.Chunk -/
def chunk_Chunk (b1 : List (UInt8)) : Option ((List (UInt8))) :=
  if decide ((List.length b1 : Int) = 0) then
    some ([] : List UInt8)
  else
    (num_Hexes (List.length b1 : Int)).bind fun r2 =>
    (szC (List.length (r2 ++ [13, 10]))).bind fun _ =>
    (szC (List.length ((r2 ++ [13, 10]) ++ b1))).bind fun _ =>
    (szC (List.length (((r2 ++ [13, 10]) ++ b1) ++ [13, 10]))).bind fun _ =>
    (szC (List.length (((r2 ++ [13, 10]) ++ b1) ++ [13, 10]))).bind fun _ =>
    some (((r2 ++ [13, 10]) ++ b1) ++ [13, 10])
set_option maxRecDepth 100000 in
set_option maxHeartbeats 40000000 in
theorem chunk_Chunk_ok {b1 : List (UInt8)} {r : (List (UInt8))} (hP : chunk_Chunk b1 = some r) : CallOK Tryz.prog 8 [.view 1 (List.map encB b1)] (.own 0 0 0 (List.length r)) [.slice 0 5 1 (List.map encB r)] := by
  unfold chunk_Chunk at hP
  refine co 15 [.tmp 2] Tryz.func8 ?_
  refine J_seq ?_
  refine J_region (by kernel_rfl) ?_
  (try simp only [go_sem, Nat.reduceEqDiff, ↓reduceIte])
  refine hold2 (then_n ?_)
  refine J_seq ?_
  refine J_seq ?_
  refine J_region (by kernel_rfl) ?_
  (try simp only [go_sem, Nat.reduceEqDiff, ↓reduceIte])
  refine hold2 (then_n ?_)
  refine J_condV rfl ?_
  (try simp only [go_sem, Nat.reduceEqDiff, ↓reduceIte])
  rcases ite_cases hP with ⟨hc, hP⟩ | ⟨hc, hP⟩
  · refine condV_t hc ?_
    refine J_seq ?_
    refine J_region (by kernel_rfl) ?_
    (try simp only [go_sem, Nat.reduceEqDiff, ↓reduceIte])
    refine hold2 (then_n ?_)
    refine J_ret (then_ret (fin_ret ?_))
    obtain rfl := Option.some.inj hP
    (try simp only [go_sem, Nat.reduceEqDiff, ↓reduceIte])
    exact fo [1]
  · refine condV_f hc ?_
    refine J_skip (then_n ?_)
    refine J_seq ?_
    refine J_regionT [(0, none), (4, none), (1, some [2, 3, 6, 7, 8, 9]), (5, some [6, 7, 8, 9])] (.early 2 (.early 3 (.early 6 (.early 7 (.step 8 (.early 9 (.done))))))) [8] [2, 6, 7, 8, 9, 10, 11, 12, 13, 14] follows_mixed (by kernel_rfl) (by kernel_rfl) (by kernel_rfl) (by kernel_rfl) (by kernel_rfl) (by kernel_rfl) ?_
    simp only [pickT_cons, pickT_nil, go_sem, Nat.reduceEqDiff, ↓reduceIte]
    (try simp only [go_sem, Nat.reduceEqDiff, ↓reduceIte])
    first | refine bytesK_map ?_ | refine bytesK_of b1 rfl ?_
    (try simp only [go_sem, Nat.reduceEqDiff, ↓reduceIte])
    obtain ⟨r2, hr2, hP⟩ := bind_cases hP
    refine callE_ok [.int .i64 (List.length b1 : Int)] (num_Hexes_ok hr2) ⟨argR_m false rfl, trivial⟩ ?_
    (try simp only [go_sem, Nat.reduceEqDiff, ↓reduceIte])
    obtain ⟨_, hz3, hP⟩ := bind_cases hP
    refine chk_of (by first | exact szC_63 hz3 | (have q := szC_63 hz3; simp only [List.length_append, List.length_cons, List.length_nil] at q ⊢; omega)) ?_
    (try simp only [go_sem, Nat.reduceEqDiff, ↓reduceIte])
    obtain ⟨_, hz4, hP⟩ := bind_cases hP
    refine chk_of (by first | exact szC_63 hz4 | (have q := szC_63 hz4; simp only [List.length_append, List.length_cons, List.length_nil] at q ⊢; omega)) ?_
    (try simp only [go_sem, Nat.reduceEqDiff, ↓reduceIte])
    obtain ⟨_, hz5, hP⟩ := bind_cases hP
    refine chk_of (by first | exact szC_63 hz5 | (have q := szC_63 hz5; simp only [List.length_append, List.length_cons, List.length_nil] at q ⊢; omega)) ?_
    (try simp only [go_sem, Nat.reduceEqDiff, ↓reduceIte])
    obtain ⟨_, hz6, hP⟩ := bind_cases hP
    refine chk_of (szC_63 hz6) ?_
    (try simp only [go_sem, Nat.reduceEqDiff, ↓reduceIte])
    refine hold2 (then_n ?_)
    refine J_ret (fin_ret ?_)
    obtain rfl := Option.some.inj hP
    (try simp only [go_sem, Nat.reduceEqDiff, ↓reduceIte])
    exact fo [1]
/-- colander/chunk.Last -/
def chunk_Last : Option ((List (UInt8))) :=
  some [(bC 48), (bC 13), (bC 10), (bC 13), (bC 10)]
set_option maxRecDepth 100000 in
set_option maxHeartbeats 40000000 in
theorem chunk_Last_ok {r : (List (UInt8))} (hP : chunk_Last = some r) : CallOK Tryz.prog 9 [] (.own 0 0 0 (List.length r)) [.slice 0 5 1 (List.map encB r)] := by
  unfold chunk_Last at hP
  refine co 3 [.tmp 0] Tryz.func9 ?_
  refine J_seq ?_
  refine J_region (by kernel_rfl) ?_
  (try simp only [go_sem, Nat.reduceEqDiff, ↓reduceIte])
  refine hold2 (then_n ?_)
  refine J_seq ?_
  refine J_region (by kernel_rfl) ?_
  (try simp only [go_sem, Nat.reduceEqDiff, ↓reduceIte])
  refine hold2 (then_n ?_)
  refine J_ret (fin_ret ?_)
  obtain rfl := Option.some.inj hP
  (try simp only [go_sem, Nat.reduceEqDiff, ↓reduceIte])
  exact fo [1]
/-- (*colander/chunk.Reader).Done -/
def chunk_Reader_Done (r1 : Unit × (List (UInt8)) × Int × Bool × Int) : Option (Bool) :=
  some r1.2.2.2.1
set_option maxRecDepth 100000 in
set_option maxHeartbeats 40000000 in
theorem chunk_Reader_Done_ok {r1 : Unit × (List (UInt8)) × Int × Bool × Int} {r : Bool} (hP : chunk_Reader_Done r1 = some r) : CallOK Tryz.prog 14 [.vptr (.agg [.dead, .view 1 (List.map encB r1.2.1), .int .i64 r1.2.2.1, .bool r1.2.2.2.1, .int .i64 r1.2.2.2.2]) 0] (.bool r) [] := by
  unfold chunk_Reader_Done at hP
  refine co 7 [.tmp 2] Tryz.func14 ?_
  refine J_seq ?_
  refine J_region (by kernel_rfl) ?_
  (try simp only [go_sem, Nat.reduceEqDiff, ↓reduceIte])
  refine hold2 (then_n ?_)
  refine J_seq ?_
  refine J_region (by kernel_rfl) ?_
  (try simp only [go_sem, Nat.reduceEqDiff, ↓reduceIte])
  refine hold2 (then_n ?_)
  refine J_ret (fin_ret ?_)
  obtain rfl := Option.some.inj hP
  (try simp only [go_sem, Nat.reduceEqDiff, ↓reduceIte])
  exact fo []
/-- (*colander/chunk.Reader).Err -/
def chunk_Reader_Err (r1 : Unit × (List (UInt8)) × Int × Bool × Int) : Option (Int) :=
  some r1.2.2.2.2
set_option maxRecDepth 100000 in
set_option maxHeartbeats 40000000 in
theorem chunk_Reader_Err_ok {r1 : Unit × (List (UInt8)) × Int × Bool × Int} {r : Int} (hP : chunk_Reader_Err r1 = some r) : CallOK Tryz.prog 15 [.vptr (.agg [.dead, .view 1 (List.map encB r1.2.1), .int .i64 r1.2.2.1, .bool r1.2.2.2.1, .int .i64 r1.2.2.2.2]) 0] (.int .i64 r) [] := by
  unfold chunk_Reader_Err at hP
  refine co 7 [.tmp 2] Tryz.func15 ?_
  refine J_seq ?_
  refine J_region (by kernel_rfl) ?_
  (try simp only [go_sem, Nat.reduceEqDiff, ↓reduceIte])
  refine hold2 (then_n ?_)
  refine J_seq ?_
  refine J_region (by kernel_rfl) ?_
  (try simp only [go_sem, Nat.reduceEqDiff, ↓reduceIte])
  refine hold2 (then_n ?_)
  refine J_ret (fin_ret ?_)
  obtain rfl := Option.some.inj hP
  (try simp only [go_sem, Nat.reduceEqDiff, ↓reduceIte])
  exact fo []
end Go.Proofs.YtfhlehkgiamejaaGreatDoor
