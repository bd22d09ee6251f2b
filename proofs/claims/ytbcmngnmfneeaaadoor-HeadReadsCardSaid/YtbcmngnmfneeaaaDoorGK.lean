/- Functions of the program, and pure ones that go the same ways: that the program's return what these compute. -/
import Derived.Test.YtbcmngnmfneeaaaDoorGCb
import Derived.Test.YtbcmngnmfneeaaaDoorGCc
import Derived.Test.YtbcmngnmfneeaaaDoorAvPj
namespace Go.Proofs.YtbcmngnmfneeaaaDoor
open Go.Av
set_option linter.unusedVariables false
set_option linter.unusedSimpArgs false
/-- (*colander/head.Reader).Done -/
def head_Reader_Done (r1 : (List (UInt8)) × Bool × Int) : Option (Bool) :=
  some r1.2.1
set_option maxRecDepth 100000 in
set_option maxHeartbeats 40000000 in
theorem head_Reader_Done_ok {r1 : (List (UInt8)) × Bool × Int} {r : Bool} (hP : head_Reader_Done r1 = some r) : CallOK Tryd.prog 10 [.vptr (.agg [.view 1 (List.map encB r1.1), .bool r1.2.1, .int .i64 r1.2.2]) 0] (.bool r) [] := by
  unfold head_Reader_Done at hP
  refine co 7 [.tmp 2] Tryd.func10 ?_
  refine J_seq ?_
  refine J_region (by kernel_rfl) ?_
  (try simp only [go_sem, Nat.reduceEqDiff, ↓reduceIte])
  refine hold2 (then_n ?_)
  refine J_seq ?_
  refine J_region (by kernel_rfl) ?_
  (try simp only [go_sem, Nat.reduceEqDiff, ↓reduceIte])
  refine hold2 (then_n ?_)
  refine J_ret (fin_ret ?_)
  obtain rfl := Option.some.inj hP
  (try simp only [go_sem, Nat.reduceEqDiff, ↓reduceIte])
  exact fo []
/-- (*colander/head.Reader).Err -/
def head_Reader_Err (r1 : (List (UInt8)) × Bool × Int) : Option (Int) :=
  some r1.2.2
set_option maxRecDepth 100000 in
set_option maxHeartbeats 40000000 in
theorem head_Reader_Err_ok {r1 : (List (UInt8)) × Bool × Int} {r : Int} (hP : head_Reader_Err r1 = some r) : CallOK Tryd.prog 11 [.vptr (.agg [.view 1 (List.map encB r1.1), .bool r1.2.1, .int .i64 r1.2.2]) 0] (.int .i64 r) [] := by
  unfold head_Reader_Err at hP
  refine co 7 [.tmp 2] Tryd.func11 ?_
  refine J_seq ?_
  refine J_region (by kernel_rfl) ?_
  (try simp only [go_sem, Nat.reduceEqDiff, ↓reduceIte])
  refine hold2 (then_n ?_)
  refine J_seq ?_
  refine J_region (by kernel_rfl) ?_
  (try simp only [go_sem, Nat.reduceEqDiff, ↓reduceIte])
  refine hold2 (then_n ?_)
  refine J_ret (fin_ret ?_)
  obtain rfl := Option.some.inj hP
  (try simp only [go_sem, Nat.reduceEqDiff, ↓reduceIte])
  exact fo []
/-- (*colander/head.Reader).Text -/
def head_Reader_Text (r1 : (List (UInt8)) × Bool × Int) : Option ((List UInt8)) :=
  some r1.1
set_option maxRecDepth 100000 in
set_option maxHeartbeats 40000000 in
theorem head_Reader_Text_ok {r1 : (List (UInt8)) × Bool × Int} {r : (List UInt8)} (hP : head_Reader_Text r1 = some r) : CallOK Tryd.prog 12 [.vptr (.agg [.view 1 (List.map encB r1.1), .bool r1.2.1, .int .i64 r1.2.2]) 0] (.str r) [] := by
  unfold head_Reader_Text at hP
  refine co 8 [.tmp 2] Tryd.func12 ?_
  refine J_seq ?_
  refine J_region (by kernel_rfl) ?_
  (try simp only [go_sem, Nat.reduceEqDiff, ↓reduceIte])
  refine hold2 (then_n ?_)
  refine J_seq ?_
  refine J_region (by kernel_rfl) ?_
  (try simp only [go_sem, Nat.reduceEqDiff, ↓reduceIte])
  first | refine bytesK_map ?_ | refine bytesK_of r1.1 rfl ?_
  (try simp only [go_sem, Nat.reduceEqDiff, ↓reduceIte])
  refine hold2 (then_n ?_)
  refine J_ret (fin_ret ?_)
  obtain rfl := Option.some.inj hP
  (try simp only [go_sem, Nat.reduceEqDiff, ↓reduceIte])
  exact fo []
end Go.Proofs.YtbcmngnmfneeaaaDoor
