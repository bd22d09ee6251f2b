/- strings.Builder: what of its methods is told by hand: the check for copies, a character's bytes, the text. The builder is the object i, its buffer the object j, wherever these stand. -/
import Derived.Test.YtfhlehkgiamejaaGreatDoorFa
namespace Go.Proofs.YtfhlehkgiamejaaGreatDoor
open Go.Av
set_option linter.unusedSimpArgs false
set_option linter.unusedVariables false
theorem noesc : NoEsc Tryz.prog 125 := noEsc_of Tryz.func125 (by kernel_rfl) (by kernel_rfl) (by kernel_rfl) (by kernel_rfl)
set_option maxHeartbeats 4000000 in
theorem copyCheck_at {H : List AO} {i : Nat} (u : Bool) {buf : AV} (hi : H[i]? = some (.box 145 [selfC u i, buf])) {E : Env} {K : AV → Env → List AO → Prop} (k : K (.tup []) E (H.set i (.box 145 [.bptr i 0, buf]))) :
    CallIn Tryz.prog 116 [.bptr i 0] H E K := by
  cases u
  · simp only [selfC, Bool.false_eq_true, if_false] at hi
    refine callI_of (n := 20) (rs := []) Tryz.func116 rfl (by decide) rfl rfl (by simp) rfl ?_; refine J_seq ?_
    repeat (first | (with_reducible refine hold2 ?_) | (with_reducible refine J_seq ?_) | (with_reducible refine J_block ?_) | (with_reducible refine then_n ?_) | (with_reducible refine then_ret ?_) | (with_reducible refine then_exit ?_) | (with_reducible refine block_n ?_) | (with_reducible refine block_ret ?_) | (with_reducible refine block_eq ?_) | (with_reducible refine block_ne (by decide) ?_) | (with_reducible refine J_ret ?_) | (with_reducible refine J_exit ?_) | (with_reducible refine J_skip ?_) | (with_reducible refine fin_ret ?_) | (with_reducible refine fin_n ?_) | (with_reducible refine finI_ret ?_) | (with_reducible refine finI_n ?_) | (with_reducible refine finIn_ret ?_) | (with_reducible refine finIn_n ?_) | ((with_reducible refine J_region (by kernel_rfl) ?_); (try simp only [go_sem, Nat.reduceEqDiff, ↓reduceIte, Nat.reduceAdd, Nat.reduceSub, Nat.reduceLT, Nat.reduceMul, reduceCtorEq, Int.reduceToNat, Int.reduceLE, Int.reduceLT, Nat.reduceLeDiff, hi])) | ((with_reducible refine J_condV rfl ?_); (try simp only [go_sem, Nat.reduceEqDiff, ↓reduceIte, Nat.reduceAdd, Nat.reduceSub, Nat.reduceLT, Nat.reduceMul, reduceCtorEq, Int.reduceToNat, Int.reduceLE, Int.reduceLT, Nat.reduceLeDiff, hi])))
    refine call_esc noesc ?_
    simp only [go_sem, Nat.reduceEqDiff, ↓reduceIte, Nat.reduceAdd, Nat.reduceSub, Nat.reduceLT, Nat.reduceMul, reduceCtorEq, Int.reduceToNat, Int.reduceLE, Int.reduceLT, Nat.reduceLeDiff, hi]
    repeat (first | (with_reducible refine hold2 ?_) | (with_reducible refine J_seq ?_) | (with_reducible refine J_block ?_) | (with_reducible refine then_n ?_) | (with_reducible refine then_ret ?_) | (with_reducible refine then_exit ?_) | (with_reducible refine block_n ?_) | (with_reducible refine block_ret ?_) | (with_reducible refine block_eq ?_) | (with_reducible refine block_ne (by decide) ?_) | (with_reducible refine J_ret ?_) | (with_reducible refine J_exit ?_) | (with_reducible refine J_skip ?_) | (with_reducible refine fin_ret ?_) | (with_reducible refine fin_n ?_) | (with_reducible refine finI_ret ?_) | (with_reducible refine finI_n ?_) | (with_reducible refine finIn_ret ?_) | (with_reducible refine finIn_n ?_) | ((with_reducible refine J_region (by kernel_rfl) ?_); (try simp only [go_sem, Nat.reduceEqDiff, ↓reduceIte, Nat.reduceAdd, Nat.reduceSub, Nat.reduceLT, Nat.reduceMul, reduceCtorEq, Int.reduceToNat, Int.reduceLE, Int.reduceLT, Nat.reduceLeDiff, hi])) | ((with_reducible refine J_condV rfl ?_); (try simp only [go_sem, Nat.reduceEqDiff, ↓reduceIte, Nat.reduceAdd, Nat.reduceSub, Nat.reduceLT, Nat.reduceMul, reduceCtorEq, Int.reduceToNat, Int.reduceLE, Int.reduceLT, Nat.reduceLeDiff, hi])))
    simp only [go_sem, Nat.reduceEqDiff, ↓reduceIte, Nat.reduceAdd, Nat.reduceSub, Nat.reduceLT, Nat.reduceMul, reduceCtorEq, Int.reduceToNat, Int.reduceLE, Int.reduceLT, Nat.reduceLeDiff, hi]
    exact k
  · simp only [selfC, if_true] at hi
    refine callI_of (n := 20) (rs := []) Tryz.func116 rfl (by decide) rfl rfl (by simp) rfl ?_; refine J_seq ?_
    repeat (first | (with_reducible refine hold2 ?_) | (with_reducible refine J_seq ?_) | (with_reducible refine J_block ?_) | (with_reducible refine then_n ?_) | (with_reducible refine then_ret ?_) | (with_reducible refine then_exit ?_) | (with_reducible refine block_n ?_) | (with_reducible refine block_ret ?_) | (with_reducible refine block_eq ?_) | (with_reducible refine block_ne (by decide) ?_) | (with_reducible refine J_ret ?_) | (with_reducible refine J_exit ?_) | (with_reducible refine J_skip ?_) | (with_reducible refine fin_ret ?_) | (with_reducible refine fin_n ?_) | (with_reducible refine finI_ret ?_) | (with_reducible refine finI_n ?_) | (with_reducible refine finIn_ret ?_) | (with_reducible refine finIn_n ?_) | ((with_reducible refine J_region (by kernel_rfl) ?_); (try simp only [go_sem, Nat.reduceEqDiff, ↓reduceIte, Nat.reduceAdd, Nat.reduceSub, Nat.reduceLT, Nat.reduceMul, reduceCtorEq, Int.reduceToNat, Int.reduceLE, Int.reduceLT, Nat.reduceLeDiff, hi])) | ((with_reducible refine J_condV rfl ?_); (try simp only [go_sem, Nat.reduceEqDiff, ↓reduceIte, Nat.reduceAdd, Nat.reduceSub, Nat.reduceLT, Nat.reduceMul, reduceCtorEq, Int.reduceToNat, Int.reduceLE, Int.reduceLT, Nat.reduceLeDiff, hi])))
    simp only [go_sem, Nat.reduceEqDiff, ↓reduceIte, Nat.reduceAdd, Nat.reduceSub, Nat.reduceLT, Nat.reduceMul, reduceCtorEq, Int.reduceToNat, Int.reduceLE, Int.reduceLT, Nat.reduceLeDiff, hi]
    rw [set_same hi] at k
    exact k
/-- a character's bytes, as the library writes them -/
def runeB (r : Int) : List UInt8 :=
  if decide (icv .i32 .u32 r ≤ 127) then [toB r]
  else if decide (icv .i32 .u32 r ≤ 2047) then [bC 192 ||| toB (ishr .i32 r 6), bC 128 ||| (toB r &&& bC 63)]
  else if decide (icv .i32 .u32 r < 55296) || (decide (57343 < icv .i32 .u32 r) && decide (icv .i32 .u32 r ≤ 65535)) then [bC 224 ||| toB (ishr .i32 r 12), bC 128 ||| (toB (ishr .i32 r 6) &&& bC 63), bC 128 ||| (toB r &&& bC 63)]
  else if decide (65535 < icv .i32 .u32 r) && decide (icv .i32 .u32 r ≤ 1114111) then [bC 240 ||| toB (ishr .i32 r 18), bC 128 ||| (toB (ishr .i32 r 12) &&& bC 63), bC 128 ||| (toB (ishr .i32 r 6) &&& bC 63), bC 128 ||| (toB r &&& bC 63)]
  else [bC 239, bC 191, bC 189]
theorem setT {H : List AO} {j : Nat} {o p : AO} {s1 s2 : AO} (h : H[j]? = some o) : (H ++ [s1] ++ [s2]).set j p = H.set j p ++ [s1, s2] := by rw [app_set (app_get h), app_set h]; simp
end Go.Proofs.YtfhlehkgiamejaaGreatDoor
