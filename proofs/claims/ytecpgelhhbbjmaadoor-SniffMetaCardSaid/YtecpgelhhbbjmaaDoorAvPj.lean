/- Av, part Pj: short forms of the rules for calls that are handed pointers. -/
import Derived.Test.YtecpgelhhbbjmaaDoorAvPa
import Derived.Test.YtecpgelhhbbjmaaDoorAvJ
namespace Go.Av
open Go.RowKit
set_option linter.unusedVariables false
section
variable {P : Program} {env : Env} {H : List AO}
theorem sm {e : Env} {ret : AV} {l : List (Nat × AV)} {H' : List AO} {rv : AV} (ids : List Nat) (nd : ids.Nodup := by decide) (hH : H' = renH ids H := by first | rfl | (simp only [List.length_set, List.length_replicate]; rfl)) (hr : rv = ren ids H ret := by first | rfl | simp only [ren, ren2, ren1, ren0, sp3, sp2, sp1, sh1, go_sem, Nat.reduceEqDiff, ↓reduceIte, Nat.reduceAdd, Nat.reduceSub, Nat.reduceLT, Nat.reduceMul, reduceCtorEq, Int.reduceToNat, Int.reduceLE, Int.reduceLT, Nat.reduceLeDiff]) (hl : ∀ p ∈ l, p.2 = Av.ren ids H (e p.1) := by simp only [List.length_set, List.length_replicate, List.forall_mem_cons, List.not_mem_nil, false_implies, implies_true, and_true]; (try (first | done | rfl | (repeat' apply And.intro) <;> first | rfl | (simp only [List.length_set, List.length_replicate, go_sem, Nat.reduceEqDiff, ↓reduceIte, Nat.reduceAdd, Nat.reduceSub, Nat.reduceLT, Nat.reduceMul, reduceCtorEq, Int.reduceToNat, Int.reduceLE, Int.reduceLT, Nat.reduceLeDiff, mv3, mv2, mv1, mv0, ren, ren2, ren1, ren0]; first | done | rfl)))) :
    ∃ ids : List Nat, ids.Nodup ∧ H' = renH ids H ∧ rv = ren ids H ret ∧ ∀ t, envL l t = .dead ∨ envL l t = ren ids H (e t) := subR_of l H' rv ids nd hH hr hl
theorem smp {e : Env} {ret rv : AV} {l : List (Nat × AV)} {H' : List AO} (ids : List Nat) (nd : ids.Nodup := by decide) (hH : H' = renH ids H := by first | rfl | (simp only [List.length_set, List.length_replicate]; rfl)) (hr : rv = ret := by rfl) (hl : ∀ p ∈ l, p.2 = Av.ren ids H (e p.1) := by simp only [List.length_set, List.length_replicate, List.forall_mem_cons, List.not_mem_nil, false_implies, implies_true, and_true]; (try (first | done | rfl | (repeat' apply And.intro) <;> first | rfl | (simp only [List.length_set, List.length_replicate, go_sem, Nat.reduceEqDiff, ↓reduceIte, Nat.reduceAdd, Nat.reduceSub, Nat.reduceLT, Nat.reduceMul, reduceCtorEq, Int.reduceToNat, Int.reduceLE, Int.reduceLT, Nat.reduceLeDiff, mv3, mv2, mv1, mv0, ren, ren2, ren1, ren0]; first | done | rfl)))) :
    ∃ ids : List Nat, ids.Nodup ∧ H' = renH ids H ∧ rv = ret ∧ ∀ t, envL l t = .dead ∨ envL l t = ren ids H (e t) := subP_of l H' rv ids nd hH hr hl
end
end Go.Av
