/- fields, plain: sizes; lists that stand in several fields; a name's fields and the others. -/
import Derived.Test.YtmelgmhcamjfiaaDoorU4B
import Derived.Test.YtmelgmhcamjfiaaDoorRow
import Derived.Test.YtmelgmhcamjfiaaDoorGE
namespace Go.Proofs.YtmelgmhcamjfiaaDoor
open Go.Av
set_option linter.unusedVariables false
set_option linter.unusedSimpArgs false
set_option maxRecDepth 100000
theorem in_one (n : List UInt8) (f : Fld) : inT [n] f = sameT f.1 n := by unfold inT; simp
theorem all_out (n : List UInt8) : ∀ l : List Fld, allT (outT l [n]) n = []
  | [] => rfl
  | f :: l => by
    rw [outT_cons, in_one]
    cases h : sameT f.1 n with
    | true => simp only [if_true]; exact all_out n l
    | false => simp only [Bool.false_eq_true, if_false]; rw [allT_cons, h]; simp only [Bool.false_eq_true, if_false]; exact all_out n l
theorem out_all (n : List UInt8) : ∀ l : List Fld, (outT l [n]).length + (allT l n).length = l.length
  | [] => rfl
  | f :: l => by
    have := out_all n l
    rw [outT_cons, in_one, allT_cons]
    cases h : sameT f.1 n with
    | true => simp only [if_true, List.length_cons]; omega
    | false => simp only [Bool.false_eq_true, if_false, List.length_cons]; omega
theorem out_out (l : List Fld) (ns : List (List UInt8)) : outT (outT l ns) ns = outT l ns := by
  unfold outT
  rw [List.filter_filter]
  simp
theorem out_nil (l : List Fld) : outT l [] = l := by
  unfold outT inT
  simp
theorem okF_out {l : List Fld} (h : okF l) (ns : List (List UInt8)) : okF (outT l ns) :=
  ⟨Nat.le_trans (List.length_filter_le _ _) h.1, fun f hf => h.2 f (List.mem_filter.1 hf).1⟩
theorem okN_one {n : List UInt8} (h : n.length ≤ 140737488351232) : okN [n] := ⟨by simp, fun x hx => by simp at hx; rw [hx]; exact h⟩
theorem shown4 : law04_shown = some true := by kernel_rfl
end Go.Proofs.YtmelgmhcamjfiaaDoor
