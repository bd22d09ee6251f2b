/- utf8, plain: what the functions compute. -/
import Derived.Test.YtecpgelhhbbjmaaDoorPu
import Derived.Test.YtecpgelhhbbjmaaDoorGA
import Derived.Test.YtecpgelhhbbjmaaDoorGB
import Derived.Test.YtecpgelhhbbjmaaDoorRow
namespace Go.Proofs.YtecpgelhhbbjmaaDoor
open Go.Av
set_option linter.unusedVariables false
/-- a number as a character -/
def fixR (c : Int) : Int := if c < 0 ∨ 1114111 < c ∨ (55296 ≤ c ∧ c ≤ 57343) then 65533 else c
def goodC (c : Int) : Prop := 0 ≤ c ∧ c ≤ 1114111 ∧ (c < 55296 ∨ 57343 < c)
instance (c : Int) : Decidable (goodC c) := by unfold goodC; infer_instance
/-- a character's bytes -/
def chB (c : Int) : List UInt8 :=
  if c < 128 then [UInt8.ofNat c.toNat]
  else if c < 2048 then [UInt8.ofNat (192 + c.toNat / 64), UInt8.ofNat (128 + c.toNat % 64)]
  else if c < 65536 then [UInt8.ofNat (224 + c.toNat / 4096), UInt8.ofNat (128 + c.toNat / 64 % 64), UInt8.ofNat (128 + c.toNat % 64)]
  else [UInt8.ofNat (240 + c.toNat / 262144), UInt8.ofNat (128 + c.toNat / 4096 % 64), UInt8.ofNat (128 + c.toNat / 64 % 64), UInt8.ofNat (128 + c.toNat % 64)]
/-- the bytes of numbers, each as a character -/
def encL (l : List Int) : List UInt8 := l.flatMap fun c => chB (fixR c)
theorem drop_step {α : Type} {l : List α} {i : Nat} (h : i < l.length) : l.drop i = l[i] :: l.drop (i + 1) := by
  rw [List.drop_eq_getElem_cons h]
theorem sum_one {α : Type} : ∀ l : List α, sumM (fun _ => 1) l = l.length
  | [] => rfl
  | x :: l => by simp only [sumM, sum_one l, List.length_cons]; omega
end Go.Proofs.YtecpgelhhbbjmaaDoor
