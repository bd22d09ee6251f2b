/- fields, plain: what may be a field; texts. -/
import Derived.Test.YtcikflhenbpdiaaDoorU4B
namespace Go.Proofs.YtcikflhenbpdiaaDoor
open Go.Av
set_option linter.unusedVariables false
set_option linter.unusedSimpArgs false
set_option maxRecDepth 100000
def vOK (s : List UInt8) : Bool := decide (trimT s = s) && plainT s
theorem plain_skip {s : List UInt8} : ∀ (w p : Nat), (∀ j, p ≤ j → j < p + w → ∃ hj : j < s.length, quoT (s[j]'hj) = true) → plainT (s.drop p) = plainT (s.drop (p + w))
  | 0, p, _ => rfl
  | w + 1, p, h => by
    obtain ⟨h1, h2⟩ := h p (Nat.le_refl _) (by omega)
    have ih := plain_skip w (p + 1) (fun j j1 j2 => h j (by omega) (by omega))
    rw [show p + (w + 1) = p + 1 + w by omega, ← ih, drop_step h1]
    unfold plainT
    rw [List.all_cons, h2, Bool.true_and]
theorem quo_hi (c : UInt8) (h : 128 ≤ c.toNat) : quoT c = true :=
  (of_decide_eq_true (all256 (p := fun c => decide (128 ≤ c.toNat → quoT c = true)) (by kernel_rfl) c) : _) h
theorem quo_lo (c : UInt8) : (decide ((c.toNat : Int) < 32 ∧ ¬ (c.toNat : Int) = 9 ∨ (c.toNat : Int) = 127)) = !quoT c :=
  of_decide_eq_true (all256 (p := fun c => decide (decide ((c.toNat : Int) < 32 ∧ ¬ (c.toNat : Int) = 9 ∨ (c.toNat : Int) = 127) = !quoT c)) (by kernel_rfl) c)
def rgF : Nat → List Fld → Option (Int × Int)
  | _, [] => none
  | i, f :: r => if tokT f.1 then if vOK f.2 then rgF (i + 1) r else some ((i : Int), 8) else some ((i : Int), 7)
def rgR : Option (Int × Int) → Sum (Int × Int) Unit
  | some r => Sum.inl r
  | none => Sum.inr ()
def rightT (l : List Fld) : Int × Int := if 32 < l.length then (32, 18) else (rgF 0 l).getD (0, 0)
def lineT (f : Fld) : List UInt8 := f.1 ++ [58] ++ (if f.2 = [] then [] else [32] ++ f.2) ++ [13, 10]
theorem lineT_len (f : Fld) : (lineT f).length ≤ f.1.length + f.2.length + 4 := by
  unfold lineT
  split <;> simp <;> omega
def linesT (l : List Fld) : List UInt8 := l.flatMap lineT
theorem linesT_cons (f : Fld) (l : List Fld) : linesT (f :: l) = lineT f ++ linesT l := by unfold linesT; rw [List.flatMap_cons]
def ftextT (l : List Fld) : List UInt8 := if (rightT l).2 = 0 then linesT l else []
end Go.Proofs.YtcikflhenbpdiaaDoor
