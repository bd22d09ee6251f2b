/- HardenFails, plain: five failures, and none. -/
import Derived.Test.YtgngopfpnidbaaaGreatDoorPu
import Derived.Test.YtgngopfpnidbaaaGreatDoorLFails
namespace Go.Proofs.YtgngopfpnidbaaaGreatDoor
open Go.Av
set_option maxRecDepth 100000
theorem shown21 : law21_shown = some true := by kernel_rfl
theorem fails_loop {st : Int} {b : Bool} (h1 : harden_Fail st b = some []) (h2 : ref21_Fail st b = some []) : law21_HardenFails_L62 st b true 1099511627776 0 = some (Sum.inr ()) := by
  have step : ∀ (k : Nat) (t : Int), t < 2 → law21_HardenFails_L62 st b true (k + 1) t = law21_HardenFails_L62 st b true k (iadd .i64 t 1) := fun k t ht => by
    rw [law21_HardenFails_L62, if_pos (by simpa using ht), h1, h2]
    rfl
  rw [show (1099511627776 : Nat) = 1099511627773 + 1 + 1 + 1 from rfl, step _ 0 (by decide), show iadd .i64 0 1 = 1 from by kernel_rfl, step _ 1 (by decide), show iadd .i64 1 1 = 2 from by kernel_rfl]
  rw [law21_HardenFails_L62]
  rfl
theorem law_HardenFails (st : Int) (b : Bool) (_h1 : inR .i64 st) (_h2 : True) (_hb : 2 ≤ 1048576) : law21_HardenFails st b = some true := by
  by_cases c1 : st = 400
  · subst c1; cases b <;> kernel_rfl
  by_cases c2 : st = 408
  · subst c2; cases b <;> kernel_rfl
  by_cases c3 : st = 413
  · subst c3; cases b <;> kernel_rfl
  by_cases c4 : st = 502
  · subst c4; cases b <;> kernel_rfl
  by_cases c5 : st = 504
  · subst c5; cases b <;> kernel_rfl
  have h1 : harden_Fail st b = some [] := by
    unfold harden_Fail
    rw [decide_eq_false c1, decide_eq_false c2, decide_eq_false c3, decide_eq_false c4, decide_eq_false c5]
    rfl
  have h2 : ref21_Fail st b = some [] := by
    unfold ref21_Fail ref21_Words
    rw [decide_eq_false c1, decide_eq_false c2, decide_eq_false c3, decide_eq_false c4, decide_eq_false c5]
    rfl
  unfold law21_HardenFails
  rw [shown21]
  simp only [Option.bind_some]
  rw [fails_loop h1 h2]
  rfl
theorem law_HardenFails_all (st : Int) (b : Bool) (h1 : inR .i64 st) (h2 : True) : law21_HardenFails st b = some true := law_HardenFails st b h1 h2 (by decide)
end Go.Proofs.YtgngopfpnidbaaaGreatDoor
