/- strconv's FormatInt, at base 10 by the shelf's contract, at other bases by its own text: told as a contract of Av. -/
import Derived.Test.YtfhlehkgiamejaaGreatDoorGM
namespace Go.Proofs.YtfhlehkgiamejaaGreatDoor
open Go.Av Go.RowKit
theorem grow_gr (w : World) (os : Array Obj) : Gr w (Go.Sort.grow w os) := ⟨rfl, rfl, rfl, by simp [Go.Sort.grow], fun k hk _ => by simp [Go.Sort.grow, Array.getElem?_append_left hk]⟩
def fmtX (n b : Int) : Option (List UInt8) := if b = 10 then (if -9223372036854775808 ≤ n ∧ n ≤ 9223372036854775807 then some (Lib.itoa n) else none) else istrconv_FormatInt n b
theorem fmtX_ok {n b : Int} {r : List UInt8} (hP : fmtX n b = some r) : CallOK Tryz.prog 22 [.int .i64 n, .int .i64 b] (.str r) [] := by
  unfold fmtX at hP
  split at hP
  · rename_i hb
    subst hb
    split at hP
    · rename_i hc
      obtain rfl := Option.some.inj hP
      refine callOK_flat ⟨_, Tryz.func22, rfl, by decide⟩ rfl rfl fun w hw => ?_
      exact (Any.internal_strconv_FormatInt_10 Tryz.laysM246 n hc.1 hc.2 w (hw.2.1.is (by kernel_rfl))).mono fun e w' ⟨he, k, os, hg⟩ => ⟨by rw [he]; rfl, by rw [hg]; exact Gr.trans (drewN_gr w k) (grow_gr _ os)⟩
    · cases hP
  · exact istrconv_FormatInt_ok hP
end Go.Proofs.YtfhlehkgiamejaaGreatDoor
