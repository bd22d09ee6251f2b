/- A head with a length and a transfer coding is refused, at any size. -/
import Derived.Test.YtcikflhenbpdiaaDoorU4B
import Derived.Test.YtcikflhenbpdiaaDoorLBoth
import Derived.Test.YtcikflhenbpdiaaDoorPu
import Derived.KernelRfl
namespace Go.Proofs.YtcikflhenbpdiaaDoor
open Go.Av
set_option linter.unusedVariables false
set_option linter.unusedSimpArgs false
set_option maxRecDepth 100000
theorem shown6 : law06_shown = some true := by kernel_rfl
def clN : List UInt8 := [99, 111, 110, 116, 101, 110, 116, 45, 108, 101, 110, 103, 116, 104]
def teN : List UInt8 := [116, 114, 97, 110, 115, 102, 101, 114, 45, 101, 110, 99, 111, 100, 105, 110, 103]
theorem allT_app (a b : List Fld) (n : List UInt8) : allT (a ++ b) n = allT a n ++ allT b n := by unfold allT; simp
theorem said_both {M : List Fld} (h : okF M) (hC : allT M teN ≠ []) (hL : allT M clN ≠ []) (op : Int) : framing_said M op = some ((0, 0), 19) := by
  unfold framing_said
  rw [show ([99, 111, 110, 116, 101, 110, 116, 45, 108, 101, 110, 103, 116, 104] : List UInt8) = clN from rfl, show ([116, 114, 97, 110, 115, 102, 101, 114, 45, 101, 110, 99, 111, 100, 105, 110, 103] : List UInt8) = teN from rfl]
  rw [Count_eq h (by decide), Count_eq h (by decide)]
  have hz : ∀ vs : List (List UInt8), decide ((0 : Int) < ((vs.length : Nat) : Int)) = decide (vs ≠ []) := fun vs => by
    cases vs with
    | nil => rfl
    | cons a r => simp
  simp only [Option.bind_some, hz]
  simp [hC, hL]
theorem req_both {M : List Fld} (h : okF M) (hC : allT M teN ≠ []) (hL : allT M clN ≠ []) (m t : List UInt8) : framing_Request (m, t, M) = some ((0, 0), 19) := by
  unfold framing_Request
  simp only [said_both h hC hL, Option.bind_some]
theorem resp_both {M : List Fld} (h : okF M) (hC : allT M teN ≠ []) (hL : allT M clN ≠ []) (m : List UInt8) (st : Int) (re : List UInt8) : framing_Response m (st, re, M) = some ((0, 0), 19) := by
  unfold framing_Response
  simp only [said_both h hC hL, Option.bind_some]
  by_cases h1 : m = [72, 69, 65, 68] <;> by_cases h2 : st = 204 <;> by_cases h3 : st = 304 <;> simp [h1, h2, h3]
theorem law_FramingBoth_all (l : List (List UInt8 × List UInt8)) (len cod : List UInt8) (at4 : Int) (m : List UInt8) (st : Int) (_ : ∀ y ∈ l, True ∧ True) (_ : True) (_ : True) (ha : inR .i64 at4) (_ : True) (_ : inR .i64 st)
    (hb : l.length * 32 ≤ 140737488351232 ∧ ∀ x ∈ l, x.1.length ≤ 140737488351232 ∧ x.2.length ≤ 140737488351232) (hb1 : len.length ≤ 140737488351232) (hb2 : cod.length ≤ 140737488351232) : law06_FramingBoth l len cod at4 m st = some true := by
  obtain ⟨a1, a2⟩ := ha
  have hlen : l.length ≤ 4398046510976 := by have := hb.1; omega
  unfold law06_FramingBoth
  rw [shown6]
  obtain ⟨j, hj2⟩ : ∃ j : Nat, (if decide (at4 < 0) = true then some (ineg .i64 (iadd .i64 at4 1)) else some at4) = some (j : Int) := by
    by_cases h : at4 < 0
    · refine ⟨(-(at4 + 1)).toNat, ?_⟩
      have e : ineg .i64 (iadd .i64 at4 1) = -(at4 + 1) := by
        rw [iadd64 (by omega) (by omega)]
        exact wrap64 (by omega) (by omega)
      rw [if_pos (decide_eq_true h), e, Int.toNat_of_nonneg (by omega)]
    · refine ⟨at4.toNat, ?_⟩
      rw [if_neg (by simpa using h), Int.toNat_of_nonneg (by omega)]
  rw [hj2]
  have e1 : iadd .i64 (l.length : Int) 1 = ((l.length + 1 : Nat) : Int) := by rw [iadd64 (by omega) (by omega)]; omega
  have e2 : irem (j : Int) ((l.length + 1 : Nat) : Int) = ((j % (l.length + 1) : Nat) : Int) := by rw [irem_eq (by omega)]; simp
  have hk : j % (l.length + 1) ≤ l.length := by have := Nat.mod_lt j (show 0 < l.length + 1 by omega); omega
  generalize j % (l.length + 1) = q at e2 hk
  simp only [Option.bind_some, e1, e2]
  rw [chk_ok (decide_eq_true (by omega)), slL_to hk, slL_from hk]
  simp only [Option.bind_some]
  rw [szC_ok (by simp; omega), szC_ok (by simp; omega), szC_ok (by simp; omega), szC_ok (by simp; omega)]
  simp only [Option.bind_some]
  generalize hM : (((l.take q ++ [([67, 111, 110, 116, 101, 110, 116, 45, 76, 69, 78, 71, 84, 72], len)]) ++ l.drop q) ++ [([116, 114, 97, 110, 115, 102, 101, 114, 45, 101, 110, 99, 111, 100, 105, 110, 103], cod)] : List Fld) = M
  have hr : okF M := by
    rw [← hM]
    refine ⟨by simp; omega, fun f hf => ?_⟩
    simp only [List.mem_append, List.mem_singleton] at hf
    rcases hf with ((hf | rfl) | hf) | rfl
    · exact hb.2 f (List.mem_of_mem_take hf)
    · exact ⟨by simp, hb1⟩
    · exact hb.2 f (List.mem_of_mem_drop hf)
    · exact ⟨by simp, hb2⟩
  have hC : allT M teN ≠ [] := by
    rw [← hM, allT_app]
    have : allT [(([116, 114, 97, 110, 115, 102, 101, 114, 45, 101, 110, 99, 111, 100, 105, 110, 103] : List UInt8), cod)] teN = [cod] := by
      rw [allT_cons, if_pos (show sameT ([116, 114, 97, 110, 115, 102, 101, 114, 45, 101, 110, 99, 111, 100, 105, 110, 103] : List UInt8) teN = true from by decide +kernel)]; rfl
    rw [this]; simp
  have hL : allT M clN ≠ [] := by
    rw [← hM, allT_app, allT_app, allT_app]
    have : allT [(([67, 111, 110, 116, 101, 110, 116, 45, 76, 69, 78, 71, 84, 72] : List UInt8), len)] clN = [len] := by
      rw [allT_cons, if_pos (show sameT ([67, 111, 110, 116, 101, 110, 116, 45, 76, 69, 78, 71, 84, 72] : List UInt8) clN = true from by decide +kernel)]; rfl
    rw [this]; simp
  rw [req_both hr hC hL, resp_both hr hC hL]
  simp
end Go.Proofs.YtcikflhenbpdiaaDoor
