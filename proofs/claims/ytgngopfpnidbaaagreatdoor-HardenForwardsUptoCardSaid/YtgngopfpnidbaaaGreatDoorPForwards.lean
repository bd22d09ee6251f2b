/- HardenForwards, plain. -/
import Derived.Test.YtgngopfpnidbaaaGreatDoorU2HA
import Derived.Test.YtgngopfpnidbaaaGreatDoorU4D
import Derived.Test.YtgngopfpnidbaaaGreatDoorLForwards
namespace Go.Proofs.YtgngopfpnidbaaaGreatDoor
open Go.Av
set_option maxRecDepth 100000
theorem okW_of {l : List Fld} (h : sumM mFld l ≤ 1048576) : okW l := ⟨okF_of (by omega), fun n => Nat.le_trans (wtV_all n l) h⟩
theorem shown21' : law21_shown = some true := by kernel_rfl
theorem fwd_wipe : ∀ (k i : Nat) (l : List Fld), l.length ≤ 1000000000 → i ≤ l.length → l.length - i < k → law21_HardenForwards_L81 k (i : Int) l = some ()
  | 0, i, l, _, _, hk => by omega
  | k + 1, i, l, hl, hi, hk => by
    simp only [law21_HardenForwards_L81]
    by_cases hlt : i < l.length
    · rw [if_pos (by simpa using hlt), ixL_in hlt, iadd64 (by omega) (by omega), ← Int.natCast_add_one]
      simp only [Option.bind_some]
      exact fwd_wipe k (i + 1) _ (by rw [List.length_set]; exact hl) (by rw [List.length_set]; omega) (by rw [List.length_set]; omega)
    · rw [if_neg (by simpa using hlt)]
theorem law_HardenForwards (q : List UInt8 × List UInt8 × List (List UInt8 × List UInt8)) (n : Int) (_hq : True ∧ True ∧ ∀ x ∈ q.2.2, True ∧ True) (hn : inR .i64 n)
    (hb0 : q.1.length + q.2.1.length + sumM (fun y0 => ((y0.1.length + 1) + (y0.2.length + 1)) + 1) q.2.2 ≤ 1048576) : law21_HardenForwards q n = some true := by
  have hb : q.1.length + q.2.1.length + sumM mFld q.2.2 ≤ 1048576 := hb0
  have hW := okW_of (l := q.2.2) (by omega)
  have h1 := hW.1.1
  have hn1 : n ≤ 9223372036854775807 := by simp only [inR] at hn; omega
  have e1 : slL (q.2.2 ++ [([33], [])]) 0 (q.2.2.length : Int) = some q.2.2 := by
    rw [slL_to (by simp), List.take_left]
  have e2 : slL (q.2.2 ++ [([33], [])]) 0 (iadd .i64 (q.2.2.length : Int) 1) = some (q.2.2 ++ [([33], [])]) := by
    rw [iadd64 (by omega) (by omega), ← Int.natCast_add_one, slL_to (by simp), List.take_of_length_le (by simp)]
  have e3 : ixL (q.2.2 ++ [([33], [])] : List Fld) (q.2.2.length : Int) = some ([33], []) := by
    rw [ixL_nat]; simp
  have hfl : (fwdT q n).2.2.length ≤ q.2.2.length + 1 := by
    have h2 := lenF_len n
    have h3 : (outT q.2.2 (baseN ++ acN ++ hopM q.2.2)).length ≤ q.2.2.length := List.length_filter_le _ _
    show (outT q.2.2 (baseN ++ acN ++ hopM q.2.2) ++ lenF n).length ≤ _
    rw [List.length_append]; omega
  have hR : ∀ x : List UInt8 × List UInt8 × List Fld, x.2.2.length ≤ 1000000000 → ref05_SameRequest x x = some true := fun x hx => by
    unfold ref05_SameRequest
    rw [SameF_eq hx]
    simp
  have step : ∀ (k : Nat) (t : Int), t < 2 → law21_HardenForwards_L62 q q.2.2 n (fwdT q n) true (k + 1) t = law21_HardenForwards_L62 q q.2.2 n (fwdT q n) true k (iadd .i64 t 1) := fun k t ht => by
    rw [law21_HardenForwards_L62, if_pos (by simpa using ht)]
    rw [show harden_Forward (q.1, q.2.1, q.2.2) n = some (fwdT q n) from forward_eq hW hn1]
    simp only [Option.bind_some]
    rw [hR _ (by show (fwdT q n).2.2.length ≤ _; omega), keeps_eq hW, ref_keeps_eq hW, e1]
    simp only [Option.bind_some, Bool.not_true, Bool.false_eq_true, if_false, bne_self_eq_false]
    rw [szC_ok (by simp; omega)]
    simp only [Option.bind_some]
    have := fwd_wipe 1099511627776 0 ((fwdT q n).2.2 ++ [([], [])]) (by simp; omega) (by omega) (by simp; omega)
    rw [show ((0 : Nat) : Int) = 0 from rfl] at this
    rw [this]
    rfl
  have hloop : law21_HardenForwards_L62 q q.2.2 n (fwdT q n) true 1099511627776 0 = some (Sum.inr ()) := by
    rw [show (1099511627776 : Nat) = 1099511627773 + 1 + 1 + 1 from rfl, step _ 0 (by decide), show iadd .i64 0 1 = 1 from by kernel_rfl, step _ 1 (by decide), show iadd .i64 1 1 = 2 from by kernel_rfl]
    rw [law21_HardenForwards_L62]
    rfl
  unfold law21_HardenForwards
  rw [shown21', szC_ok (by omega), szC_ok (by simp; omega), e1, e2]
  simp only [Option.bind_some]
  rw [show ref21_Forward (q.1, q.2.1, q.2.2) n = some (fwdT q n) from ref_forward_eq hW hn1]
  simp only [Option.bind_some]
  rw [hloop]
  simp only [Option.bind_some]
  rw [SameF_eq (by omega)]
  simp only [Option.bind_some, decide_true, if_true]
  rw [e3]
  simp
end Go.Proofs.YtgngopfpnidbaaaGreatDoor
