/- HardenHeads, plain. -/
import Derived.Test.YtgngopfpnidbaaaGreatDoorU21A
import Derived.Test.YtgngopfpnidbaaaGreatDoorU4D
import Derived.Test.YtgngopfpnidbaaaGreatDoorLHeads
import Derived.KernelRfl
namespace Go.Proofs.YtgngopfpnidbaaaGreatDoor
open Go.Av
set_option linter.unusedVariables false
set_option linter.unusedSimpArgs false
set_option maxRecDepth 100000
theorem okW_of {l : List Fld} (h : sumM mFld l ≤ 1048576) : okW l := ⟨okF_of (by omega), fun n => Nat.le_trans (wtV_all n l) h⟩
theorem shown21' : law21_shown = some true := by kernel_rfl
theorem wipe1 : ∀ (k i : Nat) (l : List Fld), l.length ≤ 1000000000 → i ≤ l.length → l.length - i < k → law21_HardenHeads_L105 k (i : Int) l = some ()
  | 0, i, l, _, _, hk => by omega
  | k + 1, i, l, hl, hi, hk => by
    simp only [law21_HardenHeads_L105]
    by_cases hlt : i < l.length
    · rw [if_pos (decide_eq_true (by omega)), ixL_in hlt, iadd64 (by omega) (by omega), ← Int.natCast_add_one]
      simp only [Option.bind_some]
      exact wipe1 k (i + 1) _ (by rw [List.length_set]; exact hl) (by rw [List.length_set]; omega) (by rw [List.length_set]; omega)
    · rw [if_neg (fun e => hlt (by have := of_decide_eq_true e; omega))]
theorem wipe2 : ∀ (k i : Nat) (l : List Fld), l.length ≤ 1000000000 → i ≤ l.length → l.length - i < k → law21_HardenHeads_L118 k (i : Int) l = some ()
  | 0, i, l, _, _, hk => by omega
  | k + 1, i, l, hl, hi, hk => by
    simp only [law21_HardenHeads_L118]
    by_cases hlt : i < l.length
    · rw [if_pos (decide_eq_true (by omega)), ixL_in hlt, iadd64 (by omega) (by omega), ← Int.natCast_add_one]
      simp only [Option.bind_some]
      exact wipe2 k (i + 1) _ (by rw [List.length_set]; exact hl) (by rw [List.length_set]; omega) (by rw [List.length_set]; omega)
    · rw [if_neg (fun e => hlt (by have := of_decide_eq_true e; omega))]
theorem law_HardenHeads (p : Int × List UInt8 × List (List UInt8 × List UInt8)) (n : Int) (b : Int × Int) (last : Bool) (_hp : inR .i64 p.1 ∧ True ∧ ∀ x ∈ p.2.2, True ∧ True) (hn : inR .i64 n) (hb2 : inR .i64 b.1 ∧ inR .i64 b.2) (_hl : True)
    (hb0 : p.2.1.length + sumM (fun y0 => ((y0.1.length + 1) + (y0.2.length + 1)) + 1) p.2.2 ≤ 1048576) : law21_HardenHeads p n b last = some true := by
  have hb : p.2.1.length + sumM mFld p.2.2 ≤ 1048576 := hb0
  have hW := okW_of (l := p.2.2) (by omega)
  have h1 := hW.1.1
  have hn1 : n ≤ 9223372036854775807 := by simp only [inR] at hn; omega
  have hn2 : b.2 ≤ 9223372036854775807 := by have := hb2.2; simp only [inR] at this; omega
  have e1 : slL (p.2.2 ++ [([33], [])]) 0 (p.2.2.length : Int) = some p.2.2 := by
    rw [slL_to (by simp), List.take_left]
  have e2 : slL (p.2.2 ++ [([33], [])]) 0 (iadd .i64 (p.2.2.length : Int) 1) = some (p.2.2 ++ [([33], [])]) := by
    rw [iadd64 (by omega) (by omega), ← Int.natCast_add_one, slL_to (by simp), List.take_of_length_le (by simp)]
  have e3 : ixL (p.2.2 ++ [([33], [])] : List Fld) (p.2.2.length : Int) = some ([33], []) := by
    rw [ixL_nat]; simp
  have l1 : (pageT p n last).2.2.length ≤ 1000000000 := by
    have h2 := lenF_len n
    have h3 := out_len p.2.2 (baseN ++ pageN ++ hopM p.2.2)
    have h4 := closeF_len last
    have h5 : pageF.length = 3 := rfl
    show (outT p.2.2 (baseN ++ pageN ++ hopM p.2.2) ++ pageF ++ lenF n ++ closeF last).length ≤ _
    simp only [List.length_append]; omega
  have l2 : (plnT p b last).2.2.length ≤ 1000000000 := by
    have h2 := bodyF_len b
    have h3 := out_len p.2.2 (baseN ++ snN ++ hopM p.2.2)
    have h4 := closeF_len last
    show (outT p.2.2 (baseN ++ snN ++ hopM p.2.2) ++ [snF] ++ bodyF b ++ closeF last).length ≤ _
    simp only [List.length_append, List.length_singleton]; omega
  have hR : ∀ x : Int × List UInt8 × List Fld, x.2.2.length ≤ 1000000000 → ref05_SameResponse x x = some true := fun x hx => by
    unfold ref05_SameResponse
    rw [SameF_eq hx]
    simp
  have step : ∀ (k : Nat) (t : Int), t < 2 → law21_HardenHeads_L87 p p.2.2 n last b true (k + 1) t = law21_HardenHeads_L87 p p.2.2 n last b true k (iadd .i64 t 1) := fun k t ht => by
    rw [law21_HardenHeads_L87, if_pos (by simpa using ht)]
    rw [show harden_Page (p.1, p.2.1, p.2.2) n last = some (pageT p n last) from page_eq hW hn1, show harden_Plain (p.1, p.2.1, p.2.2) (b.1, b.2) last = some (plnT p b last) from plain_eq hW hn2,
      show ref21_Page (p.1, p.2.1, p.2.2) n last = some (pageT p n last) from ref_page_eq hW hn1, show ref21_Plain (p.1, p.2.1, p.2.2) (b.1, b.2) last = some (plnT p b last) from ref_plain_eq hW hn2]
    simp only [Option.bind_some]
    rw [hR _ l1, hR _ l2, e1]
    simp only [Option.bind_some, Bool.not_true, Bool.false_eq_true, if_false]
    have w1 := wipe1 1099511627776 0 (pageT p n last).2.2 l1 (by omega) (by omega)
    have w2 := wipe2 1099511627776 0 (plnT p b last).2.2 l2 (by omega) (by omega)
    rw [show ((0 : Nat) : Int) = 0 from rfl] at w1 w2
    rw [w1]
    simp only [Option.bind_some]
    rw [w2]
    rfl
  have hloop : law21_HardenHeads_L87 p p.2.2 n last b true 1099511627776 0 = some (Sum.inr ()) := by
    rw [show (1099511627776 : Nat) = 1099511627773 + 1 + 1 + 1 from rfl, step _ 0 (by decide), show iadd .i64 0 1 = 1 from by kernel_rfl, step _ 1 (by decide), show iadd .i64 1 1 = 2 from by kernel_rfl]
    rw [law21_HardenHeads_L87]
    rfl
  unfold law21_HardenHeads
  rw [shown21', szC_ok (by omega), szC_ok (by simp; omega), e1]
  simp only [Option.bind_some]
  rw [hloop]
  simp only [Option.bind_some]
  rw [SameF_eq (by omega), e2]
  simp only [Option.bind_some, decide_true, if_true]
  rw [e3]
  simp
end Go.Proofs.YtgngopfpnidbaaaGreatDoor
