/- LeafNames, plain. -/
import Derived.Test.YtcmfgjiemjlogaaDoorU9C
import Derived.Test.YtcmfgjiemjlogaaDoorLNames
namespace Go.Proofs.YtcmfgjiemjlogaaDoor
open Go.Av
set_option maxRecDepth 100000
theorem turn1 (c : UInt8) (h : 65 ≤ b2i c ∧ b2i c ≤ 90 ∨ 97 ≤ b2i c ∧ b2i c ≤ 122) : smT (c ^^^ bC 32) = smT c ∧ spT (c ^^^ bC 32) = false :=
  of_decide_eq_true (all256 (p := fun c => decide ((65 ≤ b2i c ∧ b2i c ≤ 90 ∨ 97 ≤ b2i c ∧ b2i c ≤ 122) → smT (c ^^^ bC 32) = smT c ∧ spT (c ^^^ bC 32) = false)) (by kernel_rfl) c) h
/-- a letter, as the law tells it -/
def letT (c : UInt8) : Bool := decide (65 ≤ b2i c ∧ b2i c ≤ 90 ∨ 97 ≤ b2i c ∧ b2i c ≤ 122)
theorem let_eq (l : List UInt8) (i : Nat) (h : i < l.length) :
    ((ixL l (i : Int)).bind fun x87 =>
            if decide (b2i (bC 97) ≤ b2i x87) then
              (ixL l (i : Int)).bind fun x88 =>
              if decide (b2i x88 ≤ b2i (bC 122)) then
                some true
              else
                (ixL l (i : Int)).bind fun x89 =>
                if decide (b2i (bC 65) ≤ b2i x89) then
                  (ixL l (i : Int)).bind fun x90 =>
                  some (decide (b2i x90 ≤ b2i (bC 90)))
                else
                  some false
            else
              (ixL l (i : Int)).bind fun x91 =>
              if decide (b2i (bC 65) ≤ b2i x91) then
                (ixL l (i : Int)).bind fun x92 =>
                some (decide (b2i x92 ≤ b2i (bC 90)))
              else
                some false) = some (letT l[i]) := by
  have e1 : b2i (bC 97) = 97 := rfl
  have e2 : b2i (bC 122) = 122 := rfl
  have e3 : b2i (bC 65) = 65 := rfl
  have e4 : b2i (bC 90) = 90 := rfl
  rw [ixL_in h]
  simp only [Option.bind_some, decide_eq_true_eq, e1, e2, e3, e4]
  unfold letT
  by_cases a : 97 ≤ b2i l[i]
  · rw [if_pos a]
    by_cases b : b2i l[i] ≤ 122
    · rw [if_pos b, decide_eq_true (by omega)]
    · rw [if_neg b, if_pos (by omega)]
      congr 1
      exact decide_eq_decide.2 (by omega)
  · rw [if_neg a]
    by_cases b : 65 ≤ b2i l[i]
    · rw [if_pos b]; congr 1; exact decide_eq_decide.2 (by omega)
    · rw [if_neg b, decide_eq_false (by omega)]
theorem turn_loop (t : List Bool) (w : List UInt8) (hw : w.length ≤ 100) : ∀ (k i : Nat) (l : List UInt8), i ≤ w.length → w.length - i < k → l.length = w.length → l.map smT = w.map smT → (∀ c ∈ l, spT c = false) →
    ∃ r, law09_LeafNames_L75 t k (i : Int) l = some r ∧ r.map smT = w.map smT ∧ ∀ c ∈ r, spT c = false
  | 0, i, l, _, hk, _, _, _ => by omega
  | k + 1, i, l, hi, hk, hl, hm, hs => by
    simp only [law09_LeafNames_L75, decide_eq_true_eq]
    by_cases hlt : i < w.length
    · rw [if_pos (by omega)]
      simp only [Option.bind_some]
      by_cases hti : i < t.length
      · have hd : decide ((i : Int) < (t.length : Int)) = true := decide_eq_true (by omega)
        simp only [hd, if_true]
        rw [ixL_in hti]
        simp only [Option.bind_some]
        rw [iadd64 (by omega) (by omega), ← Int.natCast_add_one]
        have ih0 := turn_loop t w hw k (i + 1) l (by omega) (by omega) hl hm hs
        cases htt : t[i] with
        | false => simpa using ih0
        | true =>
          have hle := let_eq l i (by rw [hl]; exact hlt)
          simp only [decide_eq_true_eq] at hle
          simp only [if_true, hle, Option.bind_some]
          cases hL : letT l[i] with
          | false => simpa using ih0
          | true =>
            have h1 := turn1 l[i] (by have := of_decide_eq_true hL; exact this)
            simp only [if_true]
            rw [ixL_in (show i < l.length by omega)]
            simp only [Option.bind_some, Int.toNat_natCast]
            refine turn_loop t w hw k (i + 1) _ (by omega) (by omega) (by simp [hl]) ?_ ?_
            · rw [List.map_set, h1.1, ← hm]
              have : (l.map smT)[i]'(by simp; omega) = smT l[i] := by simp
              rw [← this, List.set_getElem_self]
            · intro c hc
              rcases List.mem_or_eq_of_mem_set hc with h | h
              · exact hs c h
              · rw [h]; exact h1.2
      · have hd : decide ((i : Int) < (t.length : Int)) = false := decide_eq_false (by omega)
        simp only [hd, Bool.false_eq_true, if_false]
        exact ⟨l, rfl, hm, hs⟩
    · rw [if_neg (by omega)]
      simp only [Option.bind_some, Bool.false_eq_true, if_false]
      exact ⟨l, rfl, hm, hs⟩
theorem iand3 (x : Int) : ∃ n : Nat, iand .i64 x 3 = (n : Int) ∧ n ≤ 3 := by
  have h : (BitVec.ofInt 64 x &&& BitVec.ofInt 64 3).toNat ≤ 3 := by
    rw [BitVec.toNat_and]; exact Nat.le_trans Nat.and_le_right (by decide)
  have e : iand .i64 x 3 = IntKind.i64.wrap ((BitVec.ofInt 64 x &&& BitVec.ofInt 64 3).toNat : Int) := rfl
  exact ⟨_, by rw [e, wrap64 (by omega) (by omega)], h⟩
def spaces4 : List (List UInt8) := [[], [32], [9, 10], [12, 13, 32]]
theorem sp4 (x : Int) : ∃ a, ixL ([[], [32], [9, 10], [12, 13, 32]] : List (List UInt8)) (iand .i64 x 3) = some a ∧ a.length ≤ 3 ∧ ∀ c ∈ a, spT c = true := by
  obtain ⟨n, h, hn⟩ := iand3 x
  rw [h, ixL_nat]
  match n, hn with
  | 0, _ => exact ⟨[], rfl, by decide, by decide⟩
  | 1, _ => exact ⟨[32], rfl, by decide, by decide⟩
  | 2, _ => exact ⟨[9, 10], rfl, by decide, by decide⟩
  | 3, _ => exact ⟨[12, 13, 32], rfl, by decide, by decide⟩
theorem names_end (c : Int) (w : List UInt8) (t : List Bool) (ah be : Int) (hw : w.length ≤ 100) (hws : ∀ x ∈ w, spT x = false) (hne : w ≠ []) (hn : leaf_Name c = some w)
    (h1 : labT (w.map smT) = c) (h2 : labT (120 :: w.map smT) = 0) (h3 : labT (w.map smT ++ [32, 46]) = 0) : law09_LeafNames c t ah be = some true := by
  obtain ⟨r, e, hm, hs⟩ := turn_loop t w hw 1099511627776 0 w (by omega) (by omega) rfl rfl hws
  have hl : r.length = w.length := by have := congrArg List.length hm; simpa using this
  obtain ⟨a, a1, a2, a3⟩ := sp4 ah
  obtain ⟨b, b1, b2, b3⟩ := sp4 be
  obtain ⟨x, p, rfl⟩ : ∃ x p, r = x :: p := by
    cases r with
    | nil => exact absurd (List.eq_nil_of_length_eq_zero (by rw [← hl]; rfl)) hne
    | cons x p => exact ⟨x, p, rfl⟩
  obtain ⟨q, y, hq⟩ : ∃ q y, x :: p = q ++ [y] := ⟨(x :: p).dropLast, (x :: p).getLast (by simp), (List.dropLast_concat_getLast (by simp)).symm⟩
  have hx := hs x (by simp)
  have hy := hs y (by rw [hq]; simp)
  generalize hr : x :: p = r at *
  unfold law09_LeafNames
  simp only [Int.natCast_zero] at e
  rw [shown9, hn]
  simp only [Option.bind_some, decide_eq_true_eq, hne, if_false]
  rw [szC_ok (by omega)]
  simp only [Option.bind_some, e]
  rw [szC_ok (by simp; omega), a1, b1]
  simp only [Option.bind_some, if_true]
  rw [szC_ok (by rw [List.length_append]; omega)]
  simp only [Option.bind_some]
  rw [szC_ok (by rw [List.length_append, List.length_append]; omega)]
  simp only [Option.bind_some]
  have t1 : Lib.trimS (a ++ r ++ b) [9, 10, 12, 13, 32] = r := trim_mid a3 b3 hr.symm hq hx hy
  have t2 : Lib.trimS ([120] ++ r) [9, 10, 12, 13, 32] = [120] ++ r := by
    have := trim_mid (a := []) (b := []) (m := [120] ++ r) (x := 120) (y := y) (p := r) (q := [120] ++ q) (by simp) (by simp) rfl (by rw [hq]; simp) (by decide) hy
    simpa using this
  have t3 : Lib.trimS (r ++ [32, 46]) [9, 10, 12, 13, 32] = r ++ [32, 46] := by
    have := trim_mid (a := []) (b := []) (m := r ++ [32, 46]) (x := x) (y := 46) (p := p ++ [32, 46]) (q := r ++ [32]) (by simp) (by simp) (by rw [← hr]; rfl) (by simp) hx (by decide)
    simpa using this
  rw [Label_eq (by rw [List.length_append, List.length_append]; omega), t1, hm, h1]
  simp only [Option.bind_some, if_true]
  rw [Label_eq (by rw [List.length_append]; simp; omega), t2, List.map_append, hm]
  simp only [Option.bind_some]
  rw [if_pos (by exact h2), szC_ok (by rw [List.length_append]; simp; omega)]
  simp only [Option.bind_some]
  rw [Label_eq (by rw [List.length_append]; simp; omega), t3, List.map_append, hm]
  simp only [Option.bind_some]
  congr 1
  exact decide_eq_true h3
theorem law_LeafNames_all (c : Int) (t : List Bool) (ah be : Int) (_hc : inR .i64 c) (_ht : ∀ x ∈ t, True) (_ha : inR .i64 ah) (_hb : inR .i64 be) : law09_LeafNames c t ah be = some true := by
  by_cases h1 : c = 1
  · subst h1; exact names_end 1 [85, 84, 70, 45, 56] t ah be (by decide) (by decide) (by decide) rfl (by decide) (by decide) (by decide)
  by_cases h2 : c = 2
  · subst h2; exact names_end 2 [119, 105, 110, 100, 111, 119, 115, 45, 49, 50, 53, 50] t ah be (by decide) (by decide) (by decide) rfl (by decide) (by decide) (by decide)
  by_cases h3 : c = 3
  · subst h3; exact names_end 3 [85, 84, 70, 45, 49, 54] t ah be (by decide) (by decide) (by decide) rfl (by decide) (by decide) (by decide)
  have hn : leaf_Name c = some [] := by unfold leaf_Name; simp [h1, h2, h3]
  unfold law09_LeafNames
  rw [shown9, hn]
  simp only [Option.bind_some, decide_true, if_true, decide_eq_true_eq]
  by_cases h : c < 1
  · rw [if_pos h]; rfl
  · rw [if_neg h, decide_eq_true (by omega)]; rfl
end Go.Proofs.YtcmfgjiemjlogaaDoor
