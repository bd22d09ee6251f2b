/- The laws on how a body ends, in plain Lean. -/
import Derived.Test.YtcikflhenbpdiaaDoorU6A
import Derived.Test.YtcikflhenbpdiaaDoorLSays
import Derived.Test.YtcikflhenbpdiaaDoorLBoth
import Derived.Test.YtcikflhenbpdiaaDoorLOthers
import Derived.KernelRfl
namespace Go.Proofs.YtcikflhenbpdiaaDoor
open Go.Av
set_option linter.unusedVariables false
set_option linter.unusedSimpArgs false
set_option maxRecDepth 100000
theorem shown6 : law06_shown = some true := by kernel_rfl
theorem says_loop (l : List (List UInt8 × List UInt8)) (hl : l.length < 1099511627776) : ∀ (k i : Nat), i ≤ l.length → l.length - i < k → law06_FramingSays_L19 l k (i : Int) = some (Sum.inr ()) := by
  intro k
  induction k with
  | zero => intro i _ h; omega
  | succ k ih =>
    intro i hi hk
    simp only [law06_FramingSays_L19]
    by_cases hlt : i < l.length
    · rw [if_pos (decide_eq_true (by omega)), ixL_in hlt, ixL_in (by simp; omega), List.getElem_append_left hlt]
      simp only [Option.bind_some, decide_true, Bool.and_self, Bool.not_true, Bool.false_eq_true, if_false]
      rw [iadd64 (by omega) (by omega), show (i : Int) + 1 = ((i + 1 : Nat) : Int) by omega]
      exact ih (i + 1) hlt (by omega)
    · rw [if_neg (by simp; omega)]
theorem law_FramingSays (l : List (List UInt8 × List UInt8)) (m : List UInt8) (st : Int) (_ : ∀ y ∈ l, True ∧ True) (_ : True) (_ : inR .i64 st) (hb0 : sumM (fun y0 => ((y0.1.length + 1) + (y0.2.length + 1)) + 1) l + 1 + (m.length + 1 + 1) ≤ 1048576) : law06_FramingSays l m st = some true := by
  have hb : sumM mFld l + 1 + (m.length + 1 + 1) ≤ 1048576 := hb0
  have hs : sumM mFld l ≤ 16777216 := by omega
  have hr := roomF_of hs
  have hlen := hr.ok.1
  unfold law06_FramingSays
  rw [shown6]
  have hcut : slL (l ++ [([33], [])]) 0 (l.length : Int) = some l := by
    rw [slL_to (by simp), List.take_left']
    rfl
  simp only [Option.bind_some]
  rw [szC_ok (by omega), szC_ok (by simp; omega), hcut]
  simp only [Option.bind_some]
  rw [req_eq hr, resp_eq hr, ref_req_eq hr, ref_resp_eq hr, body_said, body_resp]
  have hl := says_loop l (by omega) 1099511627776 0 (by omega) (by omega)
  rw [show ((0 : Nat) : Int) = 0 from rfl] at hl
  rw [hl]
  have hx : ixL (l ++ [([33], [])]) (l.length : Int) = some ([33], []) := by rw [ixL_nat]; simp
  simp [hx]
theorem allT_app (a b : List Fld) (n : List UInt8) : allT (a ++ b) n = allT a n ++ allT b n := by unfold allT; simp
theorem sum_app {α : Type} {m : α → Nat} : ∀ a b : List α, sumM m (a ++ b) = sumM m a + sumM m b
  | [], b => by simp [sumM]
  | x :: a, b => by simp only [List.cons_append, sumM, sum_app a b]; omega
theorem law_FramingBoth (l : List (List UInt8 × List UInt8)) (len cod : List UInt8) (at4 : Int) (m : List UInt8) (st : Int) (_ : ∀ y ∈ l, True ∧ True) (_ : True) (_ : True) (ha : inR .i64 at4) (_ : True) (_ : inR .i64 st)
    (hb0 : sumM (fun y0 => ((y0.1.length + 1) + (y0.2.length + 1)) + 1) l + 1 + (len.length + 1 + (cod.length + 1 + (1 + (m.length + 1 + 1)))) ≤ 1048576) : law06_FramingBoth l len cod at4 m st = some true := by
  have hb : sumM mFld l + 1 + (len.length + 1 + (cod.length + 1 + (1 + (m.length + 1 + 1)))) ≤ 1048576 := hb0
  obtain ⟨a1, a2⟩ := ha
  have hlen : l.length ≤ 16777216 := (okF_of (l := l) (by omega)).1
  unfold law06_FramingBoth
  rw [shown6]
  obtain ⟨j, hj2⟩ : ∃ j : Nat, (if decide (at4 < 0) = true then some (ineg .i64 (iadd .i64 at4 1)) else some at4) = some (j : Int) := by
    by_cases h : at4 < 0
    · refine ⟨(-(at4 + 1)).toNat, ?_⟩
      have e : ineg .i64 (iadd .i64 at4 1) = -(at4 + 1) := by
        rw [iadd64 (by omega) (by omega)]
        exact wrap64 (by omega) (by omega)
      rw [if_pos (decide_eq_true h), e, Int.toNat_of_nonneg (by omega)]
    · refine ⟨at4.toNat, ?_⟩
      rw [if_neg (by simpa using h), Int.toNat_of_nonneg (by omega)]
  rw [hj2]
  have e1 : iadd .i64 (l.length : Int) 1 = ((l.length + 1 : Nat) : Int) := by rw [iadd64 (by omega) (by omega)]; omega
  have e2 : irem (j : Int) ((l.length + 1 : Nat) : Int) = ((j % (l.length + 1) : Nat) : Int) := by rw [irem_eq (by omega)]; simp
  have hk : j % (l.length + 1) ≤ l.length := by have := Nat.mod_lt j (show 0 < l.length + 1 by omega); omega
  generalize j % (l.length + 1) = q at e2 hk
  simp only [Option.bind_some, e1, e2]
  rw [chk_ok (decide_eq_true (by omega)), slL_to hk, slL_from hk]
  simp only [Option.bind_some]
  rw [szC_ok (by simp; omega), szC_ok (by simp; omega), szC_ok (by simp; omega), szC_ok (by simp; omega)]
  simp only [Option.bind_some]
  generalize hM : (((l.take q ++ [([67, 111, 110, 116, 101, 110, 116, 45, 76, 69, 78, 71, 84, 72], len)]) ++ l.drop q) ++ [([116, 114, 97, 110, 115, 102, 101, 114, 45, 101, 110, 99, 111, 100, 105, 110, 103], cod)] : List Fld) = M
  have hs : sumM mFld M ≤ 16777216 := by
    have h1 := sum_app (m := mFld) (l.take q) (l.drop q)
    rw [List.take_append_drop] at h1
    rw [← hM, sum_app, sum_app, sum_app]
    simp only [sumM, mFld, List.length_cons, List.length_nil]
    omega
  have hr := roomF_of hs
  rw [req_eq hr, resp_eq hr]
  have hC : allT M teN ≠ [] := by
    rw [← hM, allT_app]
    have : allT [(([116, 114, 97, 110, 115, 102, 101, 114, 45, 101, 110, 99, 111, 100, 105, 110, 103] : List UInt8), cod)] teN = [cod] := by
      rw [allT_cons, if_pos (show sameT ([116, 114, 97, 110, 115, 102, 101, 114, 45, 101, 110, 99, 111, 100, 105, 110, 103] : List UInt8) teN = true from by decide +kernel)]; rfl
    rw [this]; simp
  have hL : allT M clN ≠ [] := by
    rw [← hM, allT_app, allT_app, allT_app]
    have : allT [(([67, 111, 110, 116, 101, 110, 116, 45, 76, 69, 78, 71, 84, 72] : List UInt8), len)] clN = [len] := by
      rw [allT_cons, if_pos (show sameT ([67, 111, 110, 116, 101, 110, 116, 45, 76, 69, 78, 71, 84, 72] : List UInt8) clN = true from by decide +kernel)]; rfl
    rw [this]; simp
  have e3 : ∀ op, saidT (allT M teN) (allT M clN) op = ((0, 0), 19) := fun op => by unfold saidT; rw [if_pos ⟨hC, hL⟩]
  have e4 : respT (allT M teN) (allT M clN) m st = ((0, 0), 19) := by unfold respT; rw [e3]; simp
  rw [e3, e4]
  simp
/-! the other fields -/
def cL2 : List UInt8 := [99, 79, 78, 84, 69, 78, 84, 45, 108, 69, 78, 71, 84, 72]
def tE2 : List UInt8 := [84, 82, 65, 78, 83, 70, 69, 82, 45, 101, 110, 99, 111, 100, 105, 110, 103]
def keepF (f : Fld) : List Fld := (if sameT f.1 clN then [(cL2, f.2)] else []) ++ (if sameT f.1 teN then [(tE2, f.2)] else [])
theorem same_len {a b : List UInt8} (h : sameT a b = true) : a.length = b.length := by
  unfold sameT at h
  have := congrArg List.length (of_decide_eq_true h)
  simpa [lowT_len] using this
theorem keep_sum (f : Fld) : sumM mFld (keepF f) ≤ mFld f := by
  unfold keepF
  by_cases h1 : sameT f.1 clN = true
  · have a := same_len h1
    by_cases h2 : sameT f.1 teN = true
    · have b := same_len h2
      have : clN.length = teN.length := by rw [← a, ← b]
      exact absurd this (by decide)
    · simp only [h1, h2, if_true, Bool.false_eq_true, if_false, List.append_nil, sumM, mFld]
      have : cL2.length = clN.length := rfl
      omega
  · by_cases h2 : sameT f.1 teN = true
    · have b := same_len h2
      simp only [h1, h2, if_true, Bool.false_eq_true, if_false, List.nil_append, sumM, mFld]
      have : tE2.length = teN.length := rfl
      omega
    · simp only [h1, h2, Bool.false_eq_true, if_false, List.nil_append, sumM]; omega
def keepL (l : List Fld) : List Fld := l.flatMap keepF
theorem keepL_sum : ∀ l : List Fld, sumM mFld (keepL l) ≤ sumM mFld l
  | [] => Nat.le_refl _
  | f :: l => by
    have h1 := keep_sum f
    have h2 := keepL_sum l
    unfold keepL at h2 ⊢
    rw [List.flatMap_cons, sum_app]
    simp only [sumM]; omega
theorem keep_cl : ∀ l : List Fld, allT (keepL l) clN = allT l clN
  | [] => rfl
  | f :: l => by
    have ih := keep_cl l
    unfold keepL at ih ⊢
    rw [List.flatMap_cons, allT_app, ih, allT_cons]
    have e1 : sameT cL2 clN = true := by decide +kernel
    have e2 : sameT tE2 clN = false := by decide +kernel
    unfold keepF
    cases sameT f.1 clN <;> cases sameT f.1 teN <;> simp [allT_cons, allT_nil, e1, e2]
theorem keep_te : ∀ l : List Fld, allT (keepL l) teN = allT l teN
  | [] => rfl
  | f :: l => by
    have ih := keep_te l
    unfold keepL at ih ⊢
    rw [List.flatMap_cons, allT_app, ih, allT_cons]
    have e1 : sameT cL2 teN = false := by decide +kernel
    have e2 : sameT tE2 teN = true := by decide +kernel
    unfold keepF
    cases sameT f.1 clN <;> cases sameT f.1 teN <;> simp [allT_cons, allT_nil, e1, e2]
theorem same_alike {n n' : List UInt8} (h : lowT n = lowT n') (x : List UInt8) : sameT x n = sameT x n' := by unfold sameT; rw [h]
theorem others_loop (l : List Fld) (hl : okF l) : ∀ (k i : Nat) (acc : List Fld), i ≤ l.length → l.length - i < k → acc.length ≤ 2 * i → law06_FramingOthers_L46 l k (i : Int) acc = some (acc ++ keepL (l.drop i)) := by
  intro k
  induction k with
  | zero => intro i acc _ h; omega
  | succ k ih =>
    intro i acc hi hk ha
    have hl1 := hl.1
    simp only [law06_FramingOthers_L46]
    by_cases hlt : i < l.length
    · have hat := okF_at hl hlt
      have h1 : okF [(l[i].1, l[i].2)] := ⟨by simp, fun f hf => by simp at hf; subst hf; exact hat⟩
      rw [if_pos (decide_eq_true (by omega)), ixL_in hlt, drop_step hlt]
      simp only [Option.bind_some]
      rw [Count_eq h1 (by decide), Count_eq h1 (by decide)]
      simp only [Option.bind_some]
      have hc : ∀ (n n' : List UInt8), lowT n = lowT n' → decide ((((allT [(l[i].1, l[i].2)] n).length : Nat) : Int) = 1) = sameT l[i].1 n' := fun n n' h => by
        rw [allT_cons, allT_nil, same_alike h]
        cases sameT l[i].1 n' <;> rfl
      rw [hc _ clN (by decide +kernel), hc _ teN (by decide +kernel)]
      have hn : iadd .i64 (i : Int) 1 = ((i + 1 : Nat) : Int) := by rw [iadd64 (by omega) (by omega)]; omega
      rw [hn]
      have hkeep : keepL (l[i] :: l.drop (i + 1)) = keepF l[i] ++ keepL (l.drop (i + 1)) := by unfold keepL; rw [List.flatMap_cons]
      rw [hkeep]
      unfold keepF
      by_cases b1 : sameT l[i].1 clN = true
      · have b2 : sameT l[i].1 teN = false := by
          rcases h : sameT l[i].1 teN with _ | _
          · rfl
          · have a := same_len b1
            have b := same_len h
            exact absurd (a.symm.trans b) (by decide)
        rw [szC_ok (by simp; omega)]
        simp only [b1, b2, if_true, Bool.false_eq_true, if_false, Option.bind_some, List.append_nil]
        rw [ih (i + 1) _ hlt (by omega) (by simp; omega)]
        simp [cL2]
      · by_cases b2 : sameT l[i].1 teN = true
        · simp only [b1, b2, if_true, Bool.false_eq_true, if_false, Option.bind_some, List.nil_append]
          rw [szC_ok (by simp; omega)]
          simp only [Option.bind_some]
          rw [ih (i + 1) _ hlt (by omega) (by simp; omega)]
          simp [tE2]
        · simp only [b1, b2, Bool.false_eq_true, if_false, Option.bind_some, List.nil_append]
          rw [ih (i + 1) _ hlt (by omega) (by omega)]
    · rw [if_neg (by simp; omega), List.drop_eq_nil_of_le (by omega)]
      simp [keepL]
theorem law_FramingOthers (l : List (List UInt8 × List UInt8)) (m : List UInt8) (st : Int) (_ : ∀ y ∈ l, True ∧ True) (_ : True) (_ : inR .i64 st) (hb0 : sumM (fun y0 => ((y0.1.length + 1) + (y0.2.length + 1)) + 1) l + 1 + (m.length + 1 + 1) ≤ 1048576) : law06_FramingOthers l m st = some true := by
  have hb : sumM mFld l + 1 + (m.length + 1 + 1) ≤ 1048576 := hb0
  have hs : sumM mFld l ≤ 16777216 := by omega
  have hr := roomF_of hs
  have hk := keepL_sum l
  have hr2 := roomF_of (l := keepL l) (by omega)
  have hlen := hr.ok.1
  unfold law06_FramingOthers
  rw [shown6]
  have hl := others_loop l hr.ok 1099511627776 0 [] (by omega) (by omega) (by simp)
  rw [show ((0 : Nat) : Int) = 0 from rfl, List.drop_zero, List.nil_append] at hl
  simp only [Option.bind_some]
  rw [show ([] : List (List UInt8 × List UInt8)) = ([] : List Fld) from rfl, hl]
  simp only [Option.bind_some]
  rw [req_eq hr, req_eq hr2, resp_eq hr, resp_eq hr2, keep_cl, keep_te]
  simp
end Go.Proofs.YtcikflhenbpdiaaDoor
