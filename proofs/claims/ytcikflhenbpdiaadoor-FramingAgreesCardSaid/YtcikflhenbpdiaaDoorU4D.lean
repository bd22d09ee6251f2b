/- fields, plain: sizes; lists that stand in several fields; a name's fields and the others. -/
import Derived.Test.YtcikflhenbpdiaaDoorU4C
import Derived.Test.YtcikflhenbpdiaaDoorRow
import Derived.Test.YtcikflhenbpdiaaDoorGE
namespace Go.Proofs.YtcikflhenbpdiaaDoor
open Go.Av
set_option linter.unusedVariables false
set_option linter.unusedSimpArgs false
set_option maxRecDepth 100000
/-- a field's bulk -/
def mFld (p : Fld) : Nat := ((p.1.length + 1) + (p.2.length + 1)) + 1
theorem mem_sum {α : Type} {m : α → Nat} : ∀ {l : List α} {x : α}, x ∈ l → m x ≤ sumM m l
  | [], x, h => by simp at h
  | y :: l, x, h => by
    rcases List.mem_cons.1 h with rfl | h
    · simp only [sumM]; omega
    · have := mem_sum (m := m) h
      simp only [sumM]; omega
theorem len_sum {α : Type} {m : α → Nat} (h1 : ∀ x, 1 ≤ m x) : ∀ l : List α, l.length ≤ sumM m l
  | [] => Nat.le_refl _
  | x :: l => by
    have := len_sum h1 l
    have := h1 x
    simp only [sumM, List.length_cons]; omega
theorem okF_of {l : List Fld} (h : sumM mFld l ≤ 16777216) : okF l := by
  refine ⟨Nat.le_trans (len_sum (m := mFld) (fun x => by unfold mFld; omega) l) h, fun f hf => ?_⟩
  have : f.1.length + 1 + (f.2.length + 1) + 1 ≤ sumM mFld l := mem_sum (m := mFld) hf
  omega
theorem okN_of {l : List (List UInt8)} (h : sumM (fun s => s.length + 1) l ≤ 16777216) : okN l := by
  refine ⟨Nat.le_trans (len_sum (fun x => by omega) l) h, fun f hf => ?_⟩
  have : f.length + 1 ≤ sumM (fun s : List UInt8 => s.length + 1) l := mem_sum (m := fun s : List UInt8 => s.length + 1) hf
  omega
theorem wtV_all (n : List UInt8) : ∀ l : List Fld, wtV (allT l n) ≤ sumM mFld l
  | [] => Nat.le_refl _
  | f :: l => by
    have := wtV_all n l
    rw [allT_cons]
    split
    · simp only [wtV, sumM, mFld]; omega
    · simp only [sumM]; omega
/-! lists joined by commas -/
def jnC (vs : List (List UInt8)) : List UInt8 := vs.flatMap fun v => 44 :: v
theorem jnC_cons (v : List UInt8) (vs : List (List UInt8)) : jnC (v :: vs) = 44 :: (v ++ jnC vs) := by unfold jnC; rw [List.flatMap_cons]; rfl
theorem jnC_len : ∀ vs : List (List UInt8), (jnC vs).length = wtV vs
  | [] => rfl
  | v :: vs => by rw [jnC_cons, wtV, ← jnC_len vs]; simp; omega
theorem ls_comma (r : List UInt8) : ∀ (v : List UInt8) (m : Nat) (cur : List UInt8) (l : List (List UInt8)), lsT m cur v = some l → lsT m cur (v ++ 44 :: r) = (lsT 0 [] r).map (l ++ ·)
  | [], m, cur, l, h => by
    rw [lsT] at h
    split at h
    · rename_i h0
      subst h0
      rw [← Option.some.inj h, List.nil_append, ls0c]
      congr 1
      funext x
      unfold addT
      split <;> simp
    · exact absurd h (by simp)
  | c :: v, m, cur, l, h => by
    have ih := fun m cur l h => ls_comma r v m cur l h
    rw [lsT] at h
    rw [List.cons_append, lsT]
    by_cases h0 : m = 0
    · rw [if_pos h0] at h ⊢
      by_cases h1 : c = 34
      · rw [if_pos h1] at h ⊢; exact ih _ _ _ h
      · rw [if_neg h1] at h ⊢
        by_cases h2 : c = 44
        · rw [if_pos h2] at h ⊢
          obtain ⟨l', e1, e2⟩ := Option.map_eq_some_iff.1 h
          rw [ih _ _ _ e1, Option.map_map, ← e2]
          congr 1
          funext x
          simp only [Function.comp, addT]
          split <;> simp
        · rw [if_neg h2] at h ⊢; exact ih _ _ _ h
    · rw [if_neg h0] at h ⊢
      by_cases h1 : m = 1
      · rw [if_pos h1] at h ⊢
        by_cases h2 : c = 34
        · rw [if_pos h2] at h ⊢; exact ih _ _ _ h
        · rw [if_neg h2] at h ⊢
          by_cases h3 : c = 92
          · rw [if_pos h3] at h ⊢; exact ih _ _ _ h
          · rw [if_neg h3] at h ⊢
            by_cases h4 : quoT c = true
            · rw [if_pos h4] at h ⊢; exact ih _ _ _ h
            · rw [if_neg h4] at h; exact absurd h (by simp)
      · rw [if_neg h1] at h ⊢
        by_cases h4 : quoT c = true
        · rw [if_pos h4] at h ⊢; exact ih _ _ _ h
        · rw [if_neg h4] at h; exact absurd h (by simp)
theorem ls_join : ∀ (vs : List (List UInt8)) (v : List UInt8) (l : List (List UInt8)), mbF (v :: vs) = some l → lsT 0 [] (v ++ jnC vs) = some l
  | [], v, l, h => by
    rw [mbF, mbF] at h
    obtain ⟨m, h1, h2⟩ := Option.bind_eq_some_iff.1 h
    simp only [Option.map_some, List.append_nil] at h2
    rw [show jnC [] = [] from rfl, List.append_nil, h1, h2]
  | w :: vs, v, l, h => by
    rw [mbF] at h
    obtain ⟨m, h1, h2⟩ := Option.bind_eq_some_iff.1 h
    obtain ⟨l', h3, h4⟩ := Option.map_eq_some_iff.1 h2
    rw [jnC_cons, ls_comma _ _ _ _ _ h1, ls_join vs w l' h3, ← h4]
    rfl
/-! a name's fields and the others -/
theorem in_one (n : List UInt8) (f : Fld) : inT [n] f = sameT f.1 n := by unfold inT; simp
theorem all_out (n : List UInt8) : ∀ l : List Fld, allT (outT l [n]) n = []
  | [] => rfl
  | f :: l => by
    rw [outT_cons, in_one]
    cases h : sameT f.1 n with
    | true => simp only [if_true]; exact all_out n l
    | false => simp only [Bool.false_eq_true, if_false]; rw [allT_cons, h]; simp only [Bool.false_eq_true, if_false]; exact all_out n l
theorem out_all (n : List UInt8) : ∀ l : List Fld, (outT l [n]).length + (allT l n).length = l.length
  | [] => rfl
  | f :: l => by
    have := out_all n l
    rw [outT_cons, in_one, allT_cons]
    cases h : sameT f.1 n with
    | true => simp only [if_true, List.length_cons]; omega
    | false => simp only [Bool.false_eq_true, if_false, List.length_cons]; omega
theorem out_out (l : List Fld) (ns : List (List UInt8)) : outT (outT l ns) ns = outT l ns := by
  unfold outT
  rw [List.filter_filter]
  simp
theorem out_nil (l : List Fld) : outT l [] = l := by
  unfold outT inT
  simp
theorem okF_out {l : List Fld} (h : okF l) (ns : List (List UInt8)) : okF (outT l ns) :=
  ⟨Nat.le_trans (List.length_filter_le _ _) h.1, fun f hf => h.2 f (List.mem_filter.1 hf).1⟩
theorem okN_one {n : List UInt8} (h : n.length ≤ 16777216) : okN [n] := ⟨by simp, fun x hx => by simp at hx; rw [hx]; exact h⟩
end Go.Proofs.YtcikflhenbpdiaaDoor
