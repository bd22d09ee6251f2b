/- fields, plain: All, Count, Without, Members, Same. -/
import Derived.Test.YtmelgmhcamjfiaaDoorU3D
import Derived.Test.YtmelgmhcamjfiaaDoorU4A
import Derived.Test.YtmelgmhcamjfiaaDoorGF
import Derived.Test.YtmelgmhcamjfiaaDoorGH
namespace Go.Proofs.YtmelgmhcamjfiaaDoor
open Go.Av
set_option linter.unusedVariables false
set_option linter.unusedSimpArgs false
set_option maxRecDepth 100000
abbrev Fld := List UInt8 × List UInt8
def okF (l : List Fld) : Prop := l.length ≤ 4398046510976 ∧ ∀ f ∈ l, f.1.length ≤ 140737488351232 ∧ f.2.length ≤ 140737488351232
theorem okF_at {l : List Fld} (h : okF l) {i : Nat} (hi : i < l.length) : l[i].1.length ≤ 140737488351232 ∧ l[i].2.length ≤ 140737488351232 := h.2 _ (List.getElem_mem hi)
def allT (l : List Fld) (n : List UInt8) : List (List UInt8) := (l.filter fun f => sameT f.1 n).map (·.2)
theorem allT_nil (n : List UInt8) : allT [] n = [] := rfl
theorem allT_cons (f : Fld) (l : List Fld) (n : List UInt8) : allT (f :: l) n = if sameT f.1 n then f.2 :: allT l n else allT l n := by
  unfold allT
  rw [List.filter_cons]
  split <;> rfl
theorem allT_len (l : List Fld) (n : List UInt8) : (allT l n).length ≤ l.length := by
  unfold allT
  rw [List.length_map]
  exact List.length_filter_le _ _
theorem All_loop {l : List Fld} {n : List UInt8} (hl : okF l) (hn : n.length ≤ 140737488351232) : ∀ (k i : Nat) (acc : List (List UInt8)), i ≤ l.length → l.length - i < k → acc.length ≤ i →
    fields_All_L17 l n k (i : Int) acc = some (acc ++ allT (l.drop i) n)
  | 0, i, acc, _, hk, _ => by omega
  | k + 1, i, acc, hi, hk, ha => by
    have h1 := hl.1
    simp only [fields_All_L17, decide_eq_true_eq]
    by_cases hlt : i < l.length
    · have hx := okF_at hl hlt
      rw [if_pos (by omega), ixL_in hlt, drop_step hlt, allT_cons]
      simp only [Option.bind_some]
      rw [Same_eq hx.1 hn]
      simp only [Option.bind_some]
      rw [iadd64 (by omega) (by omega), ← Int.natCast_add_one]
      cases h : sameT l[i].1 n with
      | true =>
        simp only [if_true]
        rw [szC_ok (by simp; omega)]
        simp only [Option.bind_some]
        rw [All_loop hl hn k (i + 1) (acc ++ [l[i].2]) (by omega) (by omega) (by simp; omega)]
        simp
      | false =>
        simp only [Bool.false_eq_true, if_false]
        rw [All_loop hl hn k (i + 1) acc (by omega) (by omega) (by omega)]
    · rw [if_neg (by omega), List.drop_eq_nil_of_le (by omega), allT_nil, List.append_nil]
theorem All_eq {l : List Fld} {n : List UInt8} (hl : okF l) (hn : n.length ≤ 140737488351232) : fields_All l n = some (allT l n) := by
  have h1 := hl.1
  unfold fields_All
  have := All_loop hl hn 140737488355328 0 [] (by omega) (by omega) (by simp)
  simp only [Int.natCast_zero, List.drop_zero, List.nil_append] at this
  rw [this]; rfl
theorem Count_eq {l : List Fld} {n : List UInt8} (hl : okF l) (hn : n.length ≤ 140737488351232) : fields_Count l n = some ((allT l n).length : Int) := by
  unfold fields_Count
  rw [All_eq hl hn]; rfl
theorem ref_All_loop {l : List Fld} {n : List UInt8} (hl : okF l) (hn : n.length ≤ 140737488351232) : ∀ (k i : Nat) (acc : List (List UInt8)), i ≤ l.length → l.length - i < k → acc.length ≤ i →
    ref04_All_L20 l n k (i : Int) acc = some (acc ++ allT (l.drop i) n)
  | 0, i, acc, _, hk, _ => by omega
  | k + 1, i, acc, hi, hk, ha => by
    have h1 := hl.1
    simp only [ref04_All_L20, decide_eq_true_eq]
    by_cases hlt : i < l.length
    · have hx := okF_at hl hlt
      rw [if_pos (by omega), ixL_in hlt, drop_step hlt, allT_cons]
      simp only [Option.bind_some]
      rw [ref_Same_eq hx.1 hn]
      simp only [Option.bind_some]
      rw [iadd64 (by omega) (by omega), ← Int.natCast_add_one]
      cases h : sameT l[i].1 n with
      | true =>
        simp only [if_true]
        rw [szC_ok (by simp; omega)]
        simp only [Option.bind_some]
        rw [ref_All_loop hl hn k (i + 1) (acc ++ [l[i].2]) (by omega) (by omega) (by simp; omega)]
        simp
      | false =>
        simp only [Bool.false_eq_true, if_false]
        rw [ref_All_loop hl hn k (i + 1) acc (by omega) (by omega) (by omega)]
    · rw [if_neg (by omega), List.drop_eq_nil_of_le (by omega), allT_nil, List.append_nil]
theorem ref_All_eq {l : List Fld} {n : List UInt8} (hl : okF l) (hn : n.length ≤ 140737488351232) : ref04_All l n = some (allT l n) := by
  have h1 := hl.1
  unfold ref04_All
  have := ref_All_loop hl hn 140737488355328 0 [] (by omega) (by omega) (by simp)
  simp only [Int.natCast_zero, List.drop_zero, List.nil_append] at this
  rw [this]; rfl
/-! without names -/
def inT (ns : List (List UInt8)) (f : Fld) : Bool := ns.any fun n => sameT f.1 n
def outT (l : List Fld) (ns : List (List UInt8)) : List Fld := l.filter fun f => !inT ns f
theorem outT_cons (f : Fld) (l : List Fld) (ns : List (List UInt8)) : outT (f :: l) ns = if inT ns f then outT l ns else f :: outT l ns := by
  unfold outT
  rw [List.filter_cons]
  cases inT ns f <;> rfl
def okN (ns : List (List UInt8)) : Prop := ns.length ≤ 8796093021952 ∧ ∀ n ∈ ns, n.length ≤ 140737488351232
theorem Index_loop {ns : List (List UInt8)} {x : Fld} (hn : okN ns) (hx : x.1.length ≤ 140737488351232) : ∀ (k i : Nat), i ≤ ns.length → ns.length - i < k →
    ∃ o, slices_IndexFunc_string_string_L348 ns x k (i : Int) = some o ∧ (match o with | Sum.inl v => inT (ns.drop i) x = true ∧ 0 ≤ v | Sum.inr _ => inT (ns.drop i) x = false)
  | 0, i, _, hk => by omega
  | k + 1, i, hi, hk => by
    have h1 := hn.1
    simp only [slices_IndexFunc_string_string_L348, decide_eq_true_eq]
    by_cases hlt : i < ns.length
    · have e : inT (ns.drop i) x = (sameT x.1 ns[i] || inT (ns.drop (i + 1)) x) := by
        unfold inT
        rw [drop_step hlt, List.any_cons]
      rw [if_pos (by omega), ixL_in hlt, e]
      simp only [Option.bind_some]
      rw [Same_eq hx (hn.2 _ (List.getElem_mem hlt))]
      simp only [Option.bind_some]
      cases h : sameT x.1 ns[i] with
      | true => exact ⟨_, rfl, rfl, by omega⟩
      | false =>
        simp only [Bool.false_eq_true, if_false, Bool.false_or]
        rw [iadd64 (by omega) (by omega), ← Int.natCast_add_one]
        exact Index_loop hn hx k (i + 1) (by omega) (by omega)
    · rw [if_neg (by omega), List.drop_eq_nil_of_le (by omega)]
      exact ⟨_, rfl, rfl⟩
theorem Without_loop {l : List Fld} {ns : List (List UInt8)} (hl : okF l) (hn : okN ns) : ∀ (k i : Nat) (acc : List Fld), i ≤ l.length → l.length - i < k → acc.length ≤ i →
    fields_Without_L272 l ns k (i : Int) acc = some (acc ++ outT (l.drop i) ns)
  | 0, i, acc, _, hk, _ => by omega
  | k + 1, i, acc, hi, hk, ha => by
    have h1 := hl.1
    have h2 := hn.1
    simp only [fields_Without_L272, decide_eq_true_eq]
    by_cases hlt : i < l.length
    · have hx := okF_at hl hlt
      obtain ⟨o, ho, hm⟩ := Index_loop (x := l[i]) hn hx.1 140737488355328 0 (by omega) (by omega)
      simp only [Int.natCast_zero, List.drop_zero] at ho hm
      rw [if_pos (by omega), ixL_in hlt, drop_step hlt, outT_cons]
      simp only [Option.bind_some]
      rw [ho, iadd64 (by omega) (by omega), ← Int.natCast_add_one]
      cases o with
      | inl v =>
        obtain ⟨m1, m2⟩ := hm
        simp only [Option.bind_some, decide_eq_true m2, m1, Bool.not_true, Bool.false_eq_true, if_false, if_true]
        rw [Without_loop hl hn k (i + 1) acc (by omega) (by omega) (by omega)]
      | inr v =>
        simp only at hm
        simp only [Option.bind_some, show decide ((0 : Int) ≤ -1) = false from rfl, hm, Bool.not_false, if_true, Bool.false_eq_true, if_false]
        rw [szC_ok (by simp; omega)]
        simp only [Option.bind_some]
        rw [Without_loop hl hn k (i + 1) (acc ++ [l[i]]) (by omega) (by omega) (by simp; omega)]
        simp
    · rw [if_neg (by omega), List.drop_eq_nil_of_le (by omega)]
      simp [outT]
theorem Without_eq {l : List Fld} {ns : List (List UInt8)} (hl : okF l) (hn : okN ns) : fields_Without l ns = some (outT l ns) := by
  have h1 := hl.1
  unfold fields_Without
  have := Without_loop hl hn 140737488355328 0 [] (by omega) (by omega) (by simp)
  simp only [Int.natCast_zero, List.drop_zero, List.nil_append] at this
  rw [this]; rfl
theorem ref_in_loop {l : List Fld} {ns : List (List UInt8)} (hl : okF l) (hn : okN ns) {j : Nat} (hj : j < l.length) : ∀ (k i : Nat) (b : Bool), i ≤ ns.length → ns.length - i < k →
    ref04_Without_L73 ns l (j : Int) k b (i : Int) = some (b || inT (ns.drop i) l[j])
  | 0, i, b, _, hk => by omega
  | k + 1, i, b, hi, hk => by
    have h1 := hn.1
    have hx := okF_at hl hj
    simp only [ref04_Without_L73, decide_eq_true_eq]
    by_cases hlt : i < ns.length
    · have e : inT (ns.drop i) l[j] = (sameT l[j].1 ns[i] || inT (ns.drop (i + 1)) l[j]) := by
        unfold inT
        rw [drop_step hlt, List.any_cons]
      rw [if_pos (by omega), ixL_in hj, ixL_in hlt, e]
      simp only [Option.bind_some]
      rw [ref_Same_eq hx.1 (hn.2 _ (List.getElem_mem hlt))]
      simp only [Option.bind_some]
      rw [iadd64 (by omega) (by omega), ← Int.natCast_add_one, ref_in_loop hl hn hj k (i + 1) _ (by omega) (by omega), ref_in_loop hl hn hj k (i + 1) _ (by omega) (by omega)]
      cases b <;> simp
    · rw [if_neg (by omega), List.drop_eq_nil_of_le (by omega)]
      simp [inT]
theorem ref_Without_loop {l : List Fld} {ns : List (List UInt8)} (hl : okF l) (hn : okN ns) : ∀ (k i : Nat) (acc : List Fld), i ≤ l.length → l.length - i < k → acc.length ≤ i →
    ref04_Without_L62 l ns k (i : Int) acc = some (acc ++ outT (l.drop i) ns)
  | 0, i, acc, _, hk, _ => by omega
  | k + 1, i, acc, hi, hk, ha => by
    have h1 := hl.1
    have h2 := hn.1
    simp only [ref04_Without_L62, decide_eq_true_eq]
    by_cases hlt : i < l.length
    · have ho := ref_in_loop hl hn hlt 140737488355328 0 false (by omega) (by omega)
      simp only [Int.natCast_zero, List.drop_zero, Bool.false_or] at ho
      rw [if_pos (by omega), ho, ixL_in hlt, drop_step hlt, outT_cons, iadd64 (by omega) (by omega), ← Int.natCast_add_one]
      simp only [Option.bind_some]
      cases h : inT ns l[i] with
      | true =>
        simp only [Bool.not_true, Bool.false_eq_true, if_false, if_true]
        rw [ref_Without_loop hl hn k (i + 1) acc (by omega) (by omega) (by omega)]
      | false =>
        simp only [Bool.not_false, if_true, Bool.false_eq_true, if_false]
        rw [szC_ok (by simp; omega)]
        simp only [Option.bind_some]
        rw [ref_Without_loop hl hn k (i + 1) (acc ++ [l[i]]) (by omega) (by omega) (by simp; omega)]
        simp
    · rw [if_neg (by omega), List.drop_eq_nil_of_le (by omega)]
      simp [outT]
theorem ref_Without_eq {l : List Fld} {ns : List (List UInt8)} (hl : okF l) (hn : okN ns) : ref04_Without l ns = some (outT l ns) := by
  have h1 := hl.1
  unfold ref04_Without
  have := ref_Without_loop hl hn 140737488355328 0 [] (by omega) (by omega) (by simp)
  simp only [Int.natCast_zero, List.drop_zero, List.nil_append] at this
  rw [this]; rfl
theorem samef_loop (a b : List Fld) (hl : a.length ≤ 100000000000000) (he : a.length = b.length) : ∀ (k i : Nat), i ≤ a.length → a.length - i < k →
    ref04_Same_L9 a b k (i : Int) = some (if a.drop i = b.drop i then Sum.inr () else Sum.inl false)
  | 0, i, _, hk => by omega
  | k + 1, i, hi, hk => by
    simp only [ref04_Same_L9, decide_eq_true_eq]
    by_cases hlt : i < a.length
    · have hlb : i < b.length := by omega
      have e : (a.drop i = b.drop i) = (a[i] = b[i] ∧ a.drop (i + 1) = b.drop (i + 1)) := by
        conv => lhs; rw [drop_step hlt, drop_step hlb]
        exact List.cons.injEq _ _ _ _
      rw [if_pos (by omega), ixL_in hlt, ixL_in hlb]
      simp only [Option.bind_some, e]
      by_cases h : a[i] = b[i]
      · rw [iadd64 (by omega) (by omega), ← Int.natCast_add_one, samef_loop a b hl he k (i + 1) (by omega) (by omega)]
        simp only [h, decide_true, Bool.and_self, Bool.not_true, Bool.false_eq_true, if_false, true_and]
      · have h2 : (decide (a[i].1 = b[i].1) && decide (a[i].2 = b[i].2)) = false := by
          rw [Bool.and_eq_false_imp]
          intro h3
          exact decide_eq_false fun h4 => h (Prod.ext (of_decide_eq_true h3) h4)
        simp only [h, h2, Bool.not_false, if_true, if_false, false_and]
    · rw [if_neg (by omega), List.drop_eq_nil_of_le (by omega), List.drop_eq_nil_of_le (by omega), if_pos rfl]
theorem SameF_eq {a b : List Fld} (hl : a.length ≤ 100000000000000) : ref04_Same a b = some (decide (a = b)) := by
  unfold ref04_Same
  by_cases he : a.length = b.length
  · have := samef_loop a b hl he 140737488355328 0 (by omega) (by omega)
    simp only [Int.natCast_zero, List.drop_zero] at this
    rw [this, he]
    simp only [decide_true, Bool.not_true, Bool.false_eq_true, if_false]
    by_cases h : a = b
    · simp [h]
    · simp [h]
  · have hn : a ≠ b := fun e => he (by rw [e])
    rw [decide_eq_false (by omega)]
    simp [hn]
end Go.Proofs.YtmelgmhcamjfiaaDoor
