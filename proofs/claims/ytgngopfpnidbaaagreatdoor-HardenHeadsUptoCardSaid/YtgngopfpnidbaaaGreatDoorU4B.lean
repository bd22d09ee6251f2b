/- fields, plain: All, Count, Without, Members, Same. -/
import Derived.Test.YtgngopfpnidbaaaGreatDoorV3C
import Derived.Test.YtgngopfpnidbaaaGreatDoorU4A
import Derived.Test.YtgngopfpnidbaaaGreatDoorGF
import Derived.Test.YtgngopfpnidbaaaGreatDoorGH
namespace Go.Proofs.YtgngopfpnidbaaaGreatDoor
open Go.Av
set_option linter.unusedVariables false
set_option linter.unusedSimpArgs false
set_option maxRecDepth 100000
abbrev Fld := List UInt8 × List UInt8
def okF (l : List Fld) : Prop := l.length ≤ 16777216 ∧ ∀ f ∈ l, f.1.length ≤ 16777216 ∧ f.2.length ≤ 16777216
theorem okF_at {l : List Fld} (h : okF l) {i : Nat} (hi : i < l.length) : l[i].1.length ≤ 16777216 ∧ l[i].2.length ≤ 16777216 := h.2 _ (List.getElem_mem hi)
def allT (l : List Fld) (n : List UInt8) : List (List UInt8) := (l.filter fun f => sameT f.1 n).map (·.2)
theorem allT_nil (n : List UInt8) : allT [] n = [] := rfl
theorem allT_cons (f : Fld) (l : List Fld) (n : List UInt8) : allT (f :: l) n = if sameT f.1 n then f.2 :: allT l n else allT l n := by
  unfold allT
  rw [List.filter_cons]
  split <;> rfl
theorem allT_len (l : List Fld) (n : List UInt8) : (allT l n).length ≤ l.length := by
  unfold allT
  rw [List.length_map]
  exact List.length_filter_le _ _
theorem All_loop {l : List Fld} {n : List UInt8} (hl : okF l) (hn : n.length ≤ 16777216) : ∀ (k i : Nat) (acc : List (List UInt8)), i ≤ l.length → l.length - i < k → acc.length ≤ i →
    fields_All_L17 l n k (i : Int) acc = some (acc ++ allT (l.drop i) n)
  | 0, i, acc, _, hk, _ => by omega
  | k + 1, i, acc, hi, hk, ha => by
    have h1 := hl.1
    simp only [fields_All_L17, decide_eq_true_eq]
    by_cases hlt : i < l.length
    · have hx := okF_at hl hlt
      rw [if_pos (by omega), ixL_in hlt, drop_step hlt, allT_cons]
      simp only [Option.bind_some]
      rw [Same_eq hx.1 hn]
      simp only [Option.bind_some]
      rw [iadd64 (by omega) (by omega), ← Int.natCast_add_one]
      cases h : sameT l[i].1 n with
      | true =>
        simp only [if_true]
        rw [szC_ok (by simp; omega)]
        simp only [Option.bind_some]
        rw [All_loop hl hn k (i + 1) (acc ++ [l[i].2]) (by omega) (by omega) (by simp; omega)]
        simp
      | false =>
        simp only [Bool.false_eq_true, if_false]
        rw [All_loop hl hn k (i + 1) acc (by omega) (by omega) (by omega)]
    · rw [if_neg (by omega), List.drop_eq_nil_of_le (by omega), allT_nil, List.append_nil]
theorem All_eq {l : List Fld} {n : List UInt8} (hl : okF l) (hn : n.length ≤ 16777216) : fields_All l n = some (allT l n) := by
  have h1 := hl.1
  unfold fields_All
  have := All_loop hl hn 1099511627776 0 [] (by omega) (by omega) (by simp)
  simp only [Int.natCast_zero, List.drop_zero, List.nil_append] at this
  rw [this]; rfl
theorem ref_All_loop {l : List Fld} {n : List UInt8} (hl : okF l) (hn : n.length ≤ 16777216) : ∀ (k i : Nat) (acc : List (List UInt8)), i ≤ l.length → l.length - i < k → acc.length ≤ i →
    ref04_All_L20 l n k (i : Int) acc = some (acc ++ allT (l.drop i) n)
  | 0, i, acc, _, hk, _ => by omega
  | k + 1, i, acc, hi, hk, ha => by
    have h1 := hl.1
    simp only [ref04_All_L20, decide_eq_true_eq]
    by_cases hlt : i < l.length
    · have hx := okF_at hl hlt
      rw [if_pos (by omega), ixL_in hlt, drop_step hlt, allT_cons]
      simp only [Option.bind_some]
      rw [ref_Same_eq hx.1 hn]
      simp only [Option.bind_some]
      rw [iadd64 (by omega) (by omega), ← Int.natCast_add_one]
      cases h : sameT l[i].1 n with
      | true =>
        simp only [if_true]
        rw [szC_ok (by simp; omega)]
        simp only [Option.bind_some]
        rw [ref_All_loop hl hn k (i + 1) (acc ++ [l[i].2]) (by omega) (by omega) (by simp; omega)]
        simp
      | false =>
        simp only [Bool.false_eq_true, if_false]
        rw [ref_All_loop hl hn k (i + 1) acc (by omega) (by omega) (by omega)]
    · rw [if_neg (by omega), List.drop_eq_nil_of_le (by omega), allT_nil, List.append_nil]
theorem ref_All_eq {l : List Fld} {n : List UInt8} (hl : okF l) (hn : n.length ≤ 16777216) : ref04_All l n = some (allT l n) := by
  have h1 := hl.1
  unfold ref04_All
  have := ref_All_loop hl hn 1099511627776 0 [] (by omega) (by omega) (by simp)
  simp only [Int.natCast_zero, List.drop_zero, List.nil_append] at this
  rw [this]; rfl

/-! without names -/
def inT (ns : List (List UInt8)) (f : Fld) : Bool := ns.any fun n => sameT f.1 n
def outT (l : List Fld) (ns : List (List UInt8)) : List Fld := l.filter fun f => !inT ns f
theorem outT_cons (f : Fld) (l : List Fld) (ns : List (List UInt8)) : outT (f :: l) ns = if inT ns f then outT l ns else f :: outT l ns := by
  unfold outT
  rw [List.filter_cons]
  cases inT ns f <;> rfl
def okN (ns : List (List UInt8)) : Prop := ns.length ≤ 16777216 ∧ ∀ n ∈ ns, n.length ≤ 16777216
theorem Index_loop {ns : List (List UInt8)} {x : Fld} (hn : okN ns) (hx : x.1.length ≤ 16777216) : ∀ (k i : Nat), i ≤ ns.length → ns.length - i < k →
    ∃ o, slices_IndexFunc_string_string_L348 ns x k (i : Int) = some o ∧ (match o with | Sum.inl v => inT (ns.drop i) x = true ∧ 0 ≤ v | Sum.inr _ => inT (ns.drop i) x = false)
  | 0, i, _, hk => by omega
  | k + 1, i, hi, hk => by
    have h1 := hn.1
    simp only [slices_IndexFunc_string_string_L348, decide_eq_true_eq]
    by_cases hlt : i < ns.length
    · have e : inT (ns.drop i) x = (sameT x.1 ns[i] || inT (ns.drop (i + 1)) x) := by
        unfold inT
        rw [drop_step hlt, List.any_cons]
      rw [if_pos (by omega), ixL_in hlt, e]
      simp only [Option.bind_some]
      rw [Same_eq hx (hn.2 _ (List.getElem_mem hlt))]
      simp only [Option.bind_some]
      cases h : sameT x.1 ns[i] with
      | true => exact ⟨_, rfl, rfl, by omega⟩
      | false =>
        simp only [Bool.false_eq_true, if_false, Bool.false_or]
        rw [iadd64 (by omega) (by omega), ← Int.natCast_add_one]
        exact Index_loop hn hx k (i + 1) (by omega) (by omega)
    · rw [if_neg (by omega), List.drop_eq_nil_of_le (by omega)]
      exact ⟨_, rfl, rfl⟩
theorem Without_loop {l : List Fld} {ns : List (List UInt8)} (hl : okF l) (hn : okN ns) : ∀ (k i : Nat) (acc : List Fld), i ≤ l.length → l.length - i < k → acc.length ≤ i →
    fields_Without_L272 l ns k (i : Int) acc = some (acc ++ outT (l.drop i) ns)
  | 0, i, acc, _, hk, _ => by omega
  | k + 1, i, acc, hi, hk, ha => by
    have h1 := hl.1
    have h2 := hn.1
    simp only [fields_Without_L272, decide_eq_true_eq]
    by_cases hlt : i < l.length
    · have hx := okF_at hl hlt
      obtain ⟨o, ho, hm⟩ := Index_loop (x := l[i]) hn hx.1 1099511627776 0 (by omega) (by omega)
      simp only [Int.natCast_zero, List.drop_zero] at ho hm
      rw [if_pos (by omega), ixL_in hlt, drop_step hlt, outT_cons]
      simp only [Option.bind_some]
      rw [ho, iadd64 (by omega) (by omega), ← Int.natCast_add_one]
      cases o with
      | inl v =>
        obtain ⟨m1, m2⟩ := hm
        simp only [Option.bind_some, decide_eq_true m2, m1, Bool.not_true, Bool.false_eq_true, if_false, if_true]
        rw [Without_loop hl hn k (i + 1) acc (by omega) (by omega) (by omega)]
      | inr v =>
        simp only at hm
        simp only [Option.bind_some, show decide ((0 : Int) ≤ -1) = false from rfl, hm, Bool.not_false, if_true, Bool.false_eq_true, if_false]
        rw [szC_ok (by simp; omega)]
        simp only [Option.bind_some]
        rw [Without_loop hl hn k (i + 1) (acc ++ [l[i]]) (by omega) (by omega) (by simp; omega)]
        simp
    · rw [if_neg (by omega), List.drop_eq_nil_of_le (by omega)]
      simp [outT]
theorem Without_eq {l : List Fld} {ns : List (List UInt8)} (hl : okF l) (hn : okN ns) : fields_Without l ns = some (outT l ns) := by
  have h1 := hl.1
  unfold fields_Without
  have := Without_loop hl hn 1099511627776 0 [] (by omega) (by omega) (by simp)
  simp only [Int.natCast_zero, List.drop_zero, List.nil_append] at this
  rw [this]; rfl
theorem ref_in_loop {l : List Fld} {ns : List (List UInt8)} (hl : okF l) (hn : okN ns) {j : Nat} (hj : j < l.length) : ∀ (k i : Nat) (b : Bool), i ≤ ns.length → ns.length - i < k →
    ref04_Without_L73 ns l (j : Int) k b (i : Int) = some (b || inT (ns.drop i) l[j])
  | 0, i, b, _, hk => by omega
  | k + 1, i, b, hi, hk => by
    have h1 := hn.1
    have hx := okF_at hl hj
    simp only [ref04_Without_L73, decide_eq_true_eq]
    by_cases hlt : i < ns.length
    · have e : inT (ns.drop i) l[j] = (sameT l[j].1 ns[i] || inT (ns.drop (i + 1)) l[j]) := by
        unfold inT
        rw [drop_step hlt, List.any_cons]
      rw [if_pos (by omega), ixL_in hj, ixL_in hlt, e]
      simp only [Option.bind_some]
      rw [ref_Same_eq hx.1 (hn.2 _ (List.getElem_mem hlt))]
      simp only [Option.bind_some]
      rw [iadd64 (by omega) (by omega), ← Int.natCast_add_one, ref_in_loop hl hn hj k (i + 1) _ (by omega) (by omega), ref_in_loop hl hn hj k (i + 1) _ (by omega) (by omega)]
      cases b <;> simp
    · rw [if_neg (by omega), List.drop_eq_nil_of_le (by omega)]
      simp [inT]
theorem ref_Without_loop {l : List Fld} {ns : List (List UInt8)} (hl : okF l) (hn : okN ns) : ∀ (k i : Nat) (acc : List Fld), i ≤ l.length → l.length - i < k → acc.length ≤ i →
    ref04_Without_L62 l ns k (i : Int) acc = some (acc ++ outT (l.drop i) ns)
  | 0, i, acc, _, hk, _ => by omega
  | k + 1, i, acc, hi, hk, ha => by
    have h1 := hl.1
    have h2 := hn.1
    simp only [ref04_Without_L62, decide_eq_true_eq]
    by_cases hlt : i < l.length
    · have ho := ref_in_loop hl hn hlt 1099511627776 0 false (by omega) (by omega)
      simp only [Int.natCast_zero, List.drop_zero, Bool.false_or] at ho
      rw [if_pos (by omega), ho, ixL_in hlt, drop_step hlt, outT_cons, iadd64 (by omega) (by omega), ← Int.natCast_add_one]
      simp only [Option.bind_some]
      cases h : inT ns l[i] with
      | true =>
        simp only [Bool.not_true, Bool.false_eq_true, if_false, if_true]
        rw [ref_Without_loop hl hn k (i + 1) acc (by omega) (by omega) (by omega)]
      | false =>
        simp only [Bool.not_false, if_true, Bool.false_eq_true, if_false]
        rw [szC_ok (by simp; omega)]
        simp only [Option.bind_some]
        rw [ref_Without_loop hl hn k (i + 1) (acc ++ [l[i]]) (by omega) (by omega) (by simp; omega)]
        simp
    · rw [if_neg (by omega), List.drop_eq_nil_of_le (by omega)]
      simp [outT]
theorem ref_Without_eq {l : List Fld} {ns : List (List UInt8)} (hl : okF l) (hn : okN ns) : ref04_Without l ns = some (outT l ns) := by
  have h1 := hl.1
  unfold ref04_Without
  have := ref_Without_loop hl hn 1099511627776 0 [] (by omega) (by omega) (by simp)
  simp only [Int.natCast_zero, List.drop_zero, List.nil_append] at this
  rw [this]; rfl
theorem samef_loop (a b : List Fld) (hl : a.length ≤ 1000000000) (he : a.length = b.length) : ∀ (k i : Nat), i ≤ a.length → a.length - i < k →
    ref04_Same_L9 a b k (i : Int) = some (if a.drop i = b.drop i then Sum.inr () else Sum.inl false)
  | 0, i, _, hk => by omega
  | k + 1, i, hi, hk => by
    simp only [ref04_Same_L9, decide_eq_true_eq]
    by_cases hlt : i < a.length
    · have hlb : i < b.length := by omega
      have e : (a.drop i = b.drop i) = (a[i] = b[i] ∧ a.drop (i + 1) = b.drop (i + 1)) := by
        conv => lhs; rw [drop_step hlt, drop_step hlb]
        exact List.cons.injEq _ _ _ _
      rw [if_pos (by omega), ixL_in hlt, ixL_in hlb]
      simp only [Option.bind_some, e]
      by_cases h : a[i] = b[i]
      · rw [iadd64 (by omega) (by omega), ← Int.natCast_add_one, samef_loop a b hl he k (i + 1) (by omega) (by omega)]
        simp only [h, decide_true, Bool.and_self, Bool.not_true, Bool.false_eq_true, if_false, true_and]
      · have h2 : (decide (a[i].1 = b[i].1) && decide (a[i].2 = b[i].2)) = false := by
          rw [Bool.and_eq_false_imp]
          intro h3
          exact decide_eq_false fun h4 => h (Prod.ext (of_decide_eq_true h3) h4)
        simp only [h, h2, Bool.not_false, if_true, if_false, false_and]
    · rw [if_neg (by omega), List.drop_eq_nil_of_le (by omega), List.drop_eq_nil_of_le (by omega), if_pos rfl]
theorem SameF_eq {a b : List Fld} (hl : a.length ≤ 1000000000) : ref04_Same a b = some (decide (a = b)) := by
  unfold ref04_Same
  by_cases he : a.length = b.length
  · have := samef_loop a b hl he 1099511627776 0 (by omega) (by omega)
    simp only [Int.natCast_zero, List.drop_zero] at this
    rw [this, he]
    simp only [decide_true, Bool.not_true, Bool.false_eq_true, if_false]
    by_cases h : a = b
    · simp [h]
    · simp [h]
  · have hn : a ≠ b := fun e => he (by rw [e])
    rw [decide_eq_false (by omega)]
    simp [hn]

/-! members -/
def mbF : List (List UInt8) → Option (List (List UInt8))
  | [] => some []
  | v :: vs => (lsT 0 [] v).bind fun m => (mbF vs).map (m ++ ·)
def wtV : List (List UInt8) → Nat
  | [] => 0
  | v :: vs => v.length + 1 + wtV vs
def mbR (acc : List (List UInt8)) : Option (List (List UInt8)) → Sum ((List (List UInt8)) × Int) (List (List UInt8))
  | none => Sum.inl ([], 5)
  | some l => Sum.inr (acc ++ l)
theorem mbR_app (acc m : List (List UInt8)) (o : Option (List (List UInt8))) : mbR acc (o.map (m ++ ·)) = mbR (acc ++ m) o := by
  cases o <;> simp [mbR]
theorem wtV_at {vs : List (List UInt8)} {i : Nat} (h : i < vs.length) : wtV (vs.drop i) = vs[i].length + 1 + wtV (vs.drop (i + 1)) := by
  rw [drop_step h, wtV]
theorem wtV_len : ∀ vs : List (List UInt8), vs.length ≤ wtV vs
  | [] => Nat.le_refl _
  | v :: vs => by have := wtV_len vs; simp only [wtV, List.length_cons]; omega
def membT (vs : List (List UInt8)) : List (List UInt8) × Int := lsR [] (mbF vs)
theorem Members_loop {r : List (List UInt8)} : ∀ (k i : Nat) (acc : List (List UInt8)), i ≤ r.length → r.length - i < k → acc.length + wtV (r.drop i) ≤ 16777216 → r.length ≤ 16777216 →
    fields_Members_L18 r k (i : Int) acc = some (mbR acc (mbF (r.drop i)))
  | 0, i, acc, _, hk, _, _ => by omega
  | k + 1, i, acc, hi, hk, ha, hr => by
    simp only [fields_Members_L18, decide_eq_true_eq]
    by_cases hlt : i < r.length
    · have hw := wtV_at hlt
      have hll := listT_len r[i]
      rw [if_pos (by omega), ixL_in hlt, drop_step hlt, mbF]
      simp only [Option.bind_some]
      rw [List_eq (by omega)]
      simp only [Option.bind_some]
      unfold listT at hll ⊢
      cases hs : lsT 0 [] r[i] with
      | none => rfl
      | some m =>
        rw [hs] at hll
        simp only [lsR, List.nil_append] at hll
        simp only [lsR, Option.bind_some, List.nil_append, decide_true, Bool.not_true, Bool.false_eq_true, if_false]
        rw [szC_ok (by simp; omega)]
        simp only [Option.bind_some]
        rw [iadd64 (by omega) (by omega), ← Int.natCast_add_one, mbR_app, Members_loop k (i + 1) (acc ++ m) (by omega) (by omega) (by simp; omega) hr]
    · rw [if_neg (by omega), List.drop_eq_nil_of_le (by omega)]
      simp [mbF, mbR]
theorem Members_eq {l : List Fld} {n : List UInt8} (hl : okF l) (hn : n.length ≤ 16777216) (hw : wtV (allT l n) ≤ 16777216) : fields_Members l n = some (membT (allT l n)) := by
  have h1 := hl.1
  have h2 := allT_len l n
  unfold fields_Members membT
  rw [All_eq hl hn]
  simp only [Option.bind_some]
  have := Members_loop (r := allT l n) 1099511627776 0 [] (by omega) (by omega) (by simpa using hw) (by omega)
  simp only [Int.natCast_zero, List.drop_zero] at this
  rw [this]
  cases mbF (allT l n) <;> rfl
theorem ref_Members_loop {r : List (List UInt8)} : ∀ (k i : Nat) (acc : List (List UInt8)), i ≤ r.length → r.length - i < k → acc.length + wtV (r.drop i) ≤ 16777216 → r.length ≤ 16777216 →
    ref04_Members_L18 r k (i : Int) acc = some (mbR acc (mbF (r.drop i)))
  | 0, i, acc, _, hk, _, _ => by omega
  | k + 1, i, acc, hi, hk, ha, hr => by
    simp only [ref04_Members_L18, decide_eq_true_eq]
    by_cases hlt : i < r.length
    · have hw := wtV_at hlt
      have hll := listT_len r[i]
      rw [if_pos (by omega), ixL_in hlt, drop_step hlt, mbF]
      simp only [Option.bind_some]
      rw [ref_List_eq (by omega)]
      simp only [Option.bind_some]
      unfold listT at hll ⊢
      cases hs : lsT 0 [] r[i] with
      | none => rfl
      | some m =>
        rw [hs] at hll
        simp only [lsR, List.nil_append] at hll
        simp only [lsR, Option.bind_some, List.nil_append, decide_true, Bool.not_true, Bool.false_eq_true, if_false]
        rw [szC_ok (by simp; omega)]
        simp only [Option.bind_some]
        rw [iadd64 (by omega) (by omega), ← Int.natCast_add_one, mbR_app, ref_Members_loop k (i + 1) (acc ++ m) (by omega) (by omega) (by simp; omega) hr]
    · rw [if_neg (by omega), List.drop_eq_nil_of_le (by omega)]
      simp [mbF, mbR]
theorem ref_Members_eq {l : List Fld} {n : List UInt8} (hl : okF l) (hn : n.length ≤ 16777216) (hw : wtV (allT l n) ≤ 16777216) : ref04_Members l n = some (membT (allT l n)) := by
  have h1 := hl.1
  have h2 := allT_len l n
  unfold ref04_Members membT
  rw [ref_All_eq hl hn]
  simp only [Option.bind_some]
  have := ref_Members_loop (r := allT l n) 1099511627776 0 [] (by omega) (by omega) (by simpa using hw) (by omega)
  simp only [Int.natCast_zero, List.drop_zero] at this
  rw [this]
  cases mbF (allT l n) <;> rfl
end Go.Proofs.YtgngopfpnidbaaaGreatDoor
