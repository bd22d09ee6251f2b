/- fields, plain: All, Count, Without, Members, Same. -/
import Derived.Test.YtcikflhenbpdiaaDoorV3C
import Derived.Test.YtcikflhenbpdiaaDoorU4A
import Derived.Test.YtcikflhenbpdiaaDoorGF
import Derived.Test.YtcikflhenbpdiaaDoorGH
namespace Go.Proofs.YtcikflhenbpdiaaDoor
open Go.Av
set_option linter.unusedVariables false
set_option linter.unusedSimpArgs false
set_option maxRecDepth 100000
abbrev Fld := List UInt8 × List UInt8
def okF (l : List Fld) : Prop := l.length ≤ 16777216 ∧ ∀ f ∈ l, f.1.length ≤ 16777216 ∧ f.2.length ≤ 16777216
theorem okF_at {l : List Fld} (h : okF l) {i : Nat} (hi : i < l.length) : l[i].1.length ≤ 16777216 ∧ l[i].2.length ≤ 16777216 := h.2 _ (List.getElem_mem hi)
def allT (l : List Fld) (n : List UInt8) : List (List UInt8) := (l.filter fun f => sameT f.1 n).map (·.2)
theorem allT_nil (n : List UInt8) : allT [] n = [] := rfl
theorem allT_cons (f : Fld) (l : List Fld) (n : List UInt8) : allT (f :: l) n = if sameT f.1 n then f.2 :: allT l n else allT l n := by
  unfold allT
  rw [List.filter_cons]
  split <;> rfl
theorem allT_len (l : List Fld) (n : List UInt8) : (allT l n).length ≤ l.length := by
  unfold allT
  rw [List.length_map]
  exact List.length_filter_le _ _
theorem All_loop {l : List Fld} {n : List UInt8} (hl : okF l) (hn : n.length ≤ 16777216) : ∀ (k i : Nat) (acc : List (List UInt8)), i ≤ l.length → l.length - i < k → acc.length ≤ i →
    fields_All_L17 l n k (i : Int) acc = some (acc ++ allT (l.drop i) n)
  | 0, i, acc, _, hk, _ => by omega
  | k + 1, i, acc, hi, hk, ha => by
    have h1 := hl.1
    simp only [fields_All_L17, decide_eq_true_eq]
    by_cases hlt : i < l.length
    · have hx := okF_at hl hlt
      rw [if_pos (by omega), ixL_in hlt, drop_step hlt, allT_cons]
      simp only [Option.bind_some]
      rw [Same_eq hx.1 hn]
      simp only [Option.bind_some]
      rw [iadd64 (by omega) (by omega), ← Int.natCast_add_one]
      cases h : sameT l[i].1 n with
      | true =>
        simp only [if_true]
        rw [szC_ok (by simp; omega)]
        simp only [Option.bind_some]
        rw [All_loop hl hn k (i + 1) (acc ++ [l[i].2]) (by omega) (by omega) (by simp; omega)]
        simp
      | false =>
        simp only [Bool.false_eq_true, if_false]
        rw [All_loop hl hn k (i + 1) acc (by omega) (by omega) (by omega)]
    · rw [if_neg (by omega), List.drop_eq_nil_of_le (by omega), allT_nil, List.append_nil]
theorem All_eq {l : List Fld} {n : List UInt8} (hl : okF l) (hn : n.length ≤ 16777216) : fields_All l n = some (allT l n) := by
  have h1 := hl.1
  unfold fields_All
  have := All_loop hl hn 1099511627776 0 [] (by omega) (by omega) (by simp)
  simp only [Int.natCast_zero, List.drop_zero, List.nil_append] at this
  rw [this]; rfl
theorem Count_eq {l : List Fld} {n : List UInt8} (hl : okF l) (hn : n.length ≤ 16777216) : fields_Count l n = some ((allT l n).length : Int) := by
  unfold fields_Count
  rw [All_eq hl hn]; rfl
theorem ref_All_loop {l : List Fld} {n : List UInt8} (hl : okF l) (hn : n.length ≤ 16777216) : ∀ (k i : Nat) (acc : List (List UInt8)), i ≤ l.length → l.length - i < k → acc.length ≤ i →
    ref04_All_L20 l n k (i : Int) acc = some (acc ++ allT (l.drop i) n)
  | 0, i, acc, _, hk, _ => by omega
  | k + 1, i, acc, hi, hk, ha => by
    have h1 := hl.1
    simp only [ref04_All_L20, decide_eq_true_eq]
    by_cases hlt : i < l.length
    · have hx := okF_at hl hlt
      rw [if_pos (by omega), ixL_in hlt, drop_step hlt, allT_cons]
      simp only [Option.bind_some]
      rw [ref_Same_eq hx.1 hn]
      simp only [Option.bind_some]
      rw [iadd64 (by omega) (by omega), ← Int.natCast_add_one]
      cases h : sameT l[i].1 n with
      | true =>
        simp only [if_true]
        rw [szC_ok (by simp; omega)]
        simp only [Option.bind_some]
        rw [ref_All_loop hl hn k (i + 1) (acc ++ [l[i].2]) (by omega) (by omega) (by simp; omega)]
        simp
      | false =>
        simp only [Bool.false_eq_true, if_false]
        rw [ref_All_loop hl hn k (i + 1) acc (by omega) (by omega) (by omega)]
    · rw [if_neg (by omega), List.drop_eq_nil_of_le (by omega), allT_nil, List.append_nil]
theorem ref_All_eq {l : List Fld} {n : List UInt8} (hl : okF l) (hn : n.length ≤ 16777216) : ref04_All l n = some (allT l n) := by
  have h1 := hl.1
  unfold ref04_All
  have := ref_All_loop hl hn 1099511627776 0 [] (by omega) (by omega) (by simp)
  simp only [Int.natCast_zero, List.drop_zero, List.nil_append] at this
  rw [this]; rfl

/-! without names -/
def inT (ns : List (List UInt8)) (f : Fld) : Bool := ns.any fun n => sameT f.1 n
def outT (l : List Fld) (ns : List (List UInt8)) : List Fld := l.filter fun f => !inT ns f
theorem outT_cons (f : Fld) (l : List Fld) (ns : List (List UInt8)) : outT (f :: l) ns = if inT ns f then outT l ns else f :: outT l ns := by
  unfold outT
  rw [List.filter_cons]
  cases inT ns f <;> rfl
def okN (ns : List (List UInt8)) : Prop := ns.length ≤ 16777216 ∧ ∀ n ∈ ns, n.length ≤ 16777216

/-! members -/
def mbF : List (List UInt8) → Option (List (List UInt8))
  | [] => some []
  | v :: vs => (lsT 0 [] v).bind fun m => (mbF vs).map (m ++ ·)
def wtV : List (List UInt8) → Nat
  | [] => 0
  | v :: vs => v.length + 1 + wtV vs
def mbR (acc : List (List UInt8)) : Option (List (List UInt8)) → Sum ((List (List UInt8)) × Int) (List (List UInt8))
  | none => Sum.inl ([], 5)
  | some l => Sum.inr (acc ++ l)
theorem mbR_app (acc m : List (List UInt8)) (o : Option (List (List UInt8))) : mbR acc (o.map (m ++ ·)) = mbR (acc ++ m) o := by
  cases o <;> simp [mbR]
theorem wtV_at {vs : List (List UInt8)} {i : Nat} (h : i < vs.length) : wtV (vs.drop i) = vs[i].length + 1 + wtV (vs.drop (i + 1)) := by
  rw [drop_step h, wtV]
theorem wtV_len : ∀ vs : List (List UInt8), vs.length ≤ wtV vs
  | [] => Nat.le_refl _
  | v :: vs => by have := wtV_len vs; simp only [wtV, List.length_cons]; omega
theorem Members_loop {r : List (List UInt8)} : ∀ (k i : Nat) (acc : List (List UInt8)), i ≤ r.length → r.length - i < k → acc.length + wtV (r.drop i) ≤ 16777216 → r.length ≤ 16777216 →
    fields_Members_L18 r k (i : Int) acc = some (mbR acc (mbF (r.drop i)))
  | 0, i, acc, _, hk, _, _ => by omega
  | k + 1, i, acc, hi, hk, ha, hr => by
    simp only [fields_Members_L18, decide_eq_true_eq]
    by_cases hlt : i < r.length
    · have hw := wtV_at hlt
      have hll := listT_len r[i]
      rw [if_pos (by omega), ixL_in hlt, drop_step hlt, mbF]
      simp only [Option.bind_some]
      rw [List_eq (by omega)]
      simp only [Option.bind_some]
      unfold listT at hll ⊢
      cases hs : lsT 0 [] r[i] with
      | none => rfl
      | some m =>
        rw [hs] at hll
        simp only [lsR, List.nil_append] at hll
        simp only [lsR, Option.bind_some, List.nil_append, decide_true, Bool.not_true, Bool.false_eq_true, if_false]
        rw [szC_ok (by simp; omega)]
        simp only [Option.bind_some]
        rw [iadd64 (by omega) (by omega), ← Int.natCast_add_one, mbR_app, Members_loop k (i + 1) (acc ++ m) (by omega) (by omega) (by simp; omega) hr]
    · rw [if_neg (by omega), List.drop_eq_nil_of_le (by omega)]
      simp [mbF, mbR]
def membT (vs : List (List UInt8)) : List (List UInt8) × Int := lsR [] (mbF vs)
theorem Members_eq {l : List Fld} {n : List UInt8} (hl : okF l) (hn : n.length ≤ 16777216) (hw : wtV (allT l n) ≤ 16777216) : fields_Members l n = some (membT (allT l n)) := by
  have h1 := hl.1
  have h2 := allT_len l n
  unfold fields_Members membT
  rw [All_eq hl hn]
  simp only [Option.bind_some]
  have := Members_loop (r := allT l n) 1099511627776 0 [] (by omega) (by omega) (by simpa using hw) (by omega)
  simp only [Int.natCast_zero, List.drop_zero] at this
  rw [this]
  cases mbF (allT l n) <;> rfl
theorem ref_Members_loop {r : List (List UInt8)} : ∀ (k i : Nat) (acc : List (List UInt8)), i ≤ r.length → r.length - i < k → acc.length + wtV (r.drop i) ≤ 16777216 → r.length ≤ 16777216 →
    ref04_Members_L18 r k (i : Int) acc = some (mbR acc (mbF (r.drop i)))
  | 0, i, acc, _, hk, _, _ => by omega
  | k + 1, i, acc, hi, hk, ha, hr => by
    simp only [ref04_Members_L18, decide_eq_true_eq]
    by_cases hlt : i < r.length
    · have hw := wtV_at hlt
      have hll := listT_len r[i]
      rw [if_pos (by omega), ixL_in hlt, drop_step hlt, mbF]
      simp only [Option.bind_some]
      rw [ref_List_eq (by omega)]
      simp only [Option.bind_some]
      unfold listT at hll ⊢
      cases hs : lsT 0 [] r[i] with
      | none => rfl
      | some m =>
        rw [hs] at hll
        simp only [lsR, List.nil_append] at hll
        simp only [lsR, Option.bind_some, List.nil_append, decide_true, Bool.not_true, Bool.false_eq_true, if_false]
        rw [szC_ok (by simp; omega)]
        simp only [Option.bind_some]
        rw [iadd64 (by omega) (by omega), ← Int.natCast_add_one, mbR_app, ref_Members_loop k (i + 1) (acc ++ m) (by omega) (by omega) (by simp; omega) hr]
    · rw [if_neg (by omega), List.drop_eq_nil_of_le (by omega)]
      simp [mbF, mbR]
theorem ref_Members_eq {l : List Fld} {n : List UInt8} (hl : okF l) (hn : n.length ≤ 16777216) (hw : wtV (allT l n) ≤ 16777216) : ref04_Members l n = some (membT (allT l n)) := by
  have h1 := hl.1
  have h2 := allT_len l n
  unfold ref04_Members membT
  rw [ref_All_eq hl hn]
  simp only [Option.bind_some]
  have := ref_Members_loop (r := allT l n) 1099511627776 0 [] (by omega) (by omega) (by simpa using hw) (by omega)
  simp only [Int.natCast_zero, List.drop_zero] at this
  rw [this]
  cases mbF (allT l n) <;> rfl
end Go.Proofs.YtcikflhenbpdiaaDoor
