/- harden, plain: the hop's names, Keeps, lengths, and what is sent on. -/
import Derived.Test.YtgngopfpnidbaaaDoorU4C
import Derived.Test.YtgngopfpnidbaaaDoorU2B
import Derived.Test.YtgngopfpnidbaaaDoorGK
namespace Go.Proofs.YtgngopfpnidbaaaDoor
open Go.Av
set_option linter.unusedVariables false
set_option linter.unusedSimpArgs false
set_option maxRecDepth 100000
theorem lsT_el : ∀ (n : Nat) (m : Nat) (r cur : List UInt8) (l : List (List UInt8)), r.length ≤ n → lsT m cur r = some l → ∀ x ∈ l, x.length ≤ cur.length + r.length
  | n, m, [], cur, l, _, h => by
    rw [lsT] at h
    split at h
    · rw [← Option.some.inj h]; unfold addT
      split
      · simp
      · intro x hx
        simp at hx
        have := trimT_len cur
        rw [hx]; simp; omega
    · exact absurd h (by simp)
  | 0, m, c :: r, cur, l, hn, _ => by simp at hn
  | n + 1, m, c :: r, cur, l, hn, h => by
    have hl : r.length ≤ n := by simpa using hn
    have ih := fun m cur l => lsT_el n m r cur l hl
    rw [lsT] at h
    have key : ∀ {m}, lsT m (cur ++ [c]) r = some l → ∀ x ∈ l, x.length ≤ cur.length + (c :: r).length := fun e x hx => by have := ih _ _ _ e x hx; simp at this ⊢; omega
    split at h
    · split at h
      · exact key h
      · split at h
        · obtain ⟨l', h1, h2⟩ := Option.map_eq_some_iff.1 h
          have := ih _ _ _ h1
          rw [← h2]
          unfold addT
          have ht := trimT_len cur
          split
          · intro x hx; have := this x hx; simp at this ⊢; omega
          · intro x hx
            rcases List.mem_cons.1 hx with rfl | hx
            · simp; omega
            · have := this x hx; simp at this ⊢; omega
        · exact key h
    · split at h
      · split at h
        · exact key h
        · split at h
          · exact key h
          · split at h
            · exact key h
            · exact absurd h (by simp)
      · split at h
        · exact key h
        · exact absurd h (by simp)
theorem mbF_el : ∀ (vs : List (List UInt8)) (m : List (List UInt8)), mbF vs = some m → m.length ≤ wtV vs ∧ ∀ x ∈ m, x.length ≤ wtV vs
  | [], m, h => by
    simp only [mbF, Option.some.injEq] at h
    subst h
    exact ⟨by simp, by simp⟩
  | v :: vs, m, h => by
    simp only [mbF, Option.bind_eq_some_iff, Option.map_eq_some_iff] at h
    obtain ⟨a, ha, b, hb, rfl⟩ := h
    obtain ⟨i1, i2⟩ := mbF_el vs b hb
    have l1 := lsT_len _ _ _ _ _ (Nat.le_refl _) ha
    have l2 := lsT_el _ _ _ _ _ (Nat.le_refl _) ha
    refine ⟨by simp [wtV]; omega, fun x hx => ?_⟩
    simp only [wtV]
    rcases List.mem_append.1 hx with hx | hx
    · have := l2 x hx; simp at this; omega
    · have := i2 x hx; omega
theorem memb_el (vs : List (List UInt8)) : (membT vs).1.length ≤ wtV vs ∧ ∀ x ∈ (membT vs).1, x.length ≤ wtV vs := by
  unfold membT
  cases h : mbF vs with
  | none => simp [lsR]
  | some m => have := mbF_el vs m h; simpa [lsR] using this
theorem memb_err {vs : List (List UInt8)} (h : (membT vs).2 ≠ 0) : (membT vs).1 = [] := by
  unfold membT at *
  cases hm : mbF vs with
  | none => rfl
  | some m => rw [hm] at h; simp [lsR] at h
def connN : List UInt8 := [67, 111, 110, 110, 101, 99, 116, 105, 111, 110].map loT
def baseN : List (List UInt8) := [[67, 111, 110, 110, 101, 99, 116, 105, 111, 110], [75, 101, 101, 112, 45, 65, 108, 105, 118, 101], [80, 114, 111, 120, 121, 45, 67, 111, 110, 110, 101, 99, 116, 105, 111, 110], [84, 69], [84, 114, 97, 105, 108, 101, 114], [84, 114, 97, 110, 115, 102, 101, 114, 45, 69, 110, 99, 111, 100, 105, 110, 103], [85, 112, 103, 114, 97, 100, 101], [67, 111, 110, 116, 101, 110, 116, 45, 76, 101, 110, 103, 116, 104]]
def cN : List UInt8 := [99, 111, 110, 110, 101, 99, 116, 105, 111, 110]
def hostN : List UInt8 := [104, 111, 115, 116]
def hopM (l : List Fld) : List (List UInt8) := (membT (allT l cN)).1.filter fun n => !sameT n hostN
/-- sizes that are ours -/
def okW (l : List Fld) : Prop := okF l ∧ ∀ n, wtV (allT l n) ≤ 1048576
theorem hop_loop (r4 : List (List UInt8) × Int) (h1 : r4.1.length ≤ 16777216) (h2 : ∀ x ∈ r4.1, x.length ≤ 16777216) : ∀ (k i : Nat) (acc : List (List UInt8)), i ≤ r4.1.length → r4.1.length - i < k → acc.length ≤ 16777216 + i →
    harden_hop_L19 r4 k (i : Int) acc = some (acc ++ (r4.1.drop i).filter fun n => !sameT n hostN)
  | 0, i, acc, _, hk, _ => by omega
  | k + 1, i, acc, hi, hk, ha => by
    simp only [harden_hop_L19]
    by_cases hlt : i < r4.1.length
    · rw [if_pos (by simpa using hlt), ixL_in hlt]
      simp only [Option.bind_some]
      rw [Same_eq (h2 _ (List.getElem_mem hlt)) (by decide), drop_step hlt, List.filter_cons]
      simp only [Option.bind_some]
      show (if (!sameT r4.1[i] hostN) = true then _ else _) = _
      cases hs : sameT r4.1[i] hostN with
      | true =>
        simp only [Bool.not_true, Bool.false_eq_true, if_false]
        rw [iadd64 (by omega) (by omega), ← Int.natCast_add_one]
        exact hop_loop r4 h1 h2 k (i + 1) acc (by omega) (by omega) (by omega)
      | false =>
        simp only [Bool.not_false, if_true]
        rw [szC_ok (by simp; omega), iadd64 (by omega) (by omega), ← Int.natCast_add_one]
        simp only [Option.bind_some]
        rw [hop_loop r4 h1 h2 k (i + 1) (acc ++ [r4.1[i]]) (by omega) (by omega) (by simp; omega)]
        simp
    · rw [if_neg (by simpa using hlt), List.drop_eq_nil_of_le (by omega)]
      simp
theorem hop_eq {l : List Fld} (hl : okW l) {more : List (List UInt8)} (hm : more.length ≤ 1000) : harden_hop l more = some ((baseN ++ more) ++ hopM l) := by
  have hw := hl.2 cN
  have he := memb_el (allT l cN)
  unfold harden_hop
  rw [szC_ok (by simp; omega), show ([99, 111, 110, 110, 101, 99, 116, 105, 111, 110] : List UInt8) = cN from rfl, Members_eq hl.1 (by decide) (by omega)]
  simp only [Option.bind_some]
  have := hop_loop (membT (allT l cN)) (by omega) (fun x hx => by have := he.2 x hx; omega) 1099511627776 0 (baseN ++ more) (by omega) (by omega) (by simp [baseN]; omega)
  rw [show ((0 : Nat) : Int) = 0 from rfl] at this
  show Option.bind (harden_hop_L19 (membT (allT l cN)) 1099511627776 0 (baseN ++ more)) _ = _
  rw [this, List.drop_zero]
  rfl
theorem hopM_ok {l : List Fld} (hl : okW l) : (hopM l).length ≤ 1048576 ∧ ∀ x ∈ hopM l, x.length ≤ 1048576 := by
  have hw := hl.2 cN
  have he := memb_el (allT l cN)
  refine ⟨Nat.le_trans (List.length_filter_le _ _) (by omega), fun x hx => ?_⟩
  have := he.2 x (List.mem_filter.1 hx).1
  omega
/-- the order of names tells nothing -/
theorem out_perm {l : List Fld} {a b : List (List UInt8)} (h : ∀ n, n ∈ a ↔ n ∈ b) : outT l a = outT l b := by
  unfold outT inT
  congr 1
  funext f
  congr 1
  rw [Bool.eq_iff_iff, List.any_eq_true, List.any_eq_true]
  exact ⟨fun ⟨n, h1, h2⟩ => ⟨n, (h n).1 h1, h2⟩, fun ⟨n, h1, h2⟩ => ⟨n, (h n).2 h1, h2⟩⟩
def lenF (n : Int) : List Fld := if n < 0 then [] else [([67, 111, 110, 116, 101, 110, 116, 45, 76, 101, 110, 103, 116, 104], textS 10 n)]
theorem length_eq {n : Int} (h : n ≤ 9223372036854775807) : harden_length n = some (lenF n) := by
  unfold harden_length lenF
  by_cases hn : n < 0
  · rw [if_pos (by simpa using hn), if_pos hn]
  · rw [if_neg (by simpa using hn), if_neg hn, digits_eq n h]
    rfl
theorem okN_app {a b : List (List UInt8)} (ha : a.length ≤ 1000 ∧ ∀ x ∈ a, x.length ≤ 1000) (hb : b.length ≤ 1048576 ∧ ∀ x ∈ b, x.length ≤ 1048576) : okN (a ++ b) := by
  refine ⟨by simp; omega, fun n hn => ?_⟩
  rcases List.mem_append.1 hn with h | h
  · have := ha.2 n h; omega
  · have := hb.2 n h; omega
def acN : List (List UInt8) := [[65, 99, 99, 101, 112, 116, 45, 69, 110, 99, 111, 100, 105, 110, 103], [69, 120, 112, 101, 99, 116]]
def fwdT (q : List UInt8 × List UInt8 × List Fld) (n : Int) : List UInt8 × List UInt8 × List Fld := (q.1, q.2.1, outT q.2.2 (baseN ++ acN ++ hopM q.2.2) ++ lenF n)
theorem lenF_len (n : Int) : (lenF n).length ≤ 1 := by unfold lenF; split <;> simp
theorem forward_eq {q : List UInt8 × List UInt8 × List Fld} {n : Int} (hl : okW q.2.2) (hn : n ≤ 9223372036854775807) : harden_Forward q n = some (fwdT q n) := by
  have h1 := hl.1.1
  have h2 := lenF_len n
  have h3 : (outT q.2.2 (baseN ++ acN ++ hopM q.2.2)).length ≤ q.2.2.length := List.length_filter_le _ _
  unfold harden_Forward
  rw [show ([[65, 99, 99, 101, 112, 116, 45, 69, 110, 99, 111, 100, 105, 110, 103], [69, 120, 112, 101, 99, 116]] : List (List UInt8)) = acN from rfl, hop_eq hl (by decide)]
  simp only [Option.bind_some]
  rw [Without_eq hl.1 (okN_app (by decide) (hopM_ok hl)), length_eq hn]
  simp only [Option.bind_some]
  rw [szC_ok (by rw [List.length_append]; omega)]
  rfl
def closeN : List UInt8 := [99, 108, 111, 115, 101]
def keepT (l : List Fld) : Bool := decide ((membT (allT l cN)).2 = 0) && !(membT (allT l cN)).1.any fun n => sameT n closeN
theorem keeps_loop (r2 : List (List UInt8) × Int) (h1 : r2.1.length ≤ 16777216) (h2 : ∀ x ∈ r2.1, x.length ≤ 16777216) : ∀ (k i : Nat), i ≤ r2.1.length → r2.1.length - i < k →
    ∃ o, slices_IndexFunc_string_string_L44 r2 k (i : Int) = some o ∧ (match o with | .inl v => 0 ≤ v ∧ (r2.1.drop i).any (fun n => sameT n closeN) = true | .inr _ => (r2.1.drop i).any (fun n => sameT n closeN) = false)
  | 0, i, _, hk => by omega
  | k + 1, i, hi, hk => by
    simp only [slices_IndexFunc_string_string_L44, harden_Keeps_1]
    by_cases hlt : i < r2.1.length
    · rw [if_pos (by simpa using hlt), ixL_in hlt]
      simp only [Option.bind_some]
      rw [Same_eq (h2 _ (List.getElem_mem hlt)) (by decide), drop_step hlt, List.any_cons]
      simp only [Option.bind_some]
      show ∃ o, (if sameT r2.1[i] closeN = true then _ else _) = _ ∧ _
      cases hs : sameT r2.1[i] closeN with
      | true => exact ⟨_, rfl, by simp⟩
      | false =>
        rw [if_neg (by simp), iadd64 (by omega) (by omega), ← Int.natCast_add_one]
        obtain ⟨o, g1, g2⟩ := keeps_loop r2 h1 h2 k (i + 1) (by omega) (by omega)
        exact ⟨o, g1, by simpa using g2⟩
    · rw [if_neg (by simpa using hlt), List.drop_eq_nil_of_le (by omega)]
      exact ⟨_, rfl, rfl⟩
theorem keeps_eq {l : List Fld} (hl : okW l) : harden_Keeps l = some (keepT l) := by
  have hw := hl.2 cN
  have he := memb_el (allT l cN)
  unfold harden_Keeps keepT
  rw [show ([99, 111, 110, 110, 101, 99, 116, 105, 111, 110] : List UInt8) = cN from rfl, Members_eq hl.1 (by decide) (by omega)]
  simp only [Option.bind_some]
  by_cases h0 : (membT (allT l cN)).2 = 0
  · rw [if_pos (by simp [h0]), decide_eq_true h0]
    obtain ⟨o, g1, g2⟩ := keeps_loop (membT (allT l cN)) (by omega) (fun x hx => by have := he.2 x hx; omega) 1099511627776 0 (by omega) (by omega)
    rw [show ((0 : Nat) : Int) = 0 from rfl] at g1
    rw [List.drop_zero] at g2
    rw [g1]
    cases o with
    | inl v => dsimp only at g2; simp only [Option.bind_some]; rw [g2.2, decide_eq_true g2.1]; rfl
    | inr u => dsimp only at g2; simp only [Option.bind_some]; rw [g2]; rfl
  · rw [if_neg (by simp [h0]), decide_eq_false h0]
    rfl
end Go.Proofs.YtgngopfpnidbaaaDoor
