/- HardenOne, plain. -/
import Derived.Test.YtgngopfpnidbaaaGreatDoorU2HA
import Derived.Test.YtgngopfpnidbaaaGreatDoorU4D
import Derived.Test.YtgngopfpnidbaaaGreatDoorU5I
import Derived.Test.YtgngopfpnidbaaaGreatDoorLOne
namespace Go.Proofs.YtgngopfpnidbaaaGreatDoor
open Go.Av
set_option linter.unusedVariables false
set_option linter.unusedSimpArgs false
set_option maxRecDepth 100000
theorem shown21o : law21_shown = some true := by kernel_rfl
def clN : List UInt8 := [67, 111, 110, 116, 101, 110, 116, 45, 76, 101, 110, 103, 116, 104]
def clL : List UInt8 := [99, 111, 110, 116, 101, 110, 116, 45, 108, 101, 110, 103, 116, 104]
def teL : List UInt8 := [116, 114, 97, 110, 115, 102, 101, 114, 45, 101, 110, 99, 111, 100, 105, 110, 103]
theorem dig_c (c : UInt8) (h : hexV c < 10) : blT c = false ∧ quoT c = true ∧ c ≠ 34 ∧ c ≠ 44 := by
  have := all256 (p := fun c => decide (hexV c < 10 → blT c = false ∧ quoT c = true ∧ c ≠ 34 ∧ c ≠ 44)) (by kernel_rfl) c
  exact of_decide_eq_true this h
theorem ls_plain : ∀ (r cur : List UInt8), (∀ c ∈ r, c ≠ 34 ∧ c ≠ 44) → lsT 0 cur r = some (addT (cur ++ r) [])
  | [], cur, _ => by rw [List.append_nil]; rfl
  | c :: r, cur, h => by
    have hc := h c (by simp)
    rw [lsT, if_pos rfl, if_neg hc.1, if_neg hc.2, ls_plain r (cur ++ [c]) (fun x hx => h x (by simp [hx]))]
    simp
theorem dig_at {n : Int} (h0 : 0 ≤ n) (h1 : n ≤ 8192) : (textS 10 n).length ≤ 19 ∧ vOK (textS 10 n) = true ∧ lsT 0 [] (textS 10 n) = some [textS 10 n] ∧ numS 10 (textS 10 n) = (n, 0) := by
  have e : textS 10 n = txt 10 n.toNat := if_neg (by omega)
  have hd := txt_dig 10 (.inl rfl) n.toNat
  have hne := txt_ne 10 n.toNat
  have ht : trimT (txt 10 n.toNat) = txt 10 n.toNat := trim_id (fun c p he => (dig_c c (hd c (by rw [he]; simp))).1) (fun q c he => (dig_c c (hd c (by rw [he]; simp))).1)
  rw [e]
  refine ⟨txt_short (.inl rfl) (by unfold MX; omega), ?_, ?_, ?_⟩
  · unfold vOK plainT
    rw [ht, decide_eq_true rfl]
    exact List.all_eq_true.2 fun c hc => (dig_c c (hd c hc)).2.1
  · rw [ls_plain _ _ (fun c hc => (dig_c c (hd c hc)).2.2), List.nil_append]
    unfold addT
    rw [ht, if_neg hne]
  · unfold numS
    rw [if_neg (fun h => h.elim hne fun h => by
      obtain ⟨c, hc, h2⟩ := List.any_eq_true.1 h
      have := hd c hc
      simp at h2; omega), valF_txt 10 (.inl rfl), if_pos (by unfold MX; omega), Int.toNat_of_nonneg h0]
theorem allT_app1 (a b : List Fld) (n : List UInt8) : allT (a ++ b) n = allT a n ++ allT b n := by unfold allT; simp
theorem outT_app (a b : List Fld) (ns : List (List UInt8)) : outT (a ++ b) ns = outT a ns ++ outT b ns := by unfold outT; simp
theorem same_iff {a b : List UInt8} : sameT a b = true ↔ lowT a = lowT b := by unfold sameT; exact decide_eq_true_iff
/-- a name that is left out is there no more -/
theorem gone {l : List Fld} {ns : List (List UInt8)} {n k : List UInt8} (hk : k ∈ ns) (e : lowT k = lowT n) : allT (outT l ns) n = [] := by
  unfold allT outT
  rw [List.filter_filter, List.map_eq_nil_iff, List.filter_eq_nil_iff]
  intro f _ h
  simp only [Bool.and_eq_true, Bool.not_eq_true'] at h
  have h1 := same_iff.1 h.1
  have : inT ns f = true := by
    unfold inT
    exact List.any_eq_true.2 ⟨k, hk, same_iff.2 (h1.trans e.symm)⟩
  rw [this] at h
  exact absurd h.2 (by simp)
/-- a name that none of those left out is stays -/
theorem stays {l : List Fld} {ns : List (List UInt8)} {n : List UInt8} (h : ∀ k ∈ ns, lowT k ≠ lowT n) : allT (outT l ns) n = allT l n := by
  unfold allT outT
  rw [List.filter_filter]
  congr 1
  refine List.filter_congr fun f _ => ?_
  cases hs : sameT f.1 n with
  | false => rfl
  | true =>
    have h1 := same_iff.1 hs
    have : inT ns f = false := by
      unfold inT
      rw [List.any_eq_false]
      intro k hk hx
      exact h k hk ((same_iff.1 hx).symm.trans h1)
    rw [this]
    rfl
theorem base_low : ∀ k ∈ baseN ++ acN, lowT k ≠ lowT hostN := by decide +kernel
theorem hop_host (l : List Fld) : ∀ k ∈ hopM l, lowT k ≠ lowT hostN := by
  intro k hk e
  unfold hopM at hk
  have := (List.mem_filter.1 hk).2
  rw [same_iff.2 e] at this
  cases this
theorem all_host (l : List Fld) : ∀ k ∈ baseN ++ acN ++ hopM l, lowT k ≠ lowT hostN := by
  intro k hk
  rcases List.mem_append.1 hk with h | h
  · exact base_low k h
  · exact hop_host l k h
theorem lenF_host (n : Int) : allT (lenF n) hostN = [] := by
  unfold lenF
  split
  · rfl
  · rw [allT_cons, if_neg (by have : ∀ x : Bool, x = false → ¬ x = true := (by decide); exact this _ (by kernel_rfl))]
    rfl
theorem fwd_host (q : List UInt8 × List UInt8 × List Fld) (n : Int) : allT (fwdT q n).2.2 hostN = allT q.2.2 hostN := by
  unfold fwdT
  rw [allT_app1, stays (all_host q.2.2), lenF_host, List.append_nil]
theorem fwd_gone {q : List UInt8 × List UInt8 × List Fld} {n : Int} {k m : List UInt8} (hk : k ∈ baseN) (e : lowT k = lowT m) : allT (fwdT q n).2.2 m = allT (lenF n) m := by
  unfold fwdT
  rw [allT_app1, gone (k := k) (by simp [hk]) e, List.nil_append]
theorem lenF_conn (n : Int) : allT (lenF n) cN = [] := by
  unfold lenF
  split
  · rfl
  · rw [allT_cons, if_neg (by have : ∀ x : Bool, x = false → ¬ x = true := (by decide); exact this _ (by kernel_rfl))]
    rfl
theorem lenF_te (n : Int) : allT (lenF n) teL = [] := by
  unfold lenF
  split
  · rfl
  · rw [allT_cons, if_neg (by have : ∀ x : Bool, x = false → ¬ x = true := (by decide); exact this _ (by kernel_rfl))]
    rfl
theorem lenF_cl {n : Int} (h : 0 ≤ n) : allT (lenF n) clL = [textS 10 n] := by
  unfold lenF
  rw [if_neg (by omega), allT_cons, if_pos (by kernel_rfl)]
  rfl
theorem fwd_conn (q : List UInt8 × List UInt8 × List Fld) (n : Int) : allT (fwdT q n).2.2 cN = [] := by
  rw [fwd_gone (k := baseN[0]) (by decide) (by decide +kernel), lenF_conn]
theorem fwd_te (q : List UInt8 × List UInt8 × List Fld) (n : Int) : allT (fwdT q n).2.2 teL = [] := by
  rw [fwd_gone (k := baseN[5]) (by decide) (by decide +kernel), lenF_te]
theorem fwd_cl (q : List UInt8 × List UInt8 × List Fld) (n : Int) : allT (fwdT q n).2.2 clL = allT (lenF n) clL :=
  fwd_gone (k := baseN[7]) (by decide) (by decide +kernel)
theorem hop_nil {l : List Fld} (h : allT l cN = []) : hopM l = [] := by
  unfold hopM
  rw [h]
  rfl
theorem out_sub {l : List Fld} {a b : List (List UInt8)} (h : ∀ k ∈ b, k ∈ a) : outT (outT l a) b = outT l a := by
  unfold outT
  rw [List.filter_filter]
  refine List.filter_congr fun f _ => ?_
  cases hs : inT a f with
  | true => simp
  | false =>
    have : inT b f = false := by
      unfold inT at hs ⊢
      rw [List.any_eq_false] at hs ⊢
      exact fun k hk => hs k (h k hk)
    rw [this]
    rfl
theorem out_len (n : Int) : outT (lenF n) (baseN ++ acN) = [] := by
  unfold lenF
  split
  · rfl
  · rw [outT_cons, if_pos (by kernel_rfl)]
    rfl
/-- sent on again, it is the same -/
theorem fwd_fwd (q : List UInt8 × List UInt8 × List Fld) (n : Int) : fwdT (fwdT q n) n = fwdT q n := by
  have hc := hop_nil (fwd_conn q n)
  show ((fwdT q n).1, (fwdT q n).2.1, outT (fwdT q n).2.2 (baseN ++ acN ++ hopM (fwdT q n).2.2) ++ lenF n) = fwdT q n
  rw [hc, List.append_nil]
  have e : outT (fwdT q n).2.2 (baseN ++ acN) = outT q.2.2 (baseN ++ acN ++ hopM q.2.2) := by
    show outT (outT q.2.2 (baseN ++ acN ++ hopM q.2.2) ++ lenF n) (baseN ++ acN) = _
    rw [outT_app, out_len, List.append_nil, out_sub]
    intro k hk
    exact List.mem_append_left _ hk
  rw [e]
  rfl
theorem out_mem {l : List Fld} {ns : List (List UInt8)} {f : Fld} (h : f ∈ outT l ns) : f ∈ l := (List.mem_filter.1 h).1
theorem out_lines (ns : List (List UInt8)) : ∀ l : List Fld, (linesT (outT l ns)).length ≤ (linesT l).length
  | [] => Nat.le_refl _
  | f :: l => by
    have ih := out_lines ns l
    rw [outT_cons]
    split
    · rw [linesT_cons, List.length_append]; omega
    · rw [linesT_cons, linesT_cons, List.length_append, List.length_append]; omega
theorem linesT_app (a b : List Fld) : linesT (a ++ b) = linesT a ++ linesT b := by unfold linesT; rw [List.flatMap_append]
theorem lenF_lines {n : Int} (h1 : n ≤ 8192) : (linesT (lenF n)).length ≤ 40 := by
  unfold lenF
  split
  · simp [linesT]
  · rename_i h0
    have := (dig_at (n := n) (by omega) h1).1
    have h2 := lineT_len (clN, textS 10 n)
    rw [linesT_cons]
    show (lineT (clN, textS 10 n) ++ linesT []).length ≤ 40
    have e : linesT [] = [] := rfl
    have h3 : clN.length = 14 := rfl
    rw [e, List.append_nil]
    dsimp only at h2
    omega
theorem lenF_right {n : Int} (h1 : n ≤ 8192) : ∀ f ∈ lenF n, tokT f.1 = true ∧ vOK f.2 = true := by
  unfold lenF
  split
  · simp
  · rename_i h0
    intro f hf
    rw [List.mem_singleton] at hf
    subst hf
    exact ⟨(by decide +kernel : tokT clN = true), (dig_at (n := n) (by omega) h1).2.1⟩
theorem fwd_okF {q : List UInt8 × List UInt8 × List Fld} {n : Int} (hq : okF q.2.2) (h1 : n ≤ 8192) (hs : q.2.2.length ≤ 1048576) : okF (fwdT q n).2.2 := by
  have h3 : (outT q.2.2 (baseN ++ acN ++ hopM q.2.2)).length ≤ q.2.2.length := List.length_filter_le _ _
  have h4 := lenF_len n
  refine ⟨by show (outT q.2.2 (baseN ++ acN ++ hopM q.2.2) ++ lenF n).length ≤ _; rw [List.length_append]; omega, fun f hf => ?_⟩
  rcases List.mem_append.1 (show f ∈ outT q.2.2 (baseN ++ acN ++ hopM q.2.2) ++ lenF n from hf) with h | h
  · exact hq.2 f (out_mem h)
  · unfold lenF at h
    split at h
    · simp at h
    · rename_i h0
      rw [List.mem_singleton] at h
      subst h
      have := (dig_at (n := n) (by omega) h1).1
      exact ⟨by simp, by dsimp only; omega⟩
theorem lenF_small {n : Int} (h1 : n ≤ 8192) (c : List UInt8) : wtV (allT (lenF n) c) ≤ 20 := by
  unfold lenF
  split
  · simp [allT, wtV]
  · rename_i h0
    have := (dig_at (n := n) (by omega) h1).1
    rw [allT_cons]
    split
    · simp only [allT_nil, wtV]; omega
    · simp [allT_nil, wtV]
theorem wt_app : ∀ a b : List (List UInt8), wtV (a ++ b) = wtV a + wtV b
  | [], b => by simp [wtV]
  | v :: a, b => by rw [List.cons_append, wtV, wtV, wt_app a b]; omega
theorem wt_out (ns : List (List UInt8)) (c : List UInt8) : ∀ l : List Fld, wtV (allT (outT l ns) c) ≤ wtV (allT l c)
  | [] => Nat.le_refl _
  | f :: l => by
    have ih := wt_out ns c l
    rw [outT_cons]
    split
    · rw [allT_cons]
      split
      · rw [wtV]; omega
      · exact ih
    · rw [allT_cons, allT_cons]
      split
      · rw [wtV, wtV]; omega
      · exact ih
/-- how its body ends -/
theorem said_eq {q : List UInt8 × List UInt8 × List Fld} {n : Int} (hq : okF q.2.2) (hs : q.2.2.length ≤ 1048576) (h1 : n ≤ 8192) : framing_Request (fwdT q n) = some (if n < 0 then ((0, 0), 0) else ((1, n), 0)) := by
  have hk := fwd_okF (n := n) hq h1 hs
  unfold framing_Request framing_said
  rw [show ([116, 114, 97, 110, 115, 102, 101, 114, 45, 101, 110, 99, 111, 100, 105, 110, 103] : List UInt8) = teL from rfl, show ([99, 111, 110, 116, 101, 110, 116, 45, 108, 101, 110, 103, 116, 104] : List UInt8) = clL from rfl, Count_eq hk (by decide), Count_eq hk (by decide), fwd_te, fwd_cl]
  simp only [Option.bind_some]
  rw [if_neg (by simp)]
  simp only [Option.bind_some, Bool.false_eq_true, if_false]
  rw [if_neg (by simp)]
  by_cases h0 : n < 0
  · have e : allT (lenF n) clL = [] := by unfold lenF; rw [if_pos h0]; rfl
    rw [e, if_pos h0, if_neg (by simp)]
    rfl
  · obtain ⟨d1, d2, d3, d4⟩ := dig_at (n := n) (by omega) h1
    rw [lenF_cl (by omega), if_neg h0, if_pos (by simp)]
    unfold framing_length
    rw [show ([99, 111, 110, 116, 101, 110, 116, 45, 108, 101, 110, 103, 116, 104] : List UInt8) = clL from rfl, Members_eq hk (by decide) (by rw [fwd_cl]; exact Nat.le_trans (lenF_small h1 _) (by omega)), fwd_cl, lenF_cl (by omega)]
    have em : membT [textS 10 n] = ([textS 10 n], 0) := by
      unfold membT
      simp only [mbF, d3, Option.bind_some, Option.map_some, List.append_nil]
      rfl
    rw [em]
    simp only [Option.bind_some]
    rw [if_neg (by simp)]
    simp only [Option.bind_some, List.length_singleton, Bool.false_eq_true, if_false]
    rw [if_neg (by simp)]
    have el : framing_length_L17 (([textS 10 n], 0) : List (List UInt8) × Int) 1099511627776 (-1) 0 = some (.inr n) := by
      rw [show (1099511627776 : Nat) = 1099511627774 + 1 + 1 from rfl, framing_length_L17, if_pos (by simp), show ixL [textS 10 n] 0 = some (textS 10 n) from by have := ixL_nat [textS 10 n] 0; simpa using this]
      simp only [Option.bind_some]
      rw [decimal_eq _ (by omega), d4]
      simp only [Option.bind_some]
      rw [if_neg (by simp), if_neg (by decide)]
      simp only [Option.bind_some, Bool.false_eq_true, if_false]
      rw [framing_length_L17, if_neg (by rw [iadd64 (by omega) (by omega)]; simp)]
    rw [el]
    simp only [Option.bind_some]
    rw [if_neg (by simp), if_neg (by rw [decide_eq_true_eq]; omega)]
    rfl
theorem law_HardenOne (q : List UInt8 × List UInt8 × List (List UInt8 × List UInt8)) (n : Int) (_hq : True ∧ True ∧ ∀ x ∈ q.2.2, True ∧ True) (hn : inR .i64 n)
    (hb0 : q.1.length + q.2.1.length + sumM (fun y0 => ((y0.1.length + 1) + (y0.2.length + 1)) + 1) q.2.2 ≤ 1048576) : law21_HardenOne q n = some true := by
  have hb : q.1.length + q.2.1.length + sumM mFld q.2.2 ≤ 1048576 := hb0
  have hF := okF_of (l := q.2.2) (by omega)
  have hFl : q.2.2.length ≤ 1048576 := Nat.le_trans (len_sum (m := mFld) (fun x => by unfold mFld; omega) q.2.2) (by omega)
  have hW : okW q.2.2 := ⟨hF, fun c => Nat.le_trans (wtV_all c q.2.2) (by omega)⟩
  unfold law21_HardenOne
  rw [shown21o, reqText_eq (q := (q.1, q.2.1, q.2.2)) hF (by show q.1.length ≤ _; omega) (by show q.2.1.length ≤ _; omega)]
  simp only [Option.bind_some, Bool.not_true, Bool.false_eq_true, if_false]
  by_cases ht : reqT q = []
  · rw [if_pos (by simpa using ht)]
    rfl
  · rw [if_neg (by simpa using ht)]
    simp only [Option.bind_some]
    by_cases hm : 8192 < n
    · rw [if_pos (by simpa using hm)]
    · rw [if_neg (by simpa using hm)]
      have hm' : n ≤ 8192 := by omega
      obtain ⟨e, hl, q1, q2, q3, q4⟩ := reqT_parts ht
      obtain ⟨r1, r2⟩ := (right_iff _).1 q4
      have hX := fwd_okF (n := n) hF hm' hFl
      have hXl : (fwdT q n).2.2.length ≤ 33 := by
        have h3 : (outT q.2.2 (baseN ++ acN ++ hopM q.2.2)).length ≤ q.2.2.length := List.length_filter_le _ _
        have h4 := lenF_len n
        show (outT q.2.2 (baseN ++ acN ++ hopM q.2.2) ++ lenF n).length ≤ 33
        rw [List.length_append]; omega
      have hXW : okW (fwdT q n).2.2 := ⟨hX, fun c => by
        have h1 := lenF_small hm' c
        have h2 := wt_out (baseN ++ acN ++ hopM q.2.2) c q.2.2
        have h3 := wtV_all c q.2.2
        show wtV (allT (outT q.2.2 (baseN ++ acN ++ hopM q.2.2) ++ lenF n) c) ≤ 1048576
        rw [allT_app1, wt_app]
        have h5 : wtV (allT q.2.2 c) ≤ 34900 := by
          have : ∀ (fs : List Fld), wtV (allT fs c) ≤ (linesT fs).length + fs.length := by
            intro fs
            induction fs with
            | nil => simp [allT, wtV]
            | cons f fs ih =>
              have hl : f.2.length ≤ (lineT f).length := by unfold lineT; split <;> simp_all <;> omega
              rw [allT_cons, linesT_cons, List.length_append, List.length_cons]
              split
              · rw [wtV]; omega
              · omega
          have h6 := this q.2.2
          have h7 : (linesT q.2.2).length ≤ 2048 := by rw [e] at hl; simp at hl; omega
          omega
        omega⟩
      rw [forward_eq (q := (q.1, q.2.1, q.2.2)) hW (by omega)]
      simp only [Option.bind_some]
      rw [show ((fwdT (q.1, q.2.1, q.2.2) n).1, (fwdT (q.1, q.2.1, q.2.2) n).2.1, (fwdT (q.1, q.2.1, q.2.2) n).2.2) = fwdT q n from rfl, said_eq hF hFl hm']
      simp only [Option.bind_some]
      rw [forward_eq (q := fwdT q n) hXW (by omega), fwd_fwd]
      have hS : ref05_SameRequest (fwdT q n) ((fwdT q n).1, (fwdT q n).2.1, (fwdT q n).2.2) = some true := by
        unfold ref05_SameRequest
        rw [SameF_eq (by omega)]
        simp
      have fin : ((ref05_SameRequest (fwdT q n) ((fwdT q n).1, (fwdT q n).2.1, (fwdT q n).2.2)).bind fun r12 =>
          (head_RequestText (fwdT q n)).bind fun r13 =>
          if decide (r13 = []) then
            (if r12 then
                if decide (2048 < iadd .i64 ((reqT q).length : Int) 90) then some true
                else some (decide (32 < (((fwdT q n).2.2.length : Nat) : Int)))
              else some false).bind fun j15 => some j15
          else
            (head_Request r13).bind fun r16 =>
            (ref05_SameRequest (fwdT q n) (r16.1.1, r16.1.2.1, r16.1.2.2)).bind fun r17 =>
            if r12 then
              if r16.2 then
                if r17 then
                  (fields_Count (fwdT q n).2.2 [99, 111, 110, 110, 101, 99, 116, 105, 111, 110]).bind fun r18 => some (decide (r18 = 0))
                else some false
              else some false
            else some false) = some true := by
        rw [hS, reqText_eq hX (by show q.1.length ≤ _; omega) (by show q.2.1.length ≤ _; omega)]
        simp only [Option.bind_some]
        by_cases hz : reqT (fwdT q n) = []
        · rw [if_pos (by simpa using hz)]
          simp only [if_true]
          rw [iadd64 (by omega) (by omega)]
          by_cases h9 : 2048 < (reqT q).length + 90
          · rw [if_pos (by rw [decide_eq_true_eq]; omega)]
            rfl
          · rw [if_neg (by rw [decide_eq_true_eq]; omega)]
            by_cases h32 : 32 < (fwdT q n).2.2.length
            · rw [decide_eq_true (by omega)]; rfl
            · exfalso
              have hr : (rightT (fwdT q n).2.2).2 = 0 := (right_iff _).2 ⟨by omega, fun f hf => by
                rcases List.mem_append.1 (show f ∈ outT q.2.2 (baseN ++ acN ++ hopM q.2.2) ++ lenF n from hf) with h | h
                · exact r2 f (out_mem h)
                · exact lenF_right hm' f h⟩
              have hh : hostT (fwdT q n).2.2 = true := by
                have := q3
                unfold hostT at this ⊢
                rw [show ([104, 111, 115, 116] : List UInt8) = hostN from rfl] at this ⊢
                rw [fwd_host]
                exact this
              have hlines : (linesT (fwdT q n).2.2).length ≤ (linesT q.2.2).length + 40 := by
                have h1 := out_lines (baseN ++ acN ++ hopM q.2.2) q.2.2
                have h2 := lenF_lines hm'
                show (linesT (outT q.2.2 (baseN ++ acN ++ hopM q.2.2) ++ lenF n)).length ≤ _
                rw [linesT_app, List.length_append]; omega
              have hlen : (reqT q).length = (reqL q).length + (linesT q.2.2).length + 4 := by rw [e]; simp; omega
              have hreqL : (reqL q).length = q.1.length + q.2.1.length + 10 := by unfold reqL verT; simp; omega
              unfold reqT at hz
              rw [hr, show (fwdT q n).1 = q.1 from rfl, show (fwdT q n).2.1 = q.2.1 from rfl, q1, q2, hh] at hz
              simp only [decide_true, Bool.and_self, if_true] at hz
              unfold boundT ftextT at hz
              rw [if_pos hr, if_neg (by simp; omega)] at hz
              simp at hz
        · rw [if_neg (by simpa using hz), req_eq (Nat.le_trans (reqT_parts hz).2.1 (by omega)), req_read hz]
          simp only [Option.bind_some]
          rw [hS]
          simp only [Option.bind_some, if_true]
          rw [show ([99, 111, 110, 110, 101, 99, 116, 105, 111, 110] : List UInt8) = cN from rfl, Count_eq hX (by decide), fwd_conn]
          rfl
      by_cases h0 : n < 0
      · rw [if_pos h0]
        simp only [decide_true, Bool.not_true, Bool.false_eq_true, if_false, Bool.and_self]
        rw [if_pos (by simpa using h0), if_neg (by simpa using h0)]
        simp only [Option.bind_some, Bool.false_eq_true, if_false]
        exact fin
      · rw [if_neg h0]
        simp only [decide_true, Bool.not_true, Bool.false_eq_true, if_false, Bool.and_self]
        rw [if_neg (by simpa using h0), if_pos (by simpa using h0)]
        simp only [Option.bind_some, Bool.false_eq_true, if_false]
        exact fin
end Go.Proofs.YtgngopfpnidbaaaGreatDoor
