/- HeadSmuggled, plain. -/
import Derived.Test.YtbcmngnmfneeaaaDoorU5K
import Derived.Test.YtbcmngnmfneeaaaDoorLSmuggled
namespace Go.Proofs.YtbcmngnmfneeaaaDoor
open Go.Av
set_option linter.unusedVariables false
set_option linter.unusedSimpArgs false
set_option maxRecDepth 100000
theorem shown5s : law05_shown = some true := by kernel_rfl
theorem irem_nat5 (a n : Nat) : irem (a : Int) (n : Int) = ((a % n : Nat) : Int) := rfl
theorem b2i58 (c : UInt8) : decide (b2i c = b2i (bC 58)) = decide (c = 58) := decide_eq_decide.2 ⟨fun h => b2i_inj.1 h, fun h => by rw [h]; rfl⟩
theorem ends_loop (s : List UInt8) (hl : s.length ≤ 16777216) : ∀ (k i : Nat) (acc : List Int), i ≤ s.length → s.length - i < k → acc.length ≤ i → law05_HeadSmuggled_L19 s k (i : Int) acc = some (acc ++ crs i (s.drop i))
  | 0, i, acc, _, hk, _ => by omega
  | k + 1, i, acc, hi, hk, ha => by
    rw [law05_HeadSmuggled_L19, iadd64 (by omega) (by omega), ← Int.natCast_add_one]
    by_cases hlt : i + 1 < s.length
    · have h0 : i < s.length := by omega
      rw [if_pos (by rw [decide_eq_true_eq]; omega), ixL_in h0]
      simp only [Option.bind_some]
      rw [drop_step h0, crs, if_neg (show ¬ s.drop (i + 1) = [] from by rw [List.drop_eq_nil_iff]; omega)]
      simp only [b2i13]
      by_cases hc : s[i] = 13
      · rw [if_pos (by simpa using hc), if_pos hc, szC_ok (by simp; omega)]
        simp only [Option.bind_some]
        rw [ends_loop s hl k (i + 1) _ (by omega) (by omega) (by simp; omega)]
        simp
      · rw [if_neg (by simpa using hc), if_neg hc]
        exact ends_loop s hl k (i + 1) acc (by omega) (by omega) (by omega)
    · rw [if_neg (by rw [decide_eq_true_eq]; omega)]
      have : crs i (s.drop i) = [] := by
        by_cases h0 : i < s.length
        · rw [drop_step h0, crs, if_pos (by rw [List.drop_eq_nil_iff]; omega)]
        · rw [List.drop_eq_nil_of_le (by omega)]; rfl
      rw [this, List.append_nil]
theorem colon_loop (s : List UInt8) (hl : s.length ≤ 16777216) : ∀ (n : List UInt8) (k i : Nat) (r : List UInt8), s.drop i = n ++ 58 :: r → (58 : UInt8) ∉ n → i + n.length < s.length → n.length < k → law05_HeadSmuggled_L65 s k (i : Int) = some ((i + n.length : Nat) : Int)
  | n, 0, i, r, _, _, _, hk => by omega
  | [], k + 1, i, r, hd, _, hi, _ => by
    have h0 : i < s.length := by simpa using hi
    rw [drop_step h0] at hd
    rw [law05_HeadSmuggled_L65, ixL_in h0]
    simp only [Option.bind_some, b2i58]
    rw [if_neg (by rw [(List.cons.inj hd).1]; decide)]
    rfl
  | c :: n, k + 1, i, r, hd, hn, hi, hk => by
    simp only [List.length_cons] at hi hk
    have h0 : i < s.length := by omega
    rw [drop_step h0, List.cons_append] at hd
    obtain ⟨e1, e2⟩ := List.cons.inj hd
    have hc : c ≠ 58 := fun e => hn (by rw [e]; simp)
    rw [law05_HeadSmuggled_L65, ixL_in h0]
    simp only [Option.bind_some, b2i58]
    rw [if_pos (by rw [e1, decide_eq_false hc]; rfl), iadd64 (by omega) (by omega), ← Int.natCast_add_one, colon_loop s hl n k (i + 1) r e2 (fun h => hn (by simp [h])) (by omega) (by omega)]
    rw [List.length_cons, show i + 1 + n.length = i + (n.length + 1) by omega]
theorem cr2_len : ∀ L : List (List UInt8), L.length ≤ (cr2 L).length
  | [] => Nat.zero_le _
  | a :: L => by
    have := cr2_len L
    rw [cr2_cons]
    simp
    omega
theorem not_read {b : List UInt8} (hl : b.length ≤ 16777216) (h : reqS b = none) : head_Request b = some (([], [], []), false) := by rw [req_eq hl, h]
theorem law_HeadSmuggled (s : List UInt8) (which how : Int) (_hs : True) (hw : inR .i64 which) (_hh : inR .i64 how) (hb : s.length ≤ 1048576) : law05_HeadSmuggled s which how = some true := by
  unfold law05_HeadSmuggled
  rw [shown5s, req_eq (by omega)]
  simp only [Option.bind_some, Bool.not_true, Bool.false_eq_true, if_false]
  rcases hx : reqS s with _ | x
  · rfl
  · simp only [Bool.not_true, Option.bind_some, Bool.false_eq_true, if_false]
    obtain ⟨hl, l, fls, hs, h1, h2⟩ := reqS_lines hx
    have hall : ∀ a ∈ (l :: fls ++ [[]]), noCR a := by
      intro a ha
      simp only [List.cons_append, List.mem_cons, List.mem_append, List.not_mem_nil, or_false] at ha
      rcases ha with rfl | ha | rfl
      · exact h1
      · exact (h2 a ha).2.1
      · intro c hc; simp at hc
    have hends : law05_HeadSmuggled_L19 s 1099511627776 0 [] = some (atsT 0 (l :: fls ++ [[]])) := by
      have := ends_loop s (by omega) 1099511627776 0 [] (by omega) (by omega) (by simp)
      rw [List.drop_zero, List.nil_append] at this
      have e : crs 0 s = atsT 0 (l :: fls ++ [[]]) := by rw [hs]; exact crs_cr2 _ _ hall
      rw [e] at this
      exact this
    rw [hends]
    simp only [Option.bind_some]
    have hL : (l :: fls ++ [[]]).length = fls.length + 2 := by simp
    have hlen : (atsT 0 (l :: fls ++ [[]])).length = fls.length + 2 := by rw [atsT_len, hL]
    have hfl : fls.length + 2 ≤ s.length := by
      have := cr2_len (l :: fls ++ [[]])
      rw [← hs, hL] at this
      exact this
    obtain ⟨w, hw⟩ : ∃ w : Nat, (if decide (which < 0) then some (ineg .i64 (iadd .i64 which 1)) else some which) = some (w : Int) := by
      simp only [inR] at hw
      by_cases hneg : which < 0
      · refine ⟨(-(which + 1)).toNat, ?_⟩
        rw [if_pos (by simpa using hneg), iadd64 (by omega) (by omega), ineg, wrap64 (by omega) (by omega)]
        congr 1
        omega
      · refine ⟨which.toNat, ?_⟩
        rw [if_neg (by simpa using hneg)]
        congr 1
        omega
    rw [hw]
    simp only [Option.bind_some]
    rw [chk_ok (by rw [decide_eq_true_eq, hlen]; omega)]
    simp only [Option.bind_some]
    rw [irem_nat5, hlen]
    obtain ⟨k, hk⟩ : ∃ k, k = w % (fls.length + 2) := ⟨_, rfl⟩
    have hkl : k < fls.length + 2 := by rw [hk]; exact Nat.mod_lt _ (by omega)
    rw [← hk, ixL_nat, atsT_get _ 0 k (by omega)]
    simp only [Option.bind_some, Nat.zero_add]
    have hsp := cr2_split (l :: fls ++ [[]]) k (by omega)
    rw [← hs] at hsp
    have hnx : k + 1 ≤ fls.length → ∃ d R, cr2 ((l :: fls ++ [[]]).drop (k + 1)) = d ++ 13 :: 10 :: R ∧ fOK d := by
      intro hk1
      have e : (l :: fls ++ [[]])[k + 1]'(by omega) = fls[k]'(by omega) := by
        simp only [List.cons_append, List.getElem_cons_succ]
        rw [List.getElem_append_left (by omega)]
      exact ⟨fls[k]'(by omega), _, by rw [drop_step (show k + 1 < (l :: fls ++ [[]]).length by omega), cr2_cons, e], h2 _ (List.getElem_mem _)⟩
    have hsp1 : k + 1 ≤ fls.length → cr2 ((l :: fls ++ [[]]).take (k + 1)) = cr2 ((l :: fls ++ [[]]).take k) ++ ((l :: fls ++ [[]])[k]'(by omega) ++ [13, 10]) := by
      intro _
      rw [List.take_add_one, List.getElem?_eq_getElem (by omega), cr2_app]
      simp [cr2]
    have hBh : (cr2 ((l :: fls ++ [[]]).drop (k + 1))).head? ≠ some 10 := cr2_head fun a ha => hall a (List.mem_of_mem_drop ha)
    have hak : noCR ((l :: fls ++ [[]])[k]'(by omega)) := hall _ (List.getElem_mem _)
    have T0 := fun (R : List UInt8) => touch_lf h1 h2 (k := k) (R := R) (by omega) hak
    have T1 := touch_cr h1 h2 (k := k) (by omega) hak hBh
    have T2 := fun (hk1 : k + 1 ≤ fls.length) (d R : List UInt8) (q1 : d ≠ []) (q2 : noCR d) (q3 : fldT d = none) => touch_row h1 h2 (k := k) (a := d) (R := R) (by omega) q1 q2 q3
    generalize cr2 ((l :: fls ++ [[]]).take (k + 1)) = P1 at hsp1 T2
    generalize cr2 ((l :: fls ++ [[]]).take k) = P at hsp hsp1 T0 T1 ⊢
    generalize cr2 ((l :: fls ++ [[]]).drop (k + 1)) = B at hsp hnx T1
    generalize (l :: fls ++ [[]])[k]'(by omega) = a at hsp hsp1 T0 T1 ⊢
    have e : s = (P ++ a) ++ 13 :: 10 :: B := by rw [hsp]; simp
    have hsl : s.length = P.length + a.length + 2 + B.length := by rw [e]; simp; omega
    have hn : P.length + a.length = (P ++ a).length := by simp
    have t0 : s.take (P.length + a.length) = P ++ a := by rw [e, hn, List.take_left]
    have d1 : s.drop (P.length + a.length + 1) = 10 :: B := by rw [e, ← List.drop_drop, hn, List.drop_left]; rfl
    have t1 : s.take (P.length + a.length + 1) = P ++ a ++ [13] := by rw [e, hn, List.take_length_add_append]; rfl
    have d2 : s.drop (P.length + a.length + 2) = B := by rw [e, ← List.drop_drop, hn, List.drop_left]; rfl
    have t2 : s.take (P.length + a.length + 2) = P ++ a ++ [13, 10] := by rw [e, hn, List.take_length_add_append]; rfl
    by_cases c0 : how = 0
    · rw [if_pos (by simpa using c0), slL_to (by omega), t0, iadd64 (by omega) (by omega), ← Int.natCast_add_one, slL_from (by omega), d1]
      simp only [Option.bind_some]
      rw [szC_ok (by simp; omega)]
      simp only [Option.bind_some]
      rw [not_read (by simp; omega) (by rw [List.append_assoc]; exact T0 B)]
      rfl
    · rw [if_neg (by simpa using c0)]
      by_cases c1 : how = 1
      · rw [if_pos (by simpa using c1), iadd64 (by omega) (by omega), ← Int.natCast_add_one, slL_to (by omega), t1, iadd64 (by omega) (by omega), show ((P.length + a.length : Nat) : Int) + 2 = ((P.length + a.length + 2 : Nat) : Int) by omega, slL_from (by omega), d2]
        simp only [Option.bind_some]
        rw [szC_ok (by simp; omega)]
        simp only [Option.bind_some]
        rw [not_read (by simp; omega) (by rw [show P ++ a ++ [13] ++ B = P ++ (a ++ 13 :: B) by simp]; exact T1)]
        rfl
      · rw [if_neg (by simpa using c1)]
        by_cases c2 : how = 2
        · rw [if_pos (by simpa using c2), iadd64 (a := (k : Int)) (by omega) (by omega)]
          by_cases hk1 : k + 1 ≤ fls.length
          · obtain ⟨d, R, hB, hd1, hd2, hd3⟩ := hnx hk1
            rw [if_neg (by rw [decide_eq_true_eq]; omega), iadd64 (by omega) (by omega), show ((P.length + a.length : Nat) : Int) + 2 = ((P.length + a.length + 2 : Nat) : Int) by omega, slL_to (by omega), t2]
            simp only [Option.bind_some]
            rw [szC_ok (by simp; omega), slL_from (by omega), d2]
            simp only [Option.bind_some]
            rw [szC_ok (by simp; omega)]
            simp only [Option.bind_some]
            rw [not_read (by simp; omega) ?_]
            · rfl
            · have := T2 hk1 (32 :: d) R (by simp) (fun c hc => by
                rcases List.mem_cons.1 hc with rfl | hc
                · decide
                · exact hd2 c hc) (fld_sp d)
              rw [hsp1 hk1] at this
              rw [hB]
              simpa using this
          · rw [if_pos (by rw [decide_eq_true_eq]; omega)]
            rfl
        · rw [if_neg (by simpa using c2)]
          by_cases c3 : how = 3
          · rw [if_pos (by simpa using c3), iadd64 (a := (k : Int)) (by omega) (by omega)]
            by_cases hk1 : k + 1 ≤ fls.length
            · obtain ⟨d, R, hB, hd⟩ := hnx hk1
              obtain ⟨n, r, hd1, hd2⟩ := fld_colon hd
              have hBn : B = n ++ 58 :: (r ++ 13 :: 10 :: R) := by rw [hB, hd1]; simp
              have hBl : B.length = n.length + 1 + (r ++ 13 :: 10 :: R).length := by rw [hBn]; simp; omega
              rw [if_neg (by rw [decide_eq_true_eq]; omega), iadd64 (by omega) (by omega), show ((P.length + a.length : Nat) : Int) + 2 = ((P.length + a.length + 2 : Nat) : Int) by omega,
                colon_loop s (by omega) n 1099511627776 (P.length + a.length + 2) _ (by rw [d2, hBn]) hd2 (by omega) (by omega)]
              simp only [Option.bind_some]
              have e3 : s = (P ++ a ++ [13, 10] ++ n) ++ 58 :: (r ++ 13 :: 10 :: R) := by rw [e, hBn]; simp
              have hn3 : P.length + a.length + 2 + n.length = (P ++ a ++ [13, 10] ++ n).length := by simp; omega
              have t3 : s.take (P.length + a.length + 2 + n.length) = P ++ a ++ [13, 10] ++ n := by rw [e3, hn3, List.take_left]
              have d3 : s.drop (P.length + a.length + 2 + n.length) = 58 :: (r ++ 13 :: 10 :: R) := by rw [e3, hn3, List.drop_left]
              rw [slL_to (by omega), t3]
              simp only [Option.bind_some]
              rw [szC_ok (by simp; omega), slL_from (by omega), d3]
              simp only [Option.bind_some]
              rw [szC_ok (by simp at hBl ⊢; omega)]
              simp only [Option.bind_some]
              rw [not_read (by simp at hBl ⊢; omega) ?_]
              · rfl
              · have := T2 hk1 (n ++ 32 :: 58 :: r) R (by simp) (fun c hc => by
                  have hdd := hd.2.1
                  rw [hd1] at hdd
                  rcases List.mem_append.1 hc with hc | hc
                  · exact hdd c (by simp [hc])
                  · rcases List.mem_cons.1 hc with rfl | hc
                    · decide
                    · exact hdd c (by simp at hc ⊢; right; exact hc)) (fld_sp2 hd2)
                rw [hsp1 hk1] at this
                simpa using this
            · rw [if_pos (by rw [decide_eq_true_eq]; omega)]
              rfl
          · rw [if_neg (by simpa using c3)]
            rfl
/-- whatever the length: a text above 2048 bytes is refused at once -/
theorem law_HeadSmuggled_all (s : List UInt8) (which how : Int) (_hs : True) (hw : inR .i64 which) (hh : inR .i64 how) : law05_HeadSmuggled s which how = some true := by
  by_cases h : s.length ≤ 1048576
  · exact law_HeadSmuggled s which how trivial hw hh h
  · have e : head_Request s = some (([], [], []), false) := by
      unfold head_Request
      rw [if_pos (by rw [decide_eq_true_eq]; omega)]
      rfl
    unfold law05_HeadSmuggled
    rw [shown5s, e]
    rfl
end Go.Proofs.YtbcmngnmfneeaaaDoor
