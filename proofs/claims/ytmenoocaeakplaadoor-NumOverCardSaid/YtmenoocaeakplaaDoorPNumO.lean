/- A digit more makes a number larger, or too large. -/
import Derived.Test.YtmenoocaeakplaaDoorPNumB
import Derived.Test.YtmenoocaeakplaaDoorLOver
namespace Go.Proofs.YtmenoocaeakplaaDoor
open Go.Av
set_option linter.unusedVariables false
set_option linter.unusedSimpArgs false
theorem over_any {s : List UInt8} (b : Nat) : (∃ c ∈ s, b ≤ hexV c) ∨ ∀ c ∈ s, hexV c < b := by
  by_cases h : ∃ c ∈ s, b ≤ hexV c
  · exact .inl h
  · exact .inr fun c hc => by
      rcases Nat.lt_or_ge (hexV c) b with h1 | h1
      · exact h1
      · exact absurd ⟨c, hc, h1⟩ h
theorem law_NumOver_all (s : List UInt8) (more : Int) (_ : True) (hm : inR .i64 more) (hb : s.length ≤ 140737488351232) : law02_NumOver s more = some true := by
  obtain ⟨m1, m2⟩ := hm
  unfold law02_NumOver
  rw [shown02, decimal_eq s (by omega)]
  simp only [Option.bind_some]
  obtain ⟨j, hj, hj2⟩ : ∃ j : Nat, j ≤ MX ∧ (show Option Int from if decide (more < 0) = true then some (ineg .i64 (iadd .i64 more 1)) else some more) = some (j : Int) := by
    by_cases h : more < 0
    · refine ⟨(-(more + 1)).toNat, by unfold MX; omega, ?_⟩
      have e : ineg .i64 (iadd .i64 more 1) = -(more + 1) := by
        rw [iadd64 (by omega) (by omega)]
        exact wrap64 (by omega) (by omega)
      show (if decide (more < 0) = true then some (ineg .i64 (iadd .i64 more 1)) else some more) = _
      rw [if_pos (decide_eq_true h), e, Int.toNat_of_nonneg (by omega)]
    · refine ⟨more.toNat, by unfold MX; omega, ?_⟩
      show (if decide (more < 0) = true then some (ineg .i64 (iadd .i64 more 1)) else some more) = _
      rw [if_neg (by simpa using h), Int.toNat_of_nonneg (by omega)]
  replace hj2 : (if decide (more < 0) = true then some (ineg .i64 (iadd .i64 more 1)) else some more) = some (j : Int) := hj2
  rw [hj2]
  have hd : irem (j : Int) 10 = ((j % 10 : Nat) : Int) := by rw [irem_eq (by omega)]; simp
  have hd10 : j % 10 < 10 := Nat.mod_lt _ (by decide)
  generalize j % 10 = d at hd hd10
  simp only [Option.bind_some, hd]
  rw [digits_eq _ (by omega)]
  have ht : textS 10 (d : Int) = [hexC d] := by unfold textS; rw [if_neg (by omega), Int.toNat_natCast, txt_lo hd10]
  rw [ht]
  simp only [Option.bind_some]
  rw [szC_ok (by simp; omega), szC_ok (by simp; omega), decimal_eq _ (by simp; omega), decimal_eq _ (by simp; omega)]
  have hc := (hexC_val (d := d) (by omega)).1
  have h11 : numS 10 (s ++ [120]) = (0, 2) := numS_bad (c := 120) (by simp) (by decide +kernel)
  have hv : ∀ n, valF 10 n (s ++ [hexC d]) = valF 10 n s * 10 + d := fun n => by rw [valF_app]; simp only [valF, hc]
  simp only [Option.bind_some, h11]
  by_cases h0 : s = []
  · subst h0
    have e1 : numS 10 [] = (0, 2) := rfl
    have e2 : numS 10 ([] ++ [hexC d]) = (((d : Nat) : Int), (0 : Int)) := by
      have := hv 0
      simp only [valF] at this
      rw [numS_val (by simp) (fun c hc' => by simp at hc'; subst hc'; rw [hc]; exact hd10) (by rw [this]; unfold MX; omega), this]
      simp
    rw [e1, e2]
    simp
  · rcases over_any (s := s) 10 with ⟨c, hc1, hc2⟩ | hall
    · have e1 : numS 10 s = (0, 2) := numS_bad hc1 hc2
      have e2 : numS 10 (s ++ [hexC d]) = (0, 2) := numS_bad (List.mem_append_left _ hc1) hc2
      rw [e1, e2]
      simp [h0]
    · have hall2 : ∀ c ∈ s ++ [hexC d], hexV c < 10 := fun c hc' => by
        rcases List.mem_append.1 hc' with h | h
        · exact hall c h
        · simp at h; subst h; rw [hc]; exact hd10
      by_cases ho : MX < valF 10 0 s
      · have e1 := numS_over h0 hall ho
        have e2 := numS_over (s := s ++ [hexC d]) (b := 10) (by simp) hall2 (by rw [hv]; omega)
        rw [e1, e2]
        simp [h0]
      · have e1 := numS_val h0 hall (by omega)
        rw [e1]
        generalize hV : valF 10 0 s = V at *
        have hV0 := hv 0
        rw [hV] at hV0
        have hMX : MX = 9223372036854775807 := rfl
        by_cases hf : V * 10 + d ≤ MX
        · have e2 := numS_val (s := s ++ [hexC d]) (b := 10) (by simp) hall2 (by rw [hV0]; exact hf)
          rw [hV0] at e2
          rw [e2]
          have hj : (show Option Bool from if decide (((V : Nat) : Int) < 922337203685477580) = true then some true else if decide (((V : Nat) : Int) = 922337203685477580) = true then some (decide ((d : Int) ≤ 7)) else some false) = some true := by
            show (if decide (((V : Nat) : Int) < 922337203685477580) = true then some true else if decide (((V : Nat) : Int) = 922337203685477580) = true then some (decide ((d : Int) ≤ 7)) else some false) = some true
            by_cases h1 : ((V : Nat) : Int) < 922337203685477580
            · rw [if_pos (decide_eq_true h1)]
            · rw [if_neg (by simpa using h1), if_pos (decide_eq_true (by omega)), decide_eq_true (by omega)]
          replace hj : (if decide (((V : Nat) : Int) < 922337203685477580) = true then some true else if decide (((V : Nat) : Int) = 922337203685477580) = true then some (decide ((d : Int) ≤ 7)) else some false) = some true := hj
          rw [hj]
          have hm10 : imul .i64 10 (V : Int) = ((10 * V : Nat) : Int) := by rw [imul64 (by omega) (by omega)]; omega
          have ha : iadd .i64 (((10 * V : Nat) : Int)) (d : Int) = ((V * 10 + d : Nat) : Int) := by rw [iadd64 (by omega) (by omega)]; omega
          simp [h0, hm10, ha]
          simp at hm10 ha
          exact ha.symm
        · have e2 := numS_over (s := s ++ [hexC d]) (b := 10) (by simp) hall2 (by rw [hV0]; omega)
          rw [e2]
          have hj : (if decide (((V : Nat) : Int) < 922337203685477580) = true then some true else if decide (((V : Nat) : Int) = 922337203685477580) = true then some (decide ((d : Int) ≤ 7)) else some false) = some false := by
            rw [if_neg (by simp; omega)]
            by_cases h1 : ((V : Nat) : Int) = 922337203685477580
            · rw [if_pos (decide_eq_true h1), decide_eq_false (by omega)]
            · rw [if_neg (by simpa using h1)]
          rw [hj]
          simp [h0]
end Go.Proofs.YtmenoocaeakplaaDoor
