/- HardenKinds, plain. -/
import Derived.Test.YtgngopfpnidbaaaGreatDoorU2HB
import Derived.Test.YtgngopfpnidbaaaGreatDoorU3G
namespace Go.Proofs.YtgngopfpnidbaaaGreatDoor
open Go.Av
set_option linter.unusedVariables false
set_option linter.unusedSimpArgs false
set_option maxRecDepth 100000
theorem wtP_len1 : ∀ ps : List (List UInt8 × List UInt8), ps.length ≤ wtP ps
  | [] => by simp [wtP]
  | p :: ps => by have := wtP_len1 ps; simp [wtP]; omega
def sufN : List UInt8 := [43, 120, 109, 108]
def sfx (s : List UInt8) : Bool := decide (4 ≤ s.length) && decide (s.drop (s.length - 4) = sufN)
theorem sfx_sl {s : List UInt8} (hl : s.length ≤ 1000000000) (h : 4 ≤ s.length) : slL s (isub .i64 (s.length : Int) 4) (s.length : Int) = some (s.drop (s.length - 4)) := by
  rw [isub64 (by omega) (by omega), show ((s.length : Int) - 4) = ((s.length - 4 : Nat) : Int) by omega, slL_from (by omega)]
theorem sfx1 {s : List UInt8} (hl : s.length ≤ 1000000000) : strings_HasSuffix s [43, 120, 109, 108] = some (sfx s) := by
  unfold strings_HasSuffix stringslite_HasSuffix sfx
  by_cases h : 4 ≤ s.length
  · rw [if_pos (by simp; omega), decide_eq_true h]
    have := sfx_sl hl h
    rw [show ((([43, 120, 109, 108] : List UInt8).length : Int)) = 4 from rfl, this]
    rfl
  · rw [if_neg (by simp; omega), decide_eq_false h]
    rfl
theorem sfx2 {s : List UInt8} (hl : s.length ≤ 1000000000) : (if decide (4 ≤ (s.length : Int)) then (slL s (isub .i64 (s.length : Int) 4) (s.length : Int)).bind fun s7 => some (decide (s7 = [43, 120, 109, 108])) else some false) = some (sfx s) := by
  unfold sfx
  by_cases h : 4 ≤ s.length
  · rw [if_pos (by simp; omega), decide_eq_true h, sfx_sl hl h]
    rfl
  · rw [if_neg (by simp; omega), decide_eq_false h]
    rfl
theorem allT_el {l : List Fld} (hl : okF l) (n : List UInt8) : ∀ v ∈ allT l n, v.length ≤ 16777216 := fun v hv => by
  unfold allT at hv
  obtain ⟨f, hf, rfl⟩ := List.mem_map.1 hv
  exact (hl.2 f (List.mem_filter.1 hf).1).2
theorem kind_eq {p : Int × List UInt8 × List Fld} (hW : okW p.2.2) : ∃ r, harden_Kind p = some r ∧ ref21_Kind p = some r := by
  have hc := allT_len p.2.2 ctN
  have h1 := hW.1.1
  have hel := allT_el hW.1 ctN
  have hw := hW.2 ceN
  have he := memb_el (allT p.2.2 ceN)
  unfold harden_Kind ref21_Kind
  rw [show ([99, 111, 110, 116, 101, 110, 116, 45, 116, 121, 112, 101] : List UInt8) = ctN from rfl, show ([99, 111, 110, 116, 101, 110, 116, 45, 101, 110, 99, 111, 100, 105, 110, 103] : List UInt8) = ceN from rfl, All_eq hW.1 (by decide), ref_All_eq hW.1 (by decide)]
  simp only [Option.bind_some]
  by_cases h0 : (allT p.2.2 ctN).length = 0
  · rw [if_pos (by simp [h0]), if_pos (by simp [h0])]
    exact ⟨_, rfl, rfl⟩
  · have hlt : 0 < (allT p.2.2 ctN).length := by omega
    have hx := ixL_in hlt
    rw [show ((0 : Nat) : Int) = 0 from rfl] at hx
    have hxl := hel _ (List.getElem_mem hlt)
    rw [if_neg (by rw [decide_eq_true_eq]; omega), if_neg (by rw [decide_eq_true_eq]; omega), hx]
    simp only [Option.bind_some]
    generalize (allT p.2.2 ctN)[0] = x at hxl
    rw [Media_eq hxl, ref_Media_eq hxl, Members_eq hW.1 (by decide) (by omega), ref_Members_eq hW.1 (by decide) (by omega)]
    simp only [Option.bind_some]
    have hm := mediaT_len x
    have hpl := wtP_len1 (mediaT x).1.2.2
    rw [sfx1 (by omega), sfx2 (by omega)]
    simp only [Option.bind_some]
    obtain ⟨o, g1, g2⟩ := enc_loop (membT (allT p.2.2 ceN)) (by omega) (fun x hx => by have := he.2 x hx; omega) 1099511627776 0 (by omega) (by omega)
    have g3 := ref_enc_loop (membT (allT p.2.2 ceN)) (by omega) (fun x hx => by have := he.2 x hx; omega) 1099511627776 0 (by omega) (by omega)
    obtain ⟨w, k1, k2⟩ := par_loop (mediaT x) (by omega) 1099511627776 0 (by omega) (by omega)
    have k3 := ref_par_loop (mediaT x) (by omega) 1099511627776 0 (by omega) (by omega)
    rw [show ((0 : Nat) : Int) = 0 from rfl] at g1 g3 k1 k3
    rw [List.drop_zero] at g2 g3 k2 k3
    rw [g1, g3, k1, k3]
    simp only [Option.bind_some]
    by_cases c1 : 1 < (allT p.2.2 ctN).length
    · rw [if_pos (show decide (1 < (((allT p.2.2 ctN).length : Nat) : Int)) = true from decide_eq_true (by omega)), if_pos (show decide (1 < (((allT p.2.2 ctN).length : Nat) : Int)) = true from decide_eq_true (by omega))]
      exact ⟨_, rfl, rfl⟩
    · rw [if_neg (show ¬ decide (1 < (((allT p.2.2 ctN).length : Nat) : Int)) = true by rw [decide_eq_true_eq]; omega), if_neg (show ¬ decide (1 < (((allT p.2.2 ctN).length : Nat) : Int)) = true by rw [decide_eq_true_eq]; omega)]
      by_cases c2 : (mediaT x).2 = 0
      · rw [if_neg (show ¬ (!decide ((mediaT x).2 = 0)) = true by simp [c2])]
        by_cases c3 : (mediaT x).1.2.1 = [120, 109, 108]
        · rw [if_pos (show decide ((mediaT x).1.2.1 = [120, 109, 108]) = true by simp [c3])]
          exact ⟨_, rfl, rfl⟩
        · rw [if_neg (show ¬ decide ((mediaT x).1.2.1 = [120, 109, 108]) = true by simp [c3])]
          cases sfx (mediaT x).1.2.1 with
          | true => exact ⟨_, rfl, rfl⟩
          | false =>
            simp only [Option.bind_some, Bool.false_eq_true, if_false]
            generalize hj : (if (!decide ((mediaT x).1.1 = [116, 101, 120, 116])) = true then some true else some (!decide ((mediaT x).1.2.1 = [104, 116, 109, 108]))) = j
            have hjs : ∃ b, j = some b := by rw [← hj]; split <;> exact ⟨_, rfl⟩
            obtain ⟨b, rfl⟩ := hjs
            simp only [Option.bind_some]
            cases b with
            | true => exact ⟨_, rfl, rfl⟩
            | false =>
              simp only [Bool.false_eq_true, if_false]
              by_cases c4 : (membT (allT p.2.2 ceN)).2 = 0
              · rw [if_neg (show ¬ (!decide ((membT (allT p.2.2 ceN)).2 = 0)) = true by simp [c4]), if_neg (show ¬ (!decide ((membT (allT p.2.2 ceN)).2 = 0)) = true by simp [c4])]
                cases o with
                | inl v =>
                  dsimp only at g2
                  rw [g2.2]
                  simp only [Option.bind_some, decide_eq_true g2.1, if_true]
                  exact ⟨_, rfl, rfl⟩
                | inr u =>
                  dsimp only at g2
                  rw [g2]
                  simp only [Option.bind_some, Bool.false_eq_true, if_false, show decide ((0 : Int) ≤ -1) = false from rfl]
                  generalize hf : (mediaT x).1.2.2.find? (fun x => decide (x.1 = csN)) = y at k2
                  rcases y with _ | y <;> rcases w with v | v <;> simp only at k2
                  · simp only [Option.bind_some, show decide ((0 : Int) ≤ -1) = false from rfl, Bool.false_eq_true, if_false]
                    exact ⟨_, rfl, rfl⟩
                  · obtain ⟨j, rfl, hj⟩ := k2
                    simp only [Option.bind_some]
                    rw [if_pos (by simp), ixL_nat, hj]
                    exact ⟨_, rfl, rfl⟩
              · rw [if_pos (show (!decide ((membT (allT p.2.2 ceN)).2 = 0)) = true by simp [c4]), if_pos (show (!decide ((membT (allT p.2.2 ceN)).2 = 0)) = true by simp [c4])]
                exact ⟨_, rfl, rfl⟩
      · rw [if_pos (show (!decide ((mediaT x).2 = 0)) = true by simp [c2])]
        exact ⟨_, rfl, rfl⟩
theorem shown21k : law21_shown = some true := by kernel_rfl
theorem law_HardenKinds (p : Int × List UInt8 × List (List UInt8 × List UInt8)) (_hp : inR .i64 p.1 ∧ True ∧ ∀ x ∈ p.2.2, True ∧ True)
    (hb0 : p.2.1.length + sumM (fun y0 => ((y0.1.length + 1) + (y0.2.length + 1)) + 1) p.2.2 ≤ 1048576) : law21_HardenKinds p = some true := by
  have hb : p.2.1.length + sumM mFld p.2.2 ≤ 1048576 := hb0
  have hW : okW p.2.2 := ⟨okF_of (by omega), fun n => Nat.le_trans (wtV_all n p.2.2) (by omega)⟩
  obtain ⟨r, e1, e2⟩ := kind_eq hW
  unfold law21_HardenKinds
  rw [shown21k, show harden_Kind (p.1, p.2.1, p.2.2) = some r from e1, show ref21_Kind (p.1, p.2.1, p.2.2) = some r from e2]
  simp
end Go.Proofs.YtgngopfpnidbaaaGreatDoor
