/- SniffReads, plain. -/
import Derived.Test.YtecpgelhhbbjmaaDoorU11E
import Derived.Test.YtecpgelhhbbjmaaDoorLReads
namespace Go.Proofs.YtecpgelhhbbjmaaDoor
open Go.Av
theorem law_SniffReads (cs b : List UInt8) (_hc : True) (_hb : ∀ x ∈ b, True) (hb : cs.length + 1 + (sumM (fun _ => 1) b + 1 + 0) ≤ 1048576) : law11_SniffReads cs b = some true := by
  rw [sum_one] at hb
  unfold law11_SniffReads
  rw [shown11, Pick_eq (by omega) (by omega), Decode_eq11 (by omega) (by omega)]
  simp only [Option.bind_some, decT]
  have hr := pick_rng cs b
  obtain ⟨p1, p2⟩ := pick_len cs b
  generalize pickT cs b = p at hr p1 p2 ⊢
  by_cases h3 : p.1 = 3
  · simp [h3]
  obtain ⟨n, hn⟩ := Int.eq_ofNat_of_zero_le p1
  have hs : slL b p.2 ((b.length : Nat) : Int) = some (b.drop p.2.toNat) := by
    rw [hn, Int.toNat_natCast]
    exact slL_from (by omega)
  have hd : (b.drop p.2.toNat).length ≤ 1048576 := by rw [List.length_drop]; omega
  have fin : ∀ L : List Int, (∀ x ∈ L, goodC x) → (encL L).length ≤ 3145728 → ((szC (encL L).length).bind fun _ => (ref08_Fault (encL L)).bind fun r19 => if decide (r19 = (((encL L).length : Nat) : Int)) = true then some (!decide (p.1 = 3)) else some false) = some true := fun L hg hl => by
    have hf : faultT (encL L) 0 = (encL L).length := by have := faultT_encL L [] 0 hg; rwa [List.append_nil, faultT_nil, Nat.zero_add] at this
    rw [szC_ok (by omega)]
    simp only [Option.bind_some]
    rw [ref_Fault_eq (by omega), hf]
    simp [h3]
  have e1 : (if decide (p.2 < 0) = true then some true else some (decide (((b.length : Nat) : Int) < p.2))) = some false := by
    rw [if_neg (by simp; omega), decide_eq_false (by omega)]
  by_cases h1 : p.1 = 1
  · have hl := encL_run _ (b.drop p.2.toNat) (Nat.le_refl _)
    have hif : (if p.1 = 3 then (([] : List UInt8), (40 : Int)) else if p.1 = 1 then (encL (runesT (b.drop p.2.toNat)), 0) else (encL ((b.drop p.2.toNat).map chT), 0)) = (encL (runesT (b.drop p.2.toNat)), 0) := by rw [if_neg h3, if_pos h1]
    rw [hif]
    simp only [decide_true, Bool.not_true, Bool.false_eq_true, if_false, if_true, e1, Option.bind_some, hs]
    rw [Decode_eq (by omega)]
    simp only [Option.bind_some]
    rw [if_neg (by rw [h1]; decide)]
    simp only [Option.bind_some, decide_true, if_true]
    exact fin _ (runesT_good _ (b.drop p.2.toNat) (Nat.le_refl _)) (by omega)
  · have h2 : p.1 = 2 := by omega
    have hl := enc3_len (b.drop p.2.toNat)
    have hif : (if p.1 = 3 then (([] : List UInt8), (40 : Int)) else if p.1 = 1 then (encL (runesT (b.drop p.2.toNat)), 0) else (encL ((b.drop p.2.toNat).map chT), 0)) = (encL ((b.drop p.2.toNat).map chT), 0) := by rw [if_neg h3, if_neg h1]
    rw [hif]
    simp only [decide_true, Bool.not_true, Bool.false_eq_true, if_false, if_true, e1, Option.bind_some, hs]
    rw [Decode_eq (by omega), Decode9_eq (by omega)]
    simp only [Option.bind_some]
    rw [if_pos (decide_eq_true h2)]
    simp only [Option.bind_some, decide_true, if_true]
    exact fin _ (map_good (b.drop p.2.toNat)) (by omega)
end Go.Proofs.YtecpgelhhbbjmaaDoor
