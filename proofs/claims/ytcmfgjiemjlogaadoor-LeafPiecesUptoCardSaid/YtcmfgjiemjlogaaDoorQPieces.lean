/- LeafPieces, plain. -/
import Derived.Test.YtcmfgjiemjlogaaDoorU9B
import Derived.Test.YtcmfgjiemjlogaaDoorLPieces
namespace Go.Proofs.YtcmfgjiemjlogaaDoor
open Go.Av
/-- bytes without a fault are those of their characters -/
theorem faultless : ∀ (n : Nat) (t : List UInt8) (i : Nat), t.length ≤ n → i + t.length ≤ faultT t i → encL (runesT t) = t
  | n, [], i, _, _ => by simp [runesT_nil, encL]
  | 0, c :: r, i, h, _ => by simp at h
  | n + 1, c :: r, i, h, hf => by
    have hne : c :: r ≠ [] := by simp
    rw [faultT_cons hne] at hf
    by_cases hw : (lookT (c :: r)).2 = true
    · obtain ⟨hg, r', hr', hl⟩ := look_whole _ hw
      have hp : (pieceT (c :: r)).1 = (lookT (c :: r)).1 := by unfold pieceT; rw [if_pos hw]
      have hpl := piece_len hne
      generalize valT (lookT (c :: r)).1 (c :: r) = v at *
      have hd : (c :: r).drop (pieceT (c :: r)).1 = r' := by rw [hp, ← hl, hr']; exact List.drop_left
      have hr2 : (c :: r).length = (pieceT (c :: r)).1 + r'.length := by rw [hp, ← hl, ← List.length_append, ← hr']
      rw [if_pos hw, hd] at hf
      have := faultless n r' (i + (pieceT (c :: r)).1) (by omega) (by omega)
      rw [hr', runesT_cons (chB_ne v _), piece_chB hg, List.drop_left, encL_cons, fixR_id hg, this]
    · rw [if_neg hw, List.length_cons] at hf
      omega
theorem law_LeafPieces (a b s t : List UInt8) (_ha : ∀ x ∈ a, True) (_hb : ∀ x ∈ b, True) (_hs _ht : True) (hb : sumM (fun _ => 1) a + 1 + (sumM (fun _ => 1) b + 1 + (s.length + 1 + (t.length + 1 + 0))) ≤ 1048576) : law09_LeafPieces a b s t = some true := by
  rw [sum_one, sum_one] at hb
  have ha3 := enc3_len a
  have hb3 := enc3_len b
  obtain ⟨s', hs', hr⟩ : ∃ s', ((szC (List.length s)).bind fun _ => (ref08_Fault s).bind fun r12 => if !decide (r12 = (List.length s : Int)) then some [] else some s) = some s' ∧ s'.length ≤ s.length ∧ encL (runesT s') = s' := by
    rw [szC_ok (by omega), ref_Fault_eq (by omega)]
    simp only [Option.bind_some]
    by_cases h : ((faultT s 0 : Nat) : Int) = (s.length : Int)
    · exact ⟨s, by simp [h], Nat.le_refl _, faultless _ s 0 (Nat.le_refl _) (by omega)⟩
    · exact ⟨[], by simp [h], Nat.zero_le _, by simp [runesT_nil, encL]⟩
  have hrt : runesT (s' ++ t) = runesT s' ++ runesT t := by
    have := runesT_encL (runesT s') t (runesT_good _ s' (Nat.le_refl _))
    rwa [hr.2] at this
  have hst := runesT_len _ s' (Nat.le_refl _)
  have htt := runesT_len _ t (Nat.le_refl _)
  have hbl : ∀ (l : List Int) (o : List UInt8), bytesT l = some o → o.length = l.length := fun l => by
    induction l with
    | nil => intro o h; simp [bytesT] at h; subst h; rfl
    | cons r l ih =>
      intro o h
      rw [bytesT] at h
      rcases hx : byT r with _ | c
      · rw [hx] at h; simp at h
      · rw [hx] at h
        simp only [Option.map_eq_some_iff] at h
        obtain ⟨q, h1, h2⟩ := h
        rw [← h2, List.length_cons, List.length_cons, ih q h1]
  unfold law09_LeafPieces
  rw [shown9]
  simp only [Option.bind_some]
  rw [szC_ok (by omega), szC_ok (by rw [List.length_append]; omega)]
  simp only [Option.bind_some]
  rw [hs']
  simp only [Option.bind_some]
  rw [Encode9_eq (by omega), Encode9_eq (by omega), szC_ok (by rw [List.length_append]; omega), Encode9_eq (by rw [List.length_append]; omega), hrt, Decode9_eq (by rw [List.length_append]; omega), Decode9_eq (by omega), Decode9_eq (by omega), List.map_append, encL_app]
  have hz := szC_ok (n := (encL (a.map chT) ++ encL (b.map chT)).length) (by rw [List.length_append]; omega)
  simp only [Option.bind_some, if_true, hz, decide_true]
  unfold encT
  rw [bytesT_app]
  rcases h1 : bytesT (runesT s') with _ | x <;> rcases h2 : bytesT (runesT t) with _ | y
  · simp
  · simp
  · simp
  · have l1 := hbl _ _ h1
    have l2 := hbl _ _ h2
    have := szC_ok (n := (x ++ y).length) (by rw [List.length_append]; omega)
    simp only [Option.bind_some, Option.map_some, if_true, this]
    simp
end Go.Proofs.YtcmfgjiemjlogaaDoor
