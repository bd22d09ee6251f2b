/- Utf8Whole, plain. -/
import Derived.Test.YtcmmmomkfamodaaU8J
import Derived.Test.YtcmmmomkfamodaaLWhole
namespace Go.Proofs.Ytcmmmomkfamodaa
open Go.Av
/-- up to the first fault the bytes are read as themselves -/
theorem whole_upto : ∀ (n : Nat) (t : List UInt8) (i : Nat), t.length ≤ n → ∃ k, faultT t i = i + k ∧ k ≤ t.length ∧ encL (runesT (t.take k)) = t.take k
  | n, [], i, _ => ⟨0, by rw [faultT_nil]; rfl, Nat.zero_le _, by simp [runesT_nil, encL]⟩
  | 0, c :: r, i, h => by simp at h
  | n + 1, c :: r, i, h => by
    have hne : c :: r ≠ [] := by simp
    rw [faultT_cons hne]
    by_cases hw : (lookT (c :: r)).2 = true
    · obtain ⟨hg, r', hr', hl⟩ := look_whole _ hw
      have hp : (pieceT (c :: r)).1 = (lookT (c :: r)).1 := by unfold pieceT; rw [if_pos hw]
      have hpl := piece_len hne
      generalize valT (lookT (c :: r)).1 (c :: r) = v at *
      have hd : (c :: r).drop (pieceT (c :: r)).1 = r' := by rw [hp, ← hl, hr']; exact List.drop_left
      have hlen : r'.length ≤ n := by
        have := congrArg List.length hd
        rw [List.length_drop] at this
        omega
      obtain ⟨k, h1, h2, h3⟩ := whole_upto n r' (i + (pieceT (c :: r)).1) hlen
      rw [if_pos hw, hd, h1]
      have hr2 : (c :: r).length = (pieceT (c :: r)).1 + r'.length := by rw [hp, ← hl, ← List.length_append, ← hr']
      refine ⟨(pieceT (c :: r)).1 + k, by omega, by omega, ?_⟩
      have ht : (c :: r).take ((pieceT (c :: r)).1 + k) = chB v ++ r'.take k := by
        rw [hp, ← hl, hr', List.take_append, List.take_of_length_le (by omega), Nat.add_sub_cancel_left]
      rw [ht, runesT_cons (chB_ne v _), piece_chB hg, List.drop_left, encL_cons, fixR_id hg, h3]
    · rw [if_neg hw]
      exact ⟨0, rfl, Nat.zero_le _, by simp [runesT_nil, encL]⟩
theorem law_Utf8Whole (b : List UInt8) (_hv : ∀ x ∈ b, True) (hb : sumM (fun _ => 1) b + 1 ≤ 1048576) : law08_Utf8Whole b = some true := by
  rw [sum_one] at hb
  have h2 := encL_run _ b (Nat.le_refl _)
  have hg := runesT_good _ b (Nat.le_refl _)
  obtain ⟨k, hf, hk, hw⟩ := whole_upto _ b 0 (Nat.le_refl _)
  have hs : runesT (encL (runesT b)) = runesT b := by have := runesT_encL (runesT b) [] hg; rwa [List.append_nil, runesT_nil, List.append_nil] at this
  have hsf : faultT (encL (runesT b)) 0 = (encL (runesT b)).length := by have := faultT_encL (runesT b) [] 0 hg; rwa [List.append_nil, faultT_nil, Nat.zero_add] at this
  have hiff : encL (runesT b) = b ↔ k = b.length := by
    constructor
    · intro h
      rw [h] at hsf
      omega
    · intro h
      rw [h, List.take_length] at hw
      exact hw
  unfold law08_Utf8Whole
  rw [Nat.zero_add] at hf
  rw [shown_true, Decode_eq (by omega), Fault_eq (by omega), hf]
  simp only [Option.bind_some, if_true, decide_eq_true_eq]
  rw [if_neg (by omega), Option.bind_some, decide_eq_false (by omega), if_neg (by simp), szC_ok (by omega), Fault_eq (by omega), hsf]
  simp only [Option.bind_some, if_true]
  rw [Decode_eq (by omega), hs]
  simp only [Option.bind_some, if_true]
  rw [if_pos (by rw [beq_iff_eq, decide_eq_decide, hiff]; omega), slL_to hk]
  simp only [Option.bind_some]
  rw [Decode_eq (by rw [List.length_take]; omega), hw]
  simp
end Go.Proofs.Ytcmmmomkfamodaa
