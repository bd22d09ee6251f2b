/- Utf8Feeds, plain. -/
import Derived.Test.YtcmmmomkfamodaaU8G
import Derived.Test.YtcmmmomkfamodaaLFeeds
namespace Go.Proofs.Ytcmmmomkfamodaa
open Go.Av
set_option linter.unusedVariables false
set_option linter.unusedSimpArgs false
set_option maxRecDepth 100000
theorem feed_eq (x l : List UInt8) (h : (l ++ x).length ≤ 4194304) : utf8_Decoder_Feed x l = some (encL (runesT ((l ++ x).take ((l ++ x).length - heldT (l ++ x)))), (l ++ x).drop ((l ++ x).length - heldT (l ++ x))) := by
  have hh := held_le (l ++ x)
  have hl : l.length ≤ 4194304 := by rw [List.length_append] at h; omega
  unfold utf8_Decoder_Feed
  rw [szC_ok (by omega), szC_ok (by omega)]
  generalize l ++ x = y at *
  have e : isub .i64 (y.length : Int) (heldT y : Int) = ((y.length - heldT y : Nat) : Int) := by rw [isub64 (by omega) (by omega)]; omega
  simp only [Option.bind_some]
  rw [held_eq h]
  simp only [Option.bind_some, e]
  rw [slL_from (by omega), slL_to (by omega)]
  simp only [Option.bind_some]
  rw [szC_ok (by rw [List.length_drop]; omega), Decode_eq (by rw [List.length_take]; omega)]
  rfl
theorem wipe_loop (x : List UInt8) (hx : x.length ≤ 4194304) : ∀ (k i : Nat) (l : List UInt8), i ≤ x.length → x.length - i < k → l.length = x.length + 1 → law08_Utf8Feeds_L306 x k (i : Int) l = some ()
  | 0, i, l, _, h, _ => by omega
  | k + 1, i, l, hi, hk, hl => by
    simp only [law08_Utf8Feeds_L306, decide_eq_true_eq]
    by_cases hlt : i < x.length
    · rw [if_pos (by omega), ixL_in hlt]
      simp only [Option.bind_some]
      rw [ixL_in (show i < l.length by omega)]
      simp only [Option.bind_some]
      rw [iadd64 (by omega) (by omega), ← Int.natCast_add_one]
      exact wipe_loop x hx k (i + 1) _ (by omega) (by omega) (by rw [List.length_set]; exact hl)
    · rw [if_neg (by omega)]
theorem feeds_loop (ps : List (List UInt8)) (es : List Int) (hp : ps.length ≤ 4194304) (he : es.length ≤ 4194304) : ∀ (k i : Nat) (all : List UInt8), i ≤ ps.length → ps.length - i < k → all.length + ((ps.drop i).map List.length).sum ≤ 4194300 →
    ∃ a', a'.length ≤ 4194300 ∧ law08_Utf8Feeds_L267 ps es k ((all.length - heldT all : Nat) : Int) (i : Int) (all.drop (all.length - heldT all)) all = some (Sum.inr (((a'.length - heldT a' : Nat) : Int), a'.drop (a'.length - heldT a'), a'))
  | 0, i, all, _, h, _ => by omega
  | k + 1, i, all, hi, hk, hs => by
    have hh := held_le all
    have e191 : b2i (bC 191) = 191 := rfl
    simp only [law08_Utf8Feeds_L267, decide_eq_true_eq]
    by_cases hlt : i < ps.length
    · rw [if_pos (by omega), ixL_in hlt]
      rw [drop_step hlt, List.map_cons, List.sum_cons] at hs
      have hmore := held_more all ps[i]
      generalize hx : ps[i] = x at *
      have hsl : slL (x ++ [bC 191]) 0 (x.length : Int) = some x := by rw [slL_to (by simp), List.take_left]
      have hA : (all ++ x).drop (all.length - heldT all) = all.drop (all.length - heldT all) ++ x := List.drop_append_of_le_length (by omega)
      have hy := held_le (all.drop (all.length - heldT all) ++ x)
      have hcl : (all.drop (all.length - heldT all)).length = heldT all := by rw [List.length_drop]; omega
      simp only [List.length_append, hcl] at hy
      have hAl : (all ++ x).length = all.length + x.length := List.length_append
      have z1 : szC x.length = some () := szC_ok (by omega)
      have z2 : szC (x ++ [bC 191]).length = some () := szC_ok (by simp only [List.length_append, List.length_cons, List.length_nil]; omega)
      have z3 : szC (all ++ x).length = some () := szC_ok (by omega)
      have i1 : iadd .i64 (x.length : Int) 1 = ((x ++ [bC 191]).length : Int) := by rw [iadd64 (by omega) (by omega)]; simp
      have s2 : slL (x ++ [bC 191]) 0 ((x ++ [bC 191]).length : Int) = some (x ++ [bC 191]) := by rw [slL_to (Nat.le_refl _), List.take_length]
      have x2 : ixL (x ++ [bC 191]) (x.length : Int) = some (bC 191) := by rw [ixL_nat, List.getElem?_append_right (Nat.le_refl _)]; simp
      have w : law08_Utf8Feeds_L306 x 1099511627776 0 (x ++ [bC 191]) = some () := by
        have := wipe_loop x (by omega) 1099511627776 0 (x ++ [bC 191]) (by omega) (by omega) (by simp)
        simpa using this
      have hf := feed_eq x (all.drop (all.length - heldT all)) (by rw [List.length_append, hcl]; omega)
      have hr := ref_Held_eq (b := all ++ x) (by omega)
      simp only [Option.bind_some, z1, z2, z3, hsl, i1, s2, x2, w, hf, hr, decide_true, if_true, Bool.not_true, Bool.false_eq_true, if_false]
      have hle2 := held_le (all ++ x)
      have hm : isub .i64 ((all ++ x).length : Int) (heldT (all ++ x) : Int) = (((all ++ x).length - heldT (all ++ x) : Nat) : Int) := by rw [isub64 (by omega) (by omega)]; omega
      have hyl : (all.drop (all.length - heldT all) ++ x).length = heldT all + x.length := by rw [List.length_append, hcl]
      have hs1 : slL (all ++ x) ((all.length - heldT all : Nat) : Int) (((all ++ x).length - heldT (all ++ x) : Nat) : Int) = some ((all.drop (all.length - heldT all) ++ x).take ((all.drop (all.length - heldT all) ++ x).length - heldT (all.drop (all.length - heldT all) ++ x))) := by
        rw [slL_nat (by omega) (by omega), List.drop_take, hA, hyl, hAl, hmore]; congr 2; omega
      have hdr : (all ++ x).drop ((all ++ x).length - heldT (all ++ x)) = (all.drop (all.length - heldT all) ++ x).drop ((all.drop (all.length - heldT all) ++ x).length - heldT (all.drop (all.length - heldT all) ++ x)) := by
        have := drop_both (all.take (all.length - heldT all)) (all.drop (all.length - heldT all)) x (heldT (all.drop (all.length - heldT all) ++ x)) (by omega)
        rw [List.take_append_drop] at this
        rw [hmore]; exact this
      rw [hm, hs1, ← hdr, slL_from (by omega)]
      have hl2 : ((all ++ x).drop ((all ++ x).length - heldT (all ++ x))).length = heldT (all ++ x) := by rw [List.length_drop]; omega
      simp only [Option.bind_some]
      rw [ref_Decode_eq (by rw [List.length_take]; omega)]
      simp only [Option.bind_some, decide_true, Bool.not_true, Bool.false_eq_true, if_false, utf8_Decoder_Held, hl2]
      rw [show utf8_Decoder_Close ((all ++ x).drop ((all ++ x).length - heldT (all ++ x))) = some (encL (runesT ((all ++ x).drop ((all ++ x).length - heldT (all ++ x))))) by
        unfold utf8_Decoder_Close; rw [Decode_eq (by omega)]; rfl, ref_Decode_eq (by omega), iadd64 (by omega) (by omega), ← Int.natCast_add_one]
      simp only [Option.bind_some, decide_true, Bool.not_true, Bool.false_eq_true, if_false, List.length_nil]
      have h1 := feeds_loop ps es hp he k (i + 1) (all ++ x) (by omega) (by omega) (by omega)
      have h2 := feeds_loop ps es hp he k (i + 1) [] (by omega) (by omega) (by simp only [List.length_nil]; omega)
      simp only [List.length_nil, Nat.zero_sub, List.drop_nil, Int.natCast_zero] at h2
      by_cases hj : i < es.length
      · rw [if_pos (by omega), ixL_in hj]
        simp only [Option.bind_some]
        by_cases ho : iand .i64 es[i] 1 = 1
        · simp only [ho, decide_true, if_true]; exact h2
        · simp only [ho, decide_false, Bool.false_eq_true, if_false]; exact h1
      · rw [if_neg (by omega)]
        simp only [Option.bind_some, Bool.false_eq_true, if_false]; exact h1
    · rw [if_neg (by omega)]
      exact ⟨all, by omega, rfl⟩
theorem sum_ps : ∀ ps : List (List UInt8), (ps.map List.length).sum + ps.length = sumM (fun p => sumM (fun _ => 1) p + 1) ps
  | [] => rfl
  | p :: ps => by
    have := sum_ps ps
    have e := sum_one p
    simp only [List.map_cons, List.sum_cons, List.length_cons, sumM] at this e ⊢
    omega
theorem law_Utf8Feeds (ps : List (List UInt8)) (es : List Int) (_hp : ∀ x ∈ ps, ∀ y ∈ x, True) (_he : ∀ x ∈ es, inR .i64 x) (hb : sumM (fun p => sumM (fun _ => 1) p + 1) ps + 1 + (sumM (fun _ => 1) es + 1) ≤ 1048576) : law08_Utf8Feeds ps es = some true := by
  have e1 := sum_ps ps
  have e2 := sum_one es
  obtain ⟨a, ha, h⟩ := feeds_loop ps es (by omega) (by omega) 1099511627776 0 [] (by omega) (by omega) (by simp only [List.length_nil, List.drop_zero]; omega)
  have hh := held_le a
  have hd : (a.drop (a.length - heldT a)).length = heldT a := by rw [List.length_drop]; omega
  have c0 : ∀ l : List UInt8, l.length ≤ 4194304 → utf8_Decoder_Close l = some (encL (runesT l)) := fun l hl => by unfold utf8_Decoder_Close; rw [Decode_eq hl]; rfl
  simp only [List.length_nil, Nat.zero_sub, List.drop_nil, Int.natCast_zero] at h
  unfold law08_Utf8Feeds
  rw [shown_true]
  simp only [Option.bind_some, Bool.not_true, Bool.false_eq_true, if_false]
  rw [h]
  simp only [Option.bind_some]
  rw [c0 _ (by omega), slL_from (by omega)]
  simp only [Option.bind_some]
  rw [ref_Decode_eq (by omega), c0 [] (by simp)]
  simp only [Option.bind_some, decide_true, if_true, utf8_Decoder_Held, List.length_nil, Int.natCast_zero, runesT_nil]
  rfl
end Go.Proofs.Ytcmmmomkfamodaa
