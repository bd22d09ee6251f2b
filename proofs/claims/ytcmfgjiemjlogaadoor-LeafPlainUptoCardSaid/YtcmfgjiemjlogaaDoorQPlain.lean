/- LeafPlain, plain. -/
import Derived.Test.YtcmfgjiemjlogaaDoorU9B
import Derived.Test.YtcmfgjiemjlogaaDoorLPlain
namespace Go.Proofs.YtcmfgjiemjlogaaDoor
open Go.Av
set_option maxRecDepth 100000
def lowT (c : UInt8) : UInt8 := c &&& bC 127
theorem lowT_lt (c : UInt8) : b2i (lowT c) < 128 := of_decide_eq_true (all256 (p := fun c => decide (b2i (lowT c) < 128)) (by kernel_rfl) c)
theorem lowT_iff (c : UInt8) : lowT c = c ↔ b2i c < 128 := of_decide_eq_true (all256 (p := fun c => decide (lowT c = c ↔ b2i c < 128)) (by kernel_rfl) c)
theorem low_loop (b : List UInt8) (hl : b.length ≤ 4194304) : ∀ (k i : Nat) (l : List UInt8), i ≤ b.length → b.length - i < k → l.length = b.length → l = (b.take i).map lowT ++ b.drop i → law09_LeafPlain_L15 k (i : Int) l = some (b.map lowT)
  | 0, i, l, _, hk, _, _ => by omega
  | k + 1, i, l, hi, hk, hll, ht => by
    simp only [law09_LeafPlain_L15, decide_eq_true_eq]
    by_cases hlt : i < b.length
    · have hx : l[i]? = some b[i] := by
        rw [ht, List.getElem?_append_right (by simp; omega)]
        simp [Nat.min_eq_left hi, hlt]
      rw [if_pos (by omega), ixL_nat, hx]
      simp only [Option.bind_some, Int.toNat_natCast]
      rw [iadd64 (by omega) (by omega), ← Int.natCast_add_one]
      refine low_loop b hl k (i + 1) _ (by omega) (by omega) (by simp [hll]) ?_
      have hlen : ((b.take i).map lowT).length = i := by simp; omega
      rw [ht, List.set_append_right _ _ (by omega), hlen, Nat.sub_self, drop_step hlt, List.set_cons_zero, List.take_add_one, List.getElem?_eq_getElem hlt, List.map_append]
      simp [lowT]
    · rw [if_neg (by omega)]
      rw [ht, List.take_of_length_le (by omega), List.drop_eq_nil_of_le (by omega), List.append_nil]
theorem enc_low : ∀ b : List UInt8, (∀ c ∈ b, b2i c < 128) → encL (b.map chT) = b
  | [], _ => rfl
  | c :: b, h => by
    rw [List.map_cons, encL_cons, fixR_id (chT_good c), (chB3l c).2.1 (h c (by simp)), enc_low b fun x hx => h x (by simp [hx])]
    rfl
theorem enc_high : ∀ b : List UInt8, (∃ c ∈ b, 128 ≤ b2i c) → b.length < (encL (b.map chT)).length
  | [], h => by simp at h
  | c :: b, ⟨x, hx, h⟩ => by
    have h1 := (chB_len (chT c)).1
    have hb := (enc3_len b).2
    rw [List.map_cons, encL_cons, fixR_id (chT_good c), List.length_append, List.length_cons]
    rcases List.mem_cons.1 hx with rfl | hx
    · have := (chB3l x).2.2 h
      omega
    · have := enc_high b ⟨x, hx, h⟩
      omega
theorem map_low_iff : ∀ b : List UInt8, b.map lowT = b ↔ ∀ c ∈ b, b2i c < 128
  | [] => by simp
  | c :: b => by simp [map_low_iff b, lowT_iff]
theorem law_LeafPlain (b : List UInt8) (_hb : ∀ x ∈ b, True) (hb : sumM (fun _ => 1) b + 1 ≤ 1048576) : law09_LeafPlain b = some true := by
  rw [sum_one] at hb
  have h3 := enc3_len b
  have hlow : ∀ c ∈ b.map lowT, b2i c < 128 := fun c hc => by obtain ⟨x, _, rfl⟩ := List.mem_map.1 hc; exact lowT_lt x
  have hself := enc_low _ hlow
  have hr := runes_dec (b.map lowT)
  rw [hself] at hr
  have hlp := low_loop b (by omega) 1099511627776 0 b (by omega) (by omega) rfl (by simp)
  simp only [Int.natCast_zero] at hlp
  unfold law09_LeafPlain
  rw [shown9]
  simp only [Option.bind_some]
  rw [szC_ok (by omega), hlp]
  simp only [Option.bind_some]
  rw [Decode9_eq (by simp; omega), Encode9_eq (by simp; omega), Decode9_eq (by omega), hself, hr, encT, bytesT_map]
  simp only [Option.bind_some, if_true, decide_true]
  rw [imul64 (by omega) (by omega)]
  have key : (decide ((b.length : Int) < ((encL (b.map chT)).length : Int)) == !decide (b.map lowT = b)) = true := by
    rw [beq_iff_eq]
    by_cases h : ∀ c ∈ b, b2i c < 128
    · rw [enc_low b h, decide_eq_true ((map_low_iff b).2 h)]; simp
    · have h' : ∃ c ∈ b, 128 ≤ b2i c := Classical.byContradiction fun hn => h fun c hc => by
        have : ¬ 128 ≤ b2i c := fun hx => hn ⟨c, hc, hx⟩
        omega
      have := enc_high b h'
      rw [decide_eq_false (fun e => h ((map_low_iff b).1 e)), decide_eq_true (by omega)]
      rfl
  rw [key]
  simp
  omega
end Go.Proofs.YtcmfgjiemjlogaaDoor
