/- SniffNothing, plain. -/
import Derived.Test.YtecpgelhhbbjmaaDoorU11E
import Derived.Test.YtecpgelhhbbjmaaDoorLNothing
namespace Go.Proofs.YtecpgelhhbbjmaaDoor
open Go.Av
theorem low_loop (s : List UInt8) (hl : s.length ≤ 4194304) : ∀ (k i : Nat) (l : List UInt8), i ≤ s.length → s.length - i < k → l = (s.take i).map (· &&& bC 127) ++ s.drop i → law11_SniffNothing_L16 k (i : Int) l = some (s.map (· &&& bC 127))
  | 0, i, l, _, hk, _ => by omega
  | k + 1, i, l, hi, hk, ht => by
    simp only [law11_SniffNothing_L16]
    have hlen : ((s.take i).map (· &&& bC 127)).length = i := by simp; omega
    have hll : l.length = s.length := by rw [ht, List.length_append, hlen, List.length_drop]; omega
    rw [hll]
    by_cases hlt : i < s.length
    · have hx : l[i]? = some s[i] := by
        rw [ht, List.getElem?_append_right (by omega), hlen, Nat.sub_self, drop_step hlt]; rfl
      have hnx : (s.take (i + 1)).map (· &&& bC 127) ++ s.drop (i + 1) = l.set i (s[i] &&& bC 127) := by
        rw [ht, List.set_append_right _ _ (by omega), hlen, Nat.sub_self, drop_step hlt, List.set_cons_zero, List.take_add_one, List.getElem?_eq_getElem hlt, List.map_append]
        simp
      rw [if_pos (by simp; omega), ixL_nat, hx]
      simp only [Option.bind_some, Int.toNat_natCast]
      rw [iadd64 (by omega) (by omega), ← Int.natCast_add_one]
      exact low_loop s hl k (i + 1) _ (by omega) (by omega) hnx.symm
    · rw [if_neg (by simp; omega)]
      rw [ht, List.take_of_length_le (by omega), List.drop_eq_nil_of_le (by omega), List.append_nil]
def nthT (c : UInt8) : UInt8 := tmT (smT (c &&& bC 127))
theorem nth_low (c : UInt8) : b2i (nthT c) < 128 ∧ nthT c ≠ 60 := of_decide_eq_true (all256 (p := fun c => decide (b2i (nthT c) < 128 ∧ nthT c ≠ 60)) (by kernel_rfl) c)
theorem enc_low : ∀ s : List UInt8, (∀ c ∈ s, b2i c < 128) → encL (s.map chT) = s
  | [], _ => rfl
  | c :: s, h => by
    rw [List.map_cons, encL_cons, fixR_id (chT_good c), (chB3l c).2.1 (h c (List.mem_cons_self ..)), enc_low s fun x hx => h x (List.mem_cons_of_mem _ hx)]
    rfl
theorem bom_low {b : List UInt8} (h : ∀ c ∈ b, b2i c < 128) : bomT b = (0, 0) := by
  unfold bomT
  have h3 : ∀ c ∈ b.take 3, b2i c < 128 := fun c hc => h c (List.mem_of_mem_take hc)
  generalize b.take 3 = x at h3
  have no : ∀ (d : UInt8) (w : List UInt8), 128 ≤ b2i d → (d :: w).isPrefixOf x = false := fun d w hd => by
    rcases x with _ | ⟨y, z⟩
    · rfl
    · have : ¬ d = y := fun e => by have := h3 y (List.mem_cons_self ..); rw [← e] at this; omega
      simp [List.isPrefixOf, this]
  rw [if_neg (fun e => by have := h3 239 (by rw [e]; exact List.mem_cons_self ..); exact absurd this (by decide)), no 254 _ (by decide), no 255 _ (by decide)]
  rfl
theorem law_SniffNothing (cs s : List UInt8) (_hc : True) (_hs : True) (hb : cs.length + 1 + (s.length + 1 + 0) ≤ 1048576) : law11_SniffNothing cs s = some true := by
  unfold law11_SniffNothing
  have h0 := low_loop s (by omega) 1099511627776 0 s (by omega) (by omega) (by simp)
  simp only [Int.natCast_zero] at h0
  rw [shown11, szC_ok (by omega)]
  simp only [Option.bind_some, h0]
  rw [tame_eq (by rw [List.length_map]; omega)]
  have e : ((s.map (· &&& bC 127)).map smT).map tmT = s.map nthT := by
    rw [List.map_map, List.map_map]; rfl
  rw [e]
  have hlen : (s.map nthT).length = s.length := List.length_map ..
  have hlow : ∀ c ∈ s.map nthT, b2i c < 128 := fun c hc => by obtain ⟨x, _, rfl⟩ := List.mem_map.1 hc; exact (nth_low x).1
  have hne : ∀ c ∈ s.map nthT, c ≠ 60 := fun c hc => by obtain ⟨x, _, rfl⟩ := List.mem_map.1 hc; exact (nth_low x).2
  generalize s.map nthT = b at hlen hlow hne
  simp only [Option.bind_some]
  rw [szC_ok (by omega)]
  simp only [Option.bind_some]
  rw [LabelT_eq (by omega)]
  simp only [Option.bind_some]
  by_cases hc : lblT cs = 0
  · have hp : preT b = 0 := by
      unfold preT
      have hm : ∀ c ∈ (b.take 1024).map smT, c ≠ 60 := fun c hc => by
        obtain ⟨x, hx, rfl⟩ := List.mem_map.1 hc
        have h1 := hne x (List.mem_of_mem_take hx)
        have := of_decide_eq_true (all256 (p := fun c => decide (c ≠ 60 → smT c ≠ 60)) (by kernel_rfl) x)
        exact this h1
      have hl : ((b.take 1024).map smT).length ≤ 1024 := by rw [List.length_map, List.length_take]; omega
      have := scan_skip ((b.take 1024).map smT) [] 1025 1 hm (by rw [List.append_nil]; omega) (by simp)
      rw [List.append_nil] at this
      rw [this]; rfl
    have hpick : pickT cs b = (2, 0) := by
      unfold pickT
      rw [bom_low hlow, hc, hp]
      rfl
    rw [if_neg (by simp [hc]), Pick_eq (by omega) (by omega), Decode_eq11 (by omega) (by omega), Prescan_eq (by omega), hp]
    have hdT : decT cs b = (b, 0) := by
      have e0 := enc_low b hlow
      simp [decT, hpick, e0]
    rw [hdT, hpick]
    simp
  · rw [if_pos (by simp [hc])]
end Go.Proofs.YtecpgelhhbbjmaaDoor
