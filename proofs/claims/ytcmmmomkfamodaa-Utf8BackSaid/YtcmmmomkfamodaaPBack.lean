/- Utf8Back, plain. -/
import Derived.Test.YtcmmmomkfamodaaU8J
import Derived.Test.YtcmmmomkfamodaaLBack
namespace Go.Proofs.Ytcmmmomkfamodaa
open Go.Av
theorem good_loop (l : List Int) (hl : l.length ≤ 35184372087808) (hv : ∀ x ∈ l, inR .i32 x) : ∀ (k i : Nat) (acc : List Int), i ≤ l.length → l.length - i < k → acc.length ≤ i →
    law08_Utf8Back_L21 l k (i : Int) acc = some (acc ++ (l.drop i).filter (fun c => decide (goodC c)))
  | 0, i, acc, _, h, _ => by omega
  | k + 1, i, acc, hi, hk, ha => by
    simp only [law08_Utf8Back_L21, decide_eq_true_eq]
    by_cases hlt : i < l.length
    · have hx := hv _ (List.getElem_mem hlt)
      simp only [inR] at hx
      have e : icv .i32 .i64 l[i] = l[i] := icv_id (by simp only [inR]; omega)
      rw [if_pos (by omega), ixL_in hlt, drop_step hlt]
      simp only [Option.bind_some, e, ref_Char_eq]
      rw [szC_ok (by rw [List.length_append]; simp only [List.length_cons, List.length_nil]; omega), iadd64 (by omega) (by omega), ← Int.natCast_add_one]
      simp only [Option.bind_some]
      by_cases g : goodC l[i]
      · rw [if_pos (by simp [g]), good_loop l hl hv k (i + 1) _ (by omega) (by omega) (by rw [List.length_append]; simp only [List.length_cons, List.length_nil]; omega), List.filter_cons_of_pos (by simp [g])]
        simp
      · rw [if_neg (by simp [g]), good_loop l hl hv k (i + 1) _ (by omega) (by omega) (by omega), List.filter_cons_of_neg (by simp [g])]
    · rw [if_neg (by omega), List.drop_eq_nil_of_le (by omega)]
      simp
theorem or_high (x : UInt8) : 128 ≤ b2i (x ||| bC 128) := by
  have : ∀ n : _root_.Fin 256, 128 ≤ b2i (UInt8.ofNat n.val ||| bC 128) := by decide +kernel
  have := this ⟨x.toNat, x.toNat_lt⟩
  simpa using this
theorem look_high {x : UInt8} (h : 128 ≤ b2i x) : (lookT [x]).2 = false := by
  simp only [lookT]
  rw [if_neg (by omega)]
  (repeat' split) <;> rfl
theorem law_Utf8Back_all (l : List Int) (x : UInt8) (hv : ∀ x ∈ l, inR .i32 x) (_hx : True) (hb1 : l.length * 4 ≤ 140737488351232 ∧ ∀ x ∈ l, True) (_hb2 : True) : law08_Utf8Back l x = some true := by
  have hb := hb1.1
  have hk := good_loop l (by omega) hv 140737488355328 0 [] (by omega) (by omega) (by simp)
  simp only [Int.natCast_zero, List.drop_zero, List.nil_append] at hk
  have hg : ∀ c ∈ l.filter (fun c => decide (goodC c)), goodC c := fun c hc => by simpa using (List.mem_filter.1 hc).2
  have hn := List.length_filter_le (fun c => decide (goodC c)) l
  generalize l.filter (fun c => decide (goodC c)) = G at *
  have he := encL_len G
  have z1 := szC_ok (n := (encL G).length) (by omega)
  have la : (encL G ++ [x ||| bC 128]).length = (encL G).length + 1 := by simp
  have z2 := szC_ok (n := (encL G ++ [x ||| bC 128]).length) (by omega)
  have d1 := Encode_eq (l := G) (by omega)
  have r1 : runesT (encL G) = G := by have := runesT_encL G [] hg; simpa [runesT_nil] using this
  have d2 := Runes_eq (b := encL G) (by omega) (by rw [r1]; omega) (by rw [r1]; omega)
  have d3 := Fault_eq (b := encL G) (by omega)
  have d4 := Fault_eq (b := encL G ++ [x ||| bC 128]) (by omega)
  have r2 : faultT (encL G) 0 = (encL G).length := by have := faultT_encL G [] 0 hg; simpa [faultT_nil] using this
  have r3 : faultT (encL G ++ [x ||| bC 128]) 0 = (encL G).length := by
    rw [faultT_encL G _ 0 hg, faultT_cons (by simp), look_high (or_high x)]; simp
  have d5 := runes_eq (a := G) (b := G) (by omega) (by omega)
  unfold law08_Utf8Back
  rw [shown_true]
  simp only [Option.bind_some, hk, d1, z1, z2, d2, d3, d4, r1, r2, r3, d5]
  simp
end Go.Proofs.Ytcmmmomkfamodaa
