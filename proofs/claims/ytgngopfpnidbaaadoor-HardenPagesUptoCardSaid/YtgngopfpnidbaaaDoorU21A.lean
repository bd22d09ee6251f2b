/- harden, plain: the heads of a page and of anything else. -/
import Derived.Test.YtgngopfpnidbaaaDoorU2HA
import Derived.Test.YtgngopfpnidbaaaDoorGQ
namespace Go.Proofs.YtgngopfpnidbaaaDoor
open Go.Av
set_option linter.unusedVariables false
set_option linter.unusedSimpArgs false
set_option maxRecDepth 100000
def pageN : List (List UInt8) := [[67, 111, 110, 116, 101, 110, 116, 45, 84, 121, 112, 101], [67, 111, 110, 116, 101, 110, 116, 45, 69, 110, 99, 111, 100, 105, 110, 103], [67, 111, 110, 116, 101, 110, 116, 45, 83, 101, 99, 117, 114, 105, 116, 121, 45, 80, 111, 108, 105, 99, 121], [88, 45, 67, 111, 110, 116, 101, 110, 116, 45, 84, 121, 112, 101, 45, 79, 112, 116, 105, 111, 110, 115], [69, 84, 97, 103], [67, 111, 110, 116, 101, 110, 116, 45, 77, 68, 53], [65, 99, 99, 101, 112, 116, 45, 82, 97, 110, 103, 101, 115], [67, 111, 110, 116, 101, 110, 116, 45, 82, 97, 110, 103, 101], [82, 101, 102, 114, 101, 115, 104], [76, 105, 110, 107]]
def ctF : Fld := ([67, 111, 110, 116, 101, 110, 116, 45, 84, 121, 112, 101], [116, 101, 120, 116, 47, 104, 116, 109, 108, 59, 32, 99, 104, 97, 114, 115, 101, 116, 61, 117, 116, 102, 45, 56])
def cspF : Fld := ([67, 111, 110, 116, 101, 110, 116, 45, 83, 101, 99, 117, 114, 105, 116, 121, 45, 80, 111, 108, 105, 99, 121], [100, 101, 102, 97, 117, 108, 116, 45, 115, 114, 99, 32, 39, 110, 111, 110, 101, 39, 59, 32, 98, 97, 115, 101, 45, 117, 114, 105, 32, 39, 110, 111, 110, 101, 39, 59, 32, 102, 111, 114, 109, 45, 97, 99, 116, 105, 111, 110, 32, 39, 110, 111, 110, 101, 39, 59, 32, 115, 97, 110, 100, 98, 111, 120])
def snF : Fld := ([88, 45, 67, 111, 110, 116, 101, 110, 116, 45, 84, 121, 112, 101, 45, 79, 112, 116, 105, 111, 110, 115], [110, 111, 115, 110, 105, 102, 102])
def pageF : List Fld := [ctF, cspF, snF]
def snN : List (List UInt8) := [[88, 45, 67, 111, 110, 116, 101, 110, 116, 45, 84, 121, 112, 101, 45, 79, 112, 116, 105, 111, 110, 115]]
def closeF (last : Bool) : List Fld := if last then [([67, 111, 110, 110, 101, 99, 116, 105, 111, 110], [99, 108, 111, 115, 101])] else []
def bodyF (b : Int × Int) : List Fld := if b.1 = 1 then lenF b.2 else if b.1 = 2 ∨ b.1 = 3 then [([84, 114, 97, 110, 115, 102, 101, 114, 45, 69, 110, 99, 111, 100, 105, 110, 103], [99, 104, 117, 110, 107, 101, 100])] else []
theorem closing_eq (last : Bool) : harden_closing last = some (closeF last) := by cases last <;> rfl
theorem closeF_len (last : Bool) : (closeF last).length ≤ 1 := by cases last <;> decide
theorem bodyF_len (b : Int × Int) : (bodyF b).length ≤ 1 := by
  have := lenF_len b.2
  unfold bodyF
  split
  · exact this
  · split <;> simp
/-! slices.Concat -/
theorem concat_size (ls : List (List Fld)) (hl : ls.length ≤ 1000000) (hf : ls.flatten.length ≤ 1000000000) : ∀ (k v s : Nat), v ≤ ls.length → ls.length - v < k → s + (ls.drop v).flatten.length ≤ 1000000000 →
    slices_Concat_api_Field_api_Field_L8 ls k (s : Int) (v : Int) = some ((s + (ls.drop v).flatten.length : Nat) : Int)
  | 0, v, s, _, hk, _ => by omega
  | k + 1, v, s, hv, hk, hs => by
    simp only [slices_Concat_api_Field_api_Field_L8]
    by_cases hlt : v < ls.length
    · rw [List.drop_eq_getElem_cons hlt, List.flatten_cons, List.length_append] at hs
      rw [if_pos (decide_eq_true (by omega)), ixL_in hlt]
      simp only [Option.bind_some]
      rw [iadd64 (by omega) (by omega), if_neg (by simp; omega), iadd64 (by omega) (by omega), show (v : Int) + 1 = ((v + 1 : Nat) : Int) by omega, show (s : Int) + ((ls[v]'hlt).length : Int) = ((s + (ls[v]'hlt).length : Nat) : Int) by omega,
        concat_size ls hl hf k (v + 1) (s + (ls[v]'hlt).length) hlt (by omega) (by omega), List.drop_eq_getElem_cons hlt, List.flatten_cons, List.length_append]
      congr 1
      omega
    · rw [if_neg (fun e => hlt (by have := of_decide_eq_true e; omega)), List.drop_eq_nil_of_le (by omega)]
      simp
theorem concat_all (ls : List (List Fld)) (hl : ls.length ≤ 1000000) (hf : ls.flatten.length ≤ 1000000000) : ∀ (k v : Nat) (acc : List Fld), v ≤ ls.length → ls.length - v < k → acc.length + (ls.drop v).flatten.length ≤ 1000000000 →
    slices_Concat_api_Field_api_Field_L24 ls k (v : Int) acc = some (acc ++ (ls.drop v).flatten)
  | 0, v, acc, _, hk, _ => by omega
  | k + 1, v, acc, hv, hk, hs => by
    simp only [slices_Concat_api_Field_api_Field_L24]
    by_cases hlt : v < ls.length
    · rw [List.drop_eq_getElem_cons hlt, List.flatten_cons, List.length_append] at hs
      rw [if_pos (decide_eq_true (by omega)), ixL_in hlt]
      simp only [Option.bind_some]
      rw [szC_ok (by rw [List.length_append]; omega), iadd64 (by omega) (by omega), show (v : Int) + 1 = ((v + 1 : Nat) : Int) by omega]
      simp only [Option.bind_some]
      rw [concat_all ls hl hf k (v + 1) _ hlt (by omega) (by rw [List.length_append]; omega), List.drop_eq_getElem_cons hlt, List.flatten_cons, List.append_assoc]
    · rw [if_neg (fun e => hlt (by have := of_decide_eq_true e; omega)), List.drop_eq_nil_of_le (by omega)]
      simp
theorem concat_eq {ls : List (List Fld)} (hl : ls.length ≤ 1000000) (hf : ls.flatten.length ≤ 1000000000) : slices_Concat_api_Field_api_Field ls = some ls.flatten := by
  unfold slices_Concat_api_Field_api_Field
  have h1 := concat_size ls hl hf 1099511627776 0 0 (by omega) (by omega) (by simpa using hf)
  have h2 := concat_all ls hl hf 1099511627776 0 [] (by omega) (by omega) (by simpa using hf)
  rw [List.drop_zero, Nat.zero_add] at h1
  rw [List.drop_zero, List.nil_append] at h2
  rw [show ((0 : Nat) : Int) = 0 from rfl] at h1 h2
  rw [h1]
  simp only [Option.bind_some]
  have h3 : growX [] ((ls.flatten.length : Nat) : Int) = some [] := by
    unfold growX
    rw [if_pos ⟨rfl, by omega, by omega⟩]
  rw [h3]
  simp only [Option.bind_some]
  rw [h2]
  rfl
/-! the head of a page -/
def pageT (p : Int × List UInt8 × List Fld) (n : Int) (last : Bool) : Int × List UInt8 × List Fld := (p.1, p.2.1, outT p.2.2 (baseN ++ pageN ++ hopM p.2.2) ++ pageF ++ lenF n ++ closeF last)
def plnT (p : Int × List UInt8 × List Fld) (b : Int × Int) (last : Bool) : Int × List UInt8 × List Fld := (p.1, p.2.1, outT p.2.2 (baseN ++ snN ++ hopM p.2.2) ++ [snF] ++ bodyF b ++ closeF last)
theorem out_len (l : List Fld) (ns : List (List UInt8)) : (outT l ns).length ≤ l.length := List.length_filter_le _ _
theorem page_eq {p : Int × List UInt8 × List Fld} {n : Int} {last : Bool} (hl : okW p.2.2) (hn : n ≤ 9223372036854775807) : harden_Page p n last = some (pageT p n last) := by
  have h1 := hl.1.1
  have h2 := lenF_len n
  have h3 := out_len p.2.2 (baseN ++ pageN ++ hopM p.2.2)
  have h4 := closeF_len last
  unfold harden_Page
  show (harden_hop p.2.2 pageN).bind _ = _
  rw [hop_eq hl (by decide)]
  simp only [Option.bind_some]
  rw [Without_eq hl.1 (okN_app (by decide) (hopM_ok hl)), length_eq hn, closing_eq]
  simp only [Option.bind_some]
  show (slices_Concat_api_Field_api_Field [outT p.2.2 (baseN ++ pageN ++ hopM p.2.2), pageF, lenF n, closeF last]).bind _ = _
  rw [concat_eq (by simp) (by simp only [List.flatten_cons, List.flatten_nil, List.length_append, List.length_nil]; have : pageF.length = 3 := rfl; omega)]
  simp only [Option.bind_some]
  unfold pageT
  simp only [List.flatten_cons, List.flatten_nil, List.append_nil, List.append_assoc]
theorem perm3 {l : List Fld} (a b c : List (List UInt8)) : outT l ((a ++ c) ++ b) = outT l ((a ++ b) ++ c) := out_perm fun n => by simp only [List.mem_append]; constructor <;> rintro ((h | h) | h) <;> simp [h]
theorem okN3 {a b c : List (List UInt8)} (h : okN ((a ++ b) ++ c)) : okN ((a ++ c) ++ b) := by
  refine ⟨by have := h.1; simp at this ⊢; omega, fun n hn => h.2 n ?_⟩
  simp only [List.mem_append] at hn ⊢
  rcases hn with (h | h) | h <;> simp [h]
theorem plain_eq {p : Int × List UInt8 × List Fld} {b : Int × Int} {last : Bool} (hl : okW p.2.2) (hn : b.2 ≤ 9223372036854775807) : harden_Plain p b last = some (plnT p b last) := by
  have h1 := hl.1.1
  have h2 := bodyF_len b
  have h3 := out_len p.2.2 (baseN ++ snN ++ hopM p.2.2)
  have h4 := closeF_len last
  have e1 : (if decide (b.1 = 1) then (harden_length b.2).bind fun r8 => some r8 else (if decide (b.1 = 2) then some (decide (b.1 = 2)) else some (decide (b.1 = 3))).bind fun j10 =>
      if j10 then some [([84, 114, 97, 110, 115, 102, 101, 114, 45, 69, 110, 99, 111, 100, 105, 110, 103], [99, 104, 117, 110, 107, 101, 100])] else some ([] : List Fld)) = some (bodyF b) := by
    unfold bodyF
    by_cases g1 : b.1 = 1
    · rw [if_pos (decide_eq_true g1), if_pos g1, length_eq hn]; rfl
    · rw [if_neg (by simpa using g1), if_neg g1]
      by_cases g2 : b.1 = 2
      · rw [decide_eq_true g2, if_pos (show b.1 = 2 ∨ b.1 = 3 from .inl g2)]; rfl
      · rw [decide_eq_false g2]
        by_cases g3 : b.1 = 3
        · rw [decide_eq_true g3, if_pos (show b.1 = 2 ∨ b.1 = 3 from .inr g3)]; rfl
        · rw [decide_eq_false g3, if_neg (show ¬ (b.1 = 2 ∨ b.1 = 3) from fun e => e.elim g2 g3)]; rfl
  unfold harden_Plain
  show Option.bind (if decide (b.1 = 1) then (harden_length b.2).bind fun r8 => some r8 else (if decide (b.1 = 2) then some (decide (b.1 = 2)) else some (decide (b.1 = 3))).bind fun j10 =>
      if j10 then some [([84, 114, 97, 110, 115, 102, 101, 114, 45, 69, 110, 99, 111, 100, 105, 110, 103], [99, 104, 117, 110, 107, 101, 100])] else some ([] : List Fld)) _ = _
  rw [e1]
  show (harden_hop p.2.2 snN).bind _ = _
  rw [hop_eq hl (by decide)]
  simp only [Option.bind_some]
  rw [Without_eq hl.1 (okN_app (by decide) (hopM_ok hl)), closing_eq]
  simp only [Option.bind_some]
  show (slices_Concat_api_Field_api_Field [outT p.2.2 (baseN ++ snN ++ hopM p.2.2), [snF], bodyF b, closeF last]).bind _ = _
  rw [concat_eq (by simp) (by simp only [List.flatten_cons, List.flatten_nil, List.length_append, List.length_nil, List.length_singleton]; omega)]
  simp only [Option.bind_some]
  unfold plnT
  simp only [List.flatten_cons, List.flatten_nil, List.append_nil, List.append_assoc]
end Go.Proofs.YtgngopfpnidbaaaDoor
