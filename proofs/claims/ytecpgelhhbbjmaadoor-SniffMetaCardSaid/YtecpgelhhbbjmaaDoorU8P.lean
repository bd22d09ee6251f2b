/- utf8, plain: what the functions compute. -/
import Derived.Test.YtecpgelhhbbjmaaDoorPu
import Derived.Test.YtecpgelhhbbjmaaDoorGA
import Derived.Test.YtecpgelhhbbjmaaDoorGB
import Derived.Test.YtecpgelhhbbjmaaDoorRow
namespace Go.Proofs.YtecpgelhhbbjmaaDoor
open Go.Av
set_option linter.unusedVariables false
/-- a number as a character -/
def fixR (c : Int) : Int := if c < 0 ∨ 1114111 < c ∨ (55296 ≤ c ∧ c ≤ 57343) then 65533 else c
def goodC (c : Int) : Prop := 0 ≤ c ∧ c ≤ 1114111 ∧ (c < 55296 ∨ 57343 < c)
instance (c : Int) : Decidable (goodC c) := by unfold goodC; infer_instance
theorem fixR_good (c : Int) : goodC (fixR c) := by unfold fixR goodC; split <;> omega
theorem fixR_id {c : Int} (h : goodC c) : fixR c = c := by unfold goodC at h; unfold fixR; rw [if_neg]; omega
/-- a character's bytes -/
def chB (c : Int) : List UInt8 :=
  if c < 128 then [UInt8.ofNat c.toNat]
  else if c < 2048 then [UInt8.ofNat (192 + c.toNat / 64), UInt8.ofNat (128 + c.toNat % 64)]
  else if c < 65536 then [UInt8.ofNat (224 + c.toNat / 4096), UInt8.ofNat (128 + c.toNat / 64 % 64), UInt8.ofNat (128 + c.toNat % 64)]
  else [UInt8.ofNat (240 + c.toNat / 262144), UInt8.ofNat (128 + c.toNat / 4096 % 64), UInt8.ofNat (128 + c.toNat / 64 % 64), UInt8.ofNat (128 + c.toNat % 64)]
theorem toB_and (n : Nat) : toB (n : Int) &&& bC 63 = UInt8.ofNat (n % 64) := by
  rw [and63]; congr 1; unfold toB; rw [UInt8.toNat_ofNat']; omega
theorem runeB_chB {c : Int} (h : goodC c) : runeB c = chB c := by
  obtain ⟨h0, h1, h2⟩ := h
  obtain ⟨n, rfl⟩ := Int.eq_ofNat_of_zero_le h0
  have e : icv .i32 .u32 (n : Int) = n := icv_id (by simp only [inR]; omega)
  have s6 : ishr .i32 (n : Int) 6 = ((n / 64 : Nat) : Int) := by have := ishr32 (n := 6) h0 (by decide); rw [show ((6 : Nat) : Int) = 6 from rfl] at this; rw [this]; rfl
  have s12 : ishr .i32 (n : Int) 12 = ((n / 4096 : Nat) : Int) := by have := ishr32 (n := 12) h0 (by decide); rw [show ((12 : Nat) : Int) = 12 from rfl] at this; rw [this]; rfl
  have s18 : ishr .i32 (n : Int) 18 = ((n / 262144 : Nat) : Int) := by have := ishr32 (n := 18) h0 (by decide); rw [show ((18 : Nat) : Int) = 18 from rfl] at this; rw [this]; rfl
  unfold runeB chB
  simp only [e, s6, s12, s18, toB_and, Int.toNat_natCast, decide_eq_true_eq, Bool.or_eq_true, Bool.and_eq_true]
  (repeat' split) <;> (try (exfalso; omega))
  all_goals first
    | (rw [toB_nat _ (by omega)]; done)
    | rw [toB_nat _ (by omega), or192 _ (by omega), or128 _ (by omega)]
    | rw [toB_nat _ (by omega), or224 _ (by omega), or128 _ (by omega), or128 _ (by omega)]
    | rw [toB_nat _ (by omega), or240 _ (by omega), or128 _ (by omega), or128 _ (by omega), or128 _ (by omega)]
/-- the bytes of numbers, each as a character -/
def encL (l : List Int) : List UInt8 := l.flatMap fun c => chB (fixR c)
theorem chB_len (c : Int) : 1 ≤ (chB c).length ∧ (chB c).length ≤ 4 := by unfold chB; (repeat' split) <;> simp
theorem drop_step {α : Type} {l : List α} {i : Nat} (h : i < l.length) : l.drop i = l[i] :: l.drop (i + 1) := by
  rw [List.drop_eq_getElem_cons h]
theorem Encode_loop (l : List Int) (hl : l.length ≤ 4194304) : ∀ (k i : Nat) (acc : List UInt8), i ≤ l.length → l.length - i < k → acc.length + 4 * (l.length - i) ≤ 140737488355328 → utf8_Encode_L42 l k (i : Int) acc = some (acc ++ encL (l.drop i))
  | 0, i, acc, _, h, _ => by omega
  | k + 1, i, acc, hi, hk, ha => by
    simp only [utf8_Encode_L42, decide_eq_true_eq]
    by_cases hlt : i < l.length
    · rw [if_pos (by omega), ixL_in hlt]
      have hfix : (Option.bind (if l[i] < 0 then some true else if 1114111 < l[i] then some true else if 55296 ≤ l[i] then some (decide (l[i] ≤ 57343)) else some false) fun j => if j = true then some (65533 : Int) else some l[i]) = some (fixR l[i]) := by
        unfold fixR
        (repeat' split) <;> simp <;> omega
      have hb := runeB_chB (fixR_good l[i])
      have hn := chB_len (fixR l[i])
      simp only [Option.bind_some]
      rw [hfix]
      simp only [Option.bind_some]
      rw [hb, szC_ok (by rw [List.length_append]; omega)]
      simp only [Option.bind_some]
      rw [iadd64 (by omega) (by omega), ← Int.natCast_add_one, Encode_loop l hl k (i + 1) _ (by omega) (by omega) (by rw [List.length_append]; omega), drop_step hlt]
      simp only [encL, List.flatMap_cons, List.append_assoc]
    · rw [if_neg (by omega), List.drop_eq_nil_of_le (by omega)]
      simp [encL]
theorem Encode_eq {l : List Int} (hl : l.length ≤ 4194304) : utf8_Encode l = some (encL l) := by
  unfold utf8_Encode
  have := Encode_loop l hl 140737488355328 0 [] (by omega) (by omega) (by simp; omega)
  simp only [Int.natCast_zero] at this
  rw [this]
  simp
theorem sum_one {α : Type} : ∀ l : List α, sumM (fun _ => 1) l = l.length
  | [] => rfl
  | x :: l => by simp only [sumM, sum_one l, List.length_cons]; omega
end Go.Proofs.YtecpgelhhbbjmaaDoor
