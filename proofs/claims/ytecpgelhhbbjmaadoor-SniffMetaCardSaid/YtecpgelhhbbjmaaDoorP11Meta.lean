/- SniffMeta, plain. -/
import Derived.Test.YtecpgelhhbbjmaaDoorU11E
import Derived.Test.YtecpgelhhbbjmaaDoorLMeta
namespace Go.Proofs.YtecpgelhhbbjmaaDoor
open Go.Av
set_option linter.unusedVariables false
set_option linter.unusedSimpArgs false
set_option maxRecDepth 100000
theorem iandM (x : Int) (m : Nat) (hm : m ≤ 63) : ∃ n : Nat, iand .i64 x (m : Int) = (n : Int) ∧ n ≤ m := by
  have e : iand .i64 x (m : Int) = IntKind.i64.wrap ((BitVec.ofInt 64 x &&& BitVec.ofInt 64 (m : Int)).toNat : Int) := rfl
  have h2 : (BitVec.ofInt 64 (m : Int)).toNat = m := by
    rw [BitVec.toNat_ofInt]
    omega
  have h1 : (BitVec.ofInt 64 x &&& BitVec.ofInt 64 (m : Int)).toNat ≤ m := by
    rw [BitVec.toNat_and, h2]
    exact Nat.and_le_right
  refine ⟨_, ?_, h1⟩
  rw [e]
  exact wrap64 (by omega) (by omega)
def frontsT : List (List UInt8) := [[], [60, 112, 62], [60, 33, 45, 45, 32, 60, 109, 101, 116, 97, 32, 99, 104, 97, 114, 115, 101, 116, 61, 117, 116, 102, 45, 49, 54, 108, 101, 62, 32, 45, 45, 62], [60, 47, 112, 47, 62], [60, 109, 101, 116, 97, 32, 99, 104, 97, 114, 115, 101, 116, 61, 110, 111, 110, 101, 62], [60, 33, 100, 111, 99, 116, 121, 112, 101, 32, 104, 116, 109, 108, 62], [60, 98, 32, 116, 105, 116, 108, 101, 61, 39, 60, 109, 101, 116, 97, 32, 99, 104, 97, 114, 115, 101, 116, 61, 108, 97, 116, 105, 110, 49, 62, 39, 62], [60, 63, 120, 32, 99, 104, 97, 114, 115, 101, 116, 61, 117, 116, 102, 45, 56, 63, 62]]
def quotesT : List (List UInt8) := [[], [34], [39], [34]]
def restT (f q l : List UInt8) : List UInt8 := f ++ ([60, 77, 101, 84, 97, 32, 110, 97, 109, 101, 61, 120, 32, 99, 104, 97, 114, 115, 101, 116, 32, 61, 32] ++ (q ++ (l ++ (q ++ [32, 120, 62]))))
def okR (w : Int) (f q l : List UInt8) : Bool :=
  let t := (restT f q l).map smT
  decide (t.length ≤ 200) && (decide (0 < t.length) && (decide (scanT 201 t = w) && decide (scanT 201 t.dropLast = 0)))
theorem ok1 : (frontsT.all fun f => quotesT.all fun q => lab1.all fun l => okR 1 f q l) = true := by kernel_rfl
theorem ok2 : (frontsT.all fun f => quotesT.all fun q => lab2.all fun l => okR 2 f q l) = true := by kernel_rfl
theorem pre_take {a r : List UInt8} (ha : a.length ≤ 800) (hne : ∀ c ∈ a.map smT, c ≠ 60) (hr : r.length ≤ 200) : preT (a ++ r) = scanT 201 (r.map smT) := by
  unfold preT
  rw [List.take_of_length_le (by rw [List.length_append]; omega), List.map_append]
  exact scan_skip _ _ _ _ hne (by rw [List.length_append, List.length_map, List.length_map]; omega) (by rw [List.length_map]; omega)
theorem pre_ok {a f q l : List UInt8} {w : Int} (ha : a.length ≤ 800) (hne : ∀ c ∈ a.map smT, c ≠ 60) (ok : okR w f q l = true) :
    preT (a ++ restT f q l) = w ∧ preT ((a ++ restT f q l).take ((a ++ restT f q l).length - 1)) = 0 ∧ (restT f q l).length ≤ 200 ∧ 0 < (restT f q l).length := by
  unfold okR at ok
  simp only [Bool.and_eq_true, decide_eq_true_eq, List.length_map] at ok
  obtain ⟨h1, h2, h3, h4⟩ := ok
  refine ⟨by rw [pre_take ha hne h1, h3], ?_, h1, h2⟩
  have e : (a ++ restT f q l).take ((a ++ restT f q l).length - 1) = a ++ (restT f q l).dropLast := by
    rw [List.length_append, List.take_append, List.take_of_length_le (by omega), List.dropLast_eq_take]
    congr 2
    omega
  rw [e, pre_take ha hne (by rw [List.length_dropLast]; omega), List.map_dropLast, h4]
theorem meta_tail {a f q l : List UInt8} {w : Int} (ha : a.length ≤ 800) (hne : ∀ c ∈ a.map smT, c ≠ 60) (ok : okR w f q l = true) :
    ((szC (List.length (a ++ f))).bind fun _ =>
    (szC (List.length ((a ++ f) ++ [60, 77, 101, 84, 97, 32, 110, 97, 109, 101, 61, 120, 32, 99, 104, 97, 114, 115, 101, 116, 32, 61, 32]))).bind fun _ =>
    (szC (List.length (((a ++ f) ++ [60, 77, 101, 84, 97, 32, 110, 97, 109, 101, 61, 120, 32, 99, 104, 97, 114, 115, 101, 116, 32, 61, 32]) ++ q))).bind fun _ =>
    (szC (List.length ((((a ++ f) ++ [60, 77, 101, 84, 97, 32, 110, 97, 109, 101, 61, 120, 32, 99, 104, 97, 114, 115, 101, 116, 32, 61, 32]) ++ q) ++ l))).bind fun _ =>
    (szC (List.length (((((a ++ f) ++ [60, 77, 101, 84, 97, 32, 110, 97, 109, 101, 61, 120, 32, 99, 104, 97, 114, 115, 101, 116, 32, 61, 32]) ++ q) ++ l) ++ q))).bind fun _ =>
    (szC (List.length ((((((a ++ f) ++ [60, 77, 101, 84, 97, 32, 110, 97, 109, 101, 61, 120, 32, 99, 104, 97, 114, 115, 101, 116, 32, 61, 32]) ++ q) ++ l) ++ q) ++ [32, 120, 62]))).bind fun _ =>
    (szC (List.length ((((((a ++ f) ++ [60, 77, 101, 84, 97, 32, 110, 97, 109, 101, 61, 120, 32, 99, 104, 97, 114, 115, 101, 116, 32, 61, 32]) ++ q) ++ l) ++ q) ++ [32, 120, 62]))).bind fun _ =>
    (sniff_Prescan ((((((a ++ f) ++ [60, 77, 101, 84, 97, 32, 110, 97, 109, 101, 61, 120, 32, 99, 104, 97, 114, 115, 101, 116, 32, 61, 32]) ++ q) ++ l) ++ q) ++ [32, 120, 62])).bind fun r24 =>
    (slL ((((((a ++ f) ++ [60, 77, 101, 84, 97, 32, 110, 97, 109, 101, 61, 120, 32, 99, 104, 97, 114, 115, 101, 116, 32, 61, 32]) ++ q) ++ l) ++ q) ++ [32, 120, 62]) 0 (isub .i64 (List.length ((((((a ++ f) ++ [60, 77, 101, 84, 97, 32, 110, 97, 109, 101, 61, 120, 32, 99, 104, 97, 114, 115, 101, 116, 32, 61, 32]) ++ q) ++ l) ++ q) ++ [32, 120, 62]) : Int) 1)).bind fun s25 =>
    (szC (List.length s25)).bind fun _ =>
    (sniff_Prescan s25).bind fun r27 => if decide (r24 = w) = true then some (decide (r27 = 0)) else some false) = some true := by
  obtain ⟨h1, h2, h3, h4⟩ := pre_ok ha hne ok
  have hR : (restT f q l).length = f.length + (23 + (q.length + (l.length + (q.length + 3)))) := by unfold restT; simp; omega
  have hS : (((((a ++ f) ++ [60, 77, 101, 84, 97, 32, 110, 97, 109, 101, 61, 120, 32, 99, 104, 97, 114, 115, 101, 116, 32, 61, 32]) ++ q) ++ l) ++ q) ++ [32, 120, 62] = a ++ restT f q l := by unfold restT; simp only [List.append_assoc]
  rw [hS]
  have hl : (a ++ restT f q l).length = a.length + (restT f q l).length := List.length_append
  rw [szC_ok (by simp only [List.length_append]; omega), szC_ok (by simp only [List.length_append, List.length_cons, List.length_nil]; omega), szC_ok (by simp only [List.length_append, List.length_cons, List.length_nil]; omega),
    szC_ok (by simp only [List.length_append, List.length_cons, List.length_nil]; omega), szC_ok (by simp only [List.length_append, List.length_cons, List.length_nil]; omega), szC_ok (by omega)]
  simp only [Option.bind_some]
  rw [Prescan_eq (by omega), h1]
  have e : isub .i64 (((a ++ restT f q l).length : Nat) : Int) 1 = (((a ++ restT f q l).length - 1 : Nat) : Int) := by
    rw [isub64 (by omega) (by omega)]; omega
  simp only [Option.bind_some]
  rw [e, slL_to (by omega)]
  simp only [Option.bind_some]
  rw [szC_ok (by rw [List.length_take]; omega)]
  simp only [Option.bind_some]
  rw [Prescan_eq (by rw [List.length_take]; omega), h2]
  simp
theorem law_SniffMeta_all (ahead : List UInt8) (which label quote noise : Int) (_ha : True) (_h1 : inR .i64 which) (_h2 : inR .i64 label) (_h3 : inR .i64 quote) (_h4 : inR .i64 noise)
    (hb : ahead.length ≤ 140737488351232) : law11_SniffMeta ahead which label quote noise = some true := by
  obtain ⟨n1, e1, b1⟩ := iandM which 1 (by omega)
  obtain ⟨n2, e2, b2⟩ := iandM label 63 (by omega)
  obtain ⟨n3, e3, b3⟩ := iandM quote 3 (by omega)
  obtain ⟨n4, e4, b4⟩ := iandM noise 7 (by omega)
  have e1' : iand .i64 which 1 = (n1 : Int) := e1
  have e2' : iand .i64 label 63 = (n2 : Int) := e2
  have e3' : iand .i64 quote 3 = (n3 : Int) := e3
  have e4' : iand .i64 noise 7 = (n4 : Int) := e4
  unfold law11_SniffMeta
  rw [shown11, tame_eq (by omega), e1', e2', e3', e4']
  have htl : ((ahead.map smT).map tmT).length = ahead.length := by rw [List.length_map, List.length_map]
  have hne : ∀ c ∈ (((ahead.map smT).map tmT).take 800).map smT, c ≠ 60 := fun c hc => by
    obtain ⟨x, hx, rfl⟩ := List.mem_map.1 hc
    obtain ⟨y, _, rfl⟩ := List.mem_map.1 (List.mem_of_mem_take hx)
    exact of_decide_eq_true (all256 (p := fun c => decide (smT (tmT c) ≠ 60)) (by kernel_rfl) y)
  have ha8 : (((ahead.map smT).map tmT).take 800).length ≤ 800 := by rw [List.length_take]; omega
  have hj : (if decide ((800 : Int) < (((ahead.map smT).map tmT).length : Int)) = true then (slL ((ahead.map smT).map tmT) 0 800).bind fun s14 => some s14 else some ((ahead.map smT).map tmT)) = some (((ahead.map smT).map tmT).take 800) := by
    by_cases h : 800 < ((ahead.map smT).map tmT).length
    · rw [if_pos (by simp only [decide_eq_true_eq]; omega), show slL ((ahead.map smT).map tmT) 0 800 = some (((ahead.map smT).map tmT).take 800) from slL_to (b := 800) (by omega)]
      rfl
    · rw [if_neg (by simp only [decide_eq_true_eq]; omega), List.take_of_length_le (by omega)]
  generalize ((ahead.map smT).map tmT).take 800 = a at hne ha8 hj
  have hq : ixL ([[], [34], [39], [34]] : List (List UInt8)) (n3 : Int) = some (quotesT[n3]'(by unfold quotesT; simp; omega)) := ixL_in (xs := quotesT) (i := n3) (by unfold quotesT; simp; omega)
  have hf : ixL frontsT (n4 : Int) = some (frontsT[n4]'(by unfold frontsT; simp; omega)) := ixL_in (by unfold frontsT; simp; omega)
  have mq := List.getElem_mem (l := quotesT) (n := n3) (by unfold quotesT; simp; omega)
  have mf := List.getElem_mem (l := frontsT) (n := n4) (by unfold frontsT; simp; omega)
  generalize quotesT[n3]'(by unfold quotesT; simp; omega) = q at hq mq
  generalize frontsT[n4]'(by unfold frontsT; simp; omega) = f at hf mf
  have hf' := hf
  unfold frontsT at hf'
  rcases (by omega : n1 = 0 ∨ n1 = 1) with rfl | rfl
  · have hL : ref09_Labels (iadd .i64 1 ((0 : Nat) : Int)) = some lab1 := by kernel_rfl
    have hw : iadd .i64 1 ((0 : Nat) : Int) = 1 := by kernel_rfl
    have h0 : 0 < lab1.length := by decide
    have hir : irem (n2 : Int) ((lab1.length : Nat) : Int) = ((n2 % lab1.length : Nat) : Int) := by rw [irem_eq (by omega)]; omega
    have hlt : n2 % lab1.length < lab1.length := Nat.mod_lt _ h0
    have ml := List.getElem_mem hlt
    have ok := List.all_eq_true.1 (List.all_eq_true.1 (List.all_eq_true.1 ok1 f mf) q mq) _ ml
    rw [hL]
    simp only [Option.bind_some]
    rw [chk_ok (by decide), hir, ixL_in hlt]
    simp only [Option.bind_some, hq, hj, hw, if_true]
    rw [hf']
    simp only [Option.bind_some]
    exact meta_tail ha8 hne ok
  · have hL : ref09_Labels (iadd .i64 1 ((1 : Nat) : Int)) = some lab2 := by kernel_rfl
    have hw : iadd .i64 1 ((1 : Nat) : Int) = 2 := by kernel_rfl
    have h0 : 0 < lab2.length := by decide
    have hir : irem (n2 : Int) ((lab2.length : Nat) : Int) = ((n2 % lab2.length : Nat) : Int) := by rw [irem_eq (by omega)]; omega
    have hlt : n2 % lab2.length < lab2.length := Nat.mod_lt _ h0
    have ml := List.getElem_mem hlt
    have ok := List.all_eq_true.1 (List.all_eq_true.1 (List.all_eq_true.1 ok2 f mf) q mq) _ ml
    rw [hL]
    simp only [Option.bind_some]
    rw [chk_ok (by decide), hir, ixL_in hlt]
    simp only [Option.bind_some, hq, hj, hw, if_true]
    rw [hf']
    simp only [Option.bind_some]
    exact meta_tail ha8 hne ok
end Go.Proofs.YtecpgelhhbbjmaaDoor
