/- strings.ReplaceAll of one byte by a text: as long as what comes out has at most 2^48 bytes. The lines of the shelf's walk of strings.Replace, turned to one byte: its callees by contracts that ask nothing of the length; the builder grows once, and each write finds room. -/
import Derived.Shelf.Strings.Replace
import Derived.Room.Shelf.BuilderFits
import Derived.Test.YteahieldmfehlaaDoorShA
namespace Go.Proofs.YteahieldmfehlaaDoor
open Go.Shelf Go.RowKit Go.Lib
variable {P : Program} {ρ : Ren}
theorem grow48 (S K ns : Nat) (hK : 1 ≤ K) (hKo : K ≤ S) (hb : S + K * ns ≤ 1125899906842624) :
    wrap64 ((S : Int) + wrap64 ((K : Int) * ((ns : Int) - 1))) = ((S + K * ns - K : Nat) : Int) := by
  have hns : ns ≤ K * ns := Nat.le_mul_of_pos_left ns hK
  have e2 : (K : Int) * ((ns : Int) - 1) = ((K * ns : Nat) : Int) - (K : Int) := by rw [Int.mul_sub, Int.mul_one]; push_cast; rfl
  rw [e2]
  generalize K * ns = A at *
  clear e2
  have e3 : wrap64 ((A : Int) - (K : Int)) = (A : Int) - (K : Int) := IntWalk.wrap64_in _ ⟨by omega, by omega⟩
  rw [e3, IntWalk.wrap64_in _ ⟨by omega, by omega⟩]
  omega
set_option maxHeartbeats 16000000 in
set_option maxRecDepth 1000000 in
/-- where something is replaced -/
theorem repl_some48 (L : Lays.n154 P ρ) (X : Builder.Extra P ρ) (s old new : ByteArray) (m : Int) (w : World) (hs : s.size ≤ 281474976710656)
    (hm : w.cell? ⟨(ρ.g 1), 0, none⟩ = some (.int .i64 m)) (h1 : old.size = 1) (hne : old ≠ new) (hn1 : 1 ≤ new.size) (hn2 : new.size ≤ 2) (hc0 : Lib.countB s old ≠ 0)
    (hlen : s.size + Lib.countB s old * new.size ≤ 281474976710656 + Lib.countB s old) :
    Calls P (ρ.f 154) #[.string s, .string old, .string new, .int .i64 (-1)] w fun e w' =>
      e = .returned (.string ⟨(Lib.replaceK old.data.toList new.data.toList (Lib.countB s old) s.data.toList).toArray⟩) ∧ Below w.heap.size w w' := by
  have hC : Calls P (ρ.f 138) #[.string s, .string old] w fun e w' => e = .returned (.int .i64 (Lib.countB s old)) ∧ w' = w := by
    obtain ⟨c, rfl⟩ := Lib.one_byte old h1
    refine (Any.strings_Count_one { L with } s c w).mono fun e w' ⟨he, hw⟩ => ⟨?_, hw⟩
    rw [he]
    show _ = Ending.returned (Value.int .i64 ((Lib.count s.data.toList [c] : Nat) : Int))
    rw [Lib.count_one]
    rfl
  have hI : ∀ (x : ByteArray) (w : World), Calls P (ρ.f 143) #[.string x, .string old] w fun e w' => e = .returned (.int .i64 (Lib.index x.data.toList old.data.toList)) ∧ w' = w := by
    obtain ⟨c, rfl⟩ := Lib.one_byte old h1
    intro x w
    refine (Any.strings_Index_one { L with } x c w).mono fun e w' ⟨he, hw⟩ => ⟨?_, hw⟩
    rw [he]
    show _ = Ending.returned (Value.int .i64 (Lib.index x.data.toList [c]))
    rw [Lib.index_one]
  have hmul := Lib.countB_mul_le old (by omega) s.size s (Nat.le_refl _)
  rw [h1, Nat.mul_one] at hmul
  obtain ⟨K, hcn⟩ : ∃ K : Nat, Lib.countB s old = K := ⟨_, rfl⟩
  rw [hcn] at hC hlen hc0 hmul ⊢
  have hcn' : Lib.count s.data.toList old.data.toList = K := hcn
  have hbeq : (old.toList == new.toList) = false := (Lib.bytes_beq_false_iff old new).2 hne
  have hnz : ((-1 : Int) == 0) = false := by decide
  have hcz : ((K : Int) == 0) = false := beq_eq_false_iff_ne.2 (by omega)
  have hlenL : s.data.toList.length = s.size := (Lib.size_eq s).symm
  have hlenO : old.data.toList.length = old.size := (Lib.size_eq old).symm
  have hgl : ρ.g 1 < w.heap.size := World.block_lt_of_cell? _ _ hm
  have hKn : K ≤ K * new.size := Nat.le_mul_of_pos_right K hn1
  have hKn2 : K * new.size ≤ K * 2 := Nat.mul_le_mul_left _ hn2
  have hga := grow48 s.size K new.size (by omega) hmul (by omega)
  have hKcount : K ≤ Lib.count (s.data.toList.drop 0) old.data.toList := by rw [List.drop_zero, hcn']; omega
  generalize hN : s.size + K * new.size - K = N at hga
  have hN48 : N ≤ 281474976710656 := by omega
  have hN0 : 0 < N := by omega
  have hNe : N + K = s.size + K * new.size := by omega
  clear hcn hcn' hN hlen
  have hod : decide (0 < old.size) = true := decide_eq_true (by omega)
  have mixed := L.mixed
  have t72 := L.t72; have a72 := L.a72; have z72 := L.z72; have v72 := L.v72; have u72 := run_underlying L.t72
  have t70 := L.t70; have a70 := L.a70; have z70 := L.z70; have v70 := L.v70; have u70 := run_underlying L.t70
  have t37 := L.t37; have a37 := L.a37; have z37 := L.z37; have v37 := L.v37; have u37 := run_underlying L.t37
  have t3 := L.t3; have a3 := L.a3; have z3 := L.z3; have v3 := L.v3; have u3 := run_underlying L.t3
  have t9 := L.t9; have a9 := L.a9; have z9 := L.z9; have v9 := L.v9; have u9 := run_underlying L.t9
  have t4 := L.t4; have a4 := L.a4; have z4 := L.z4; have v4 := L.v4; have u4 := run_underlying L.t4
  have e138 : ∀ args w, (callFunc (ρ.f 138) args).run P w = .ok (.enter (ρ.f 138) args) w := enters_of L.f138 (by kernel_rfl) rfl
  have e143 : ∀ args w, (callFunc (ρ.f 143) args).run P w = .ok (.enter (ρ.f 143) args) w := enters_of L.f143 (by kernel_rfl) rfl
  have e165 : ∀ args w, (callFunc (ρ.f 165) args).run P w = .ok (.enter (ρ.f 165) args) w := enters_of L.f165 (by kernel_rfl) rfl
  have e166 : ∀ args w, (callFunc (ρ.f 166) args).run P w = .ok (.enter (ρ.f 166) args) w := enters_of L.f166 (by kernel_rfl) rfl
  have e169 : ∀ args w, (callFunc (ρ.f 169) args).run P w = .ok (.enter (ρ.f 169) args) w := enters_of L.f169 (by kernel_rfl) rfl
  go_enter L.f154, Body.n154_ntmps ρ
  go_wp2_with (first | (go_at_fn (ρ.f 138); refine hC.mono ?_; rintro e w' ⟨rfl, hw⟩; rw [hw]))
  all_goals (
  clear hC
  rw [hga]
  refine (Any.Builder_Grow_fresh_cap { L with } X w.heap.size w.heap.size N _ (Nat.le_refl _) (heap_alloc_new w _) (by simp) hN48).mono ?_
  rintro e w1 ⟨rfl, ⟨hb0, hb1⟩, p0, cap0, hcell0, hcap0⟩
  have HR1 := Any.hidR (⟨p0, cap0, hcell0, hcap0⟩ : Lib.BldRoom w.heap.size 0 N w1)
  have H1 := Any.hidR (Or.inr hb0 : Lib.IsBuilder (ρ.t 72) (ρ.t 5) w.heap.size w.heap.size (Lib.byteCells []) w1)
  have Hb1 := Any.hidR (((Below.refl w.heap.size w).alloc (Nat.le_refl _) _).trans hb1)
  clear hb0 hb1 hga hcell0 hcap0
  go_wp2_with fail
  go_loopg [11, 53] K (fun g s11 s53 wx => ∃ (i start : Nat) (acc : List UInt8), s53 = .int .i64 i ∧ s11 = .int .i64 start ∧ i + g = K ∧ start ≤ s.size ∧
    Hid (Lib.IsBuilder (ρ.t 72) (ρ.t 5) w.heap.size w.heap.size (Lib.byteCells acc) wx) ∧ Hid (Below w.heap.size w wx) ∧ Hid (acc ++ Lib.replaceK old.data.toList new.data.toList g (s.data.toList.drop start) = Lib.replaceK old.data.toList new.data.toList K s.data.toList) ∧
    g ≤ Lib.count (s.data.toList.drop start) old.data.toList ∧ acc.length + (s.size - start) + g * new.size = N + g ∧ Hid (Lib.BldRoom w.heap.size acc.length N wx))
  case atStart => exact ⟨0, 0, [], rfl, rfl, by omega, Nat.zero_le _, H1, Hb1, Any.hidR (by simp), hKcount, by simp; omega, HR1⟩
  case round =>
    obtain ⟨i, start, acc, rfl, rfl, hig, hst, HB, HW, HR, hgc, hbd, HM⟩ := hrel
    have hBw : w.heap.size ≤ wr.heap.size := HW.out.size
    have c1 : (0 : Int) ≤ (start : Int) := by omega
    have c2 : (start : Int) ≤ (s.size : Int) := by omega
    cases gk with
    | zero =>
      have hiK : ¬ ((i : Int) < (K : Int)) := by omega
      go_wp2_with fail
      refine (Any.Builder_WriteString_fits { L with } X w.heap.size w.heap.size N _ _ wr HB.out (by rw [Lib.byteCells_length]; exact HM.out) hN0 (by rw [Lib.byteCells_length, ByteArray.size_extract]; omega) hBw).mono ?_
      rintro e w3 ⟨rfl, ⟨h3, hb3⟩, _⟩
      rw [Lib.strCells_eq, Lib.extract_to_end, ← Lib.byteCells_append] at h3
      have hfin : acc ++ s.data.toList.drop start = Lib.replaceK old.data.toList new.data.toList K s.data.toList := HR.out
      rw [hfin] at h3
      have H3 := Any.hidR (Or.inr h3 : Lib.IsBuilder (ρ.t 72) (ρ.t 5) w.heap.size w.heap.size _ w3)
      have Hb3 := Any.hidR (HW.out.trans hb3)
      have hBw3 : w.heap.size ≤ w3.heap.size := Hb3.out.size
      clear h3 hb3 hfin
      go_wp2_with fail
      refine (Any.Builder_String_any { L with } X w.heap.size w.heap.size _ w3 H3.out hBw3).mono ?_
      rintro e w5 ⟨rfl, hb5⟩
      have Hb5 := Any.hidR (Hb3.out.trans hb5)
      clear hb5
      go_wp2
      go_ret
      exact ⟨rfl, Hb5.out⟩
    | succ g =>
      have hiK : (i : Int) < (K : Int) := by omega
      obtain ⟨j, hj⟩ := Lib.index_of_count (s := s.data.toList.drop start) (old := old.data.toList) (by omega)
      have hroom : j + old.size ≤ s.size - start := by
        have := Lib.index_room (s.data.toList.drop start) old.data.toList (by rw [hj]; omega)
        rw [hj, List.length_drop, hlenL, hlenO] at this
        omega
      have hsucc : (g + 1) * new.size = g * new.size + new.size := Nat.succ_mul _ _
      have hgn : g ≤ g * new.size := Nat.le_mul_of_pos_right g hn1
      have c3 : (start : Int) ≤ (start : Int) + (j : Int) := by omega
      have c4 : (start : Int) + (j : Int) ≤ (s.size : Int) := by omega
      have hnext : Lib.byteCells acc ++ Lib.strCells (s.extract start (start + j)) ++ Lib.strCells new = Lib.byteCells (acc ++ (s.data.toList.drop start).take j ++ new.data.toList) := by
        rw [Lib.strCells_eq, Lib.strCells_eq, Lib.extract_data, Nat.add_sub_cancel_left, ← Lib.byteCells_append, ← Lib.byteCells_append]
      have hrep : (acc ++ (s.data.toList.drop start).take j ++ new.data.toList) ++ Lib.replaceK old.data.toList new.data.toList g (s.data.toList.drop (start + j + old.size)) = Lib.replaceK old.data.toList new.data.toList K s.data.toList := by
        rw [← HR.out, Lib.replaceK_hit _ _ g _ j hj, List.drop_drop, hlenO]
        simp only [List.append_assoc, Nat.add_assoc]
      have hcnt : g ≤ Lib.count (s.data.toList.drop (start + j + old.size)) old.data.toList := by
        have := Lib.count_hit (s := s.data.toList.drop start) (sub := old.data.toList) (i := j) (fun e => by rw [e] at hlenO; simp at hlenO; omega) hj
        rw [List.drop_drop, hlenO] at this
        rw [show start + j + old.size = start + (j + old.size) by omega]
        omega
      have htl : ((s.data.toList.drop start).take j).length = j := by rw [List.length_take, List.length_drop, hlenL]; omega
      have Hn := Any.hidR hnext
      have Hrep := Any.hidR hrep
      have HI := Any.hidR hI
      clear hnext hrep HR hI
      go_wp2_with (first | (go_at_fn (ρ.f 143); refine (HI.out _ _).mono ?_; rintro e w' ⟨rfl, hw⟩; rw [hw, Lib.extract_to_end, hj]))
      refine (Any.Builder_WriteString_fits { L with } X w.heap.size w.heap.size N _ (s.extract start (start + j)) wr HB.out (by rw [Lib.byteCells_length]; exact HM.out) hN0 (by rw [Lib.byteCells_length, ByteArray.size_extract]; omega) hBw).mono ?_
      rintro e w3 ⟨rfl, ⟨h3, hb3⟩, hr3⟩
      have hBw3 : w.heap.size ≤ w3.heap.size := Nat.le_trans hBw hb3.size
      have H3 := Any.hidR h3
      have Hb3 := Any.hidR hb3
      have Hr3 := Any.hidR hr3
      clear h3 hb3 hr3
      go_wp2_with fail
      refine (Any.Builder_WriteString_fits { L with } X w.heap.size w.heap.size N _ new w3 (Or.inr H3.out) (by rw [List.length_append, Lib.strCells_length]; exact Hr3.out) hN0 (by rw [List.length_append, Lib.byteCells_length, Lib.strCells_length, ByteArray.size_extract]; omega) hBw3).mono ?_
      rintro e w4 ⟨rfl, ⟨h4, hb4⟩, hr4⟩
      rw [Hn.out] at h4
      have H4 := Any.hidR (Or.inr h4 : Lib.IsBuilder (ρ.t 72) (ρ.t 5) w.heap.size w.heap.size _ w4)
      have Hb4 := Any.hidR ((HW.out.trans Hb3.out).trans hb4)
      have Hr4 := Any.hidR (show Lib.BldRoom w.heap.size (acc ++ (s.data.toList.drop start).take j ++ new.data.toList).length N w4 by
        rw [List.length_append, List.length_append, htl, ← Lib.size_eq]
        rw [List.length_append, Lib.byteCells_length, Lib.strCells_length, ByteArray.size_extract, show min (start + j) s.size - start = j by omega] at hr4
        exact hr4)
      clear h4 hb4 hr4
      go_wp2
      go_roundg g
      case measure => omega
      case rel => exact ⟨i + 1, start + j + old.size, _, by first | rfl | (simp; unfold wrap64; omega), by first | rfl | (simp [h1]; done) | (simp [h1]; unfold wrap64; omega) | (rw [IntWalk.wrap64_in _ ⟨by omega, by omega⟩]; congr 1; omega), by omega, by omega, H4, Hb4, Hrep, hcnt, by simp only [List.length_append, htl, ← Lib.size_eq]; omega, Hr4⟩)
set_option maxHeartbeats 4000000 in
set_option maxRecDepth 1000000 in
theorem repl_absent48 (L : Lays.n154 P ρ) (s old new : ByteArray) (w : World) (h1 : old.size = 1) (hne : old ≠ new) (hc0 : Lib.countB s old = 0) :
    Calls P (ρ.f 154) #[.string s, .string old, .string new, .int .i64 (-1)] w fun e w' => e = .returned (.string s) ∧ w' = w := by
  have hC : Calls P (ρ.f 138) #[.string s, .string old] w fun e w' => e = .returned (.int .i64 (Lib.countB s old)) ∧ w' = w := by
    obtain ⟨c, rfl⟩ := Lib.one_byte old h1
    refine (Any.strings_Count_one { L with } s c w).mono fun e w' ⟨he, hw⟩ => ⟨?_, hw⟩
    rw [he]
    show _ = Ending.returned (Value.int .i64 ((Lib.count s.data.toList [c] : Nat) : Int))
    rw [Lib.count_one]
    rfl
  rw [hc0] at hC
  have hbeq : (old.toList == new.toList) = false := (Lib.bytes_beq_false_iff old new).2 hne
  have hnz : ((-1 : Int) == 0) = false := by decide
  have t3 := L.t3; have a3 := L.a3; have z3 := L.z3; have v3 := L.v3
  have t9 := L.t9; have a9 := L.a9; have z9 := L.z9; have v9 := L.v9
  have t4 := L.t4; have a4 := L.a4; have z4 := L.z4; have v4 := L.v4
  have e138 : ∀ args w, (callFunc (ρ.f 138) args).run P w = .ok (.enter (ρ.f 138) args) w := enters_of L.f138 (by kernel_rfl) rfl
  go_enter L.f154, Body.n154_ntmps ρ
  go_wp2_with (first | (go_at_fn (ρ.f 138); refine hC.mono ?_; rintro e w' ⟨rfl, hw⟩; rw [hw]))
  go_ret
  exact ⟨rfl, rfl⟩
set_option maxHeartbeats 1000000 in
theorem replAll48 (L : Lays.n155 P ρ) (X : Builder.Extra P ρ) (s old new : ByteArray) (m : Int) (w : World) (hs : s.size ≤ 281474976710656)
    (hm : w.cell? ⟨(ρ.g 1), 0, none⟩ = some (.int .i64 m)) (h1 : old.size = 1) (hne : old ≠ new) (hn1 : 1 ≤ new.size) (hn2 : new.size ≤ 2)
    (hlen : s.size + Lib.countB s old * new.size ≤ 281474976710656 + Lib.countB s old) :
    Calls P (ρ.f 155) #[.string s, .string old, .string new] w fun e w' =>
      e = .returned (.string ⟨(Lib.replaceK old.data.toList new.data.toList (Lib.countB s old) s.data.toList).toArray⟩) ∧ Below w.heap.size w w' := by
  have c : Calls P (ρ.f 154) #[.string s, .string old, .string new, .int .i64 (-1)] w fun e w' =>
      e = .returned (.string ⟨(Lib.replaceK old.data.toList new.data.toList (Lib.countB s old) s.data.toList).toArray⟩) ∧ Below w.heap.size w w' := by
    by_cases hc0 : Lib.countB s old = 0
    · refine (repl_absent48 { L with } s old new w h1 hne hc0).mono fun e w' ⟨h1', h2'⟩ => ⟨?_, h2' ▸ Below.refl _ _⟩
      rw [h1', hc0, Lib.replaceK, Lib.mk_data]
    · exact repl_some48 { L with } X s old new m w hs hm h1 hne hn1 hn2 hc0 hlen
  have t3 := L.t3; have a3 := L.a3; have z3 := L.z3; have v3 := L.v3
  have t9 := L.t9; have a9 := L.a9; have z9 := L.z9; have v9 := L.v9
  have e154 : ∀ args w, (callFunc (ρ.f 154) args).run P w = .ok (.enter (ρ.f 154) args) w := enters_of L.f154 (by kernel_rfl) rfl
  go_enter L.f155, Body.n155_ntmps ρ
  go_wp2_with (go_at_fn (ρ.f 154); refine c.mono ?_; rintro e w' ⟨rfl, hw⟩)
  go_ret
  exact ⟨rfl, hw⟩
end Go.Proofs.YteahieldmfehlaaDoor
