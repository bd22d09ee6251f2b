/- HeadOnce, plain. -/
import Derived.Test.YtbcmngnmfneeaaaGreatDoorU4D
import Derived.Test.YtbcmngnmfneeaaaGreatDoorU5I
import Derived.Test.YtbcmngnmfneeaaaGreatDoorU5J
import Derived.Test.YtbcmngnmfneeaaaGreatDoorLOnce
namespace Go.Proofs.YtbcmngnmfneeaaaGreatDoor
open Go.Av
set_option linter.unusedVariables false
set_option linter.unusedSimpArgs false
set_option maxRecDepth 100000
abbrev RqT := List UInt8 × List UInt8 × List Fld
abbrev RsT := Int × List UInt8 × List Fld
theorem shown5o : law05_shown = some true := by kernel_rfl
theorem sum_one5 {α : Type} : ∀ l : List α, sumM (fun _ => 1) l = l.length
  | [] => rfl
  | x :: l => by simp only [sumM, List.length_cons]; rw [sum_one5 l]; omega
def rdOK (t h : List UInt8) : Prop := head_Reader_Take_L706 t h 1099511627776 0 false 0 [] = some (.inl ((t.length : Int), true, 0, t)) ∨ (head_Reader_Take_L706 t h 1099511627776 0 false 0 [] = some (.inr (true, 0, t)) ∧ (t ++ h).length = t.length)
theorem rd_out {ls : List (List UInt8)} {h t : List UInt8} (hne : ls ≠ []) (hls : ∀ a ∈ ls, a ≠ [] ∧ ∀ c ∈ a, c ≠ 10 ∧ c ≠ 13) (ht : t = ls.flatMap (· ++ [13, 10]) ++ [13, 10]) (hl : t.length ≤ 2048) (hh : (t ++ h).length ≤ 100000000) : rdOK t h := by
  have hr := reader_eq hne hls ht hl hh
  unfold rdOK
  rcases ho : head_Reader_Take_L706 t h 1099511627776 0 false 0 [] with _ | o
  · rw [ho] at hr; cases hr
  · rw [ho] at hr
    rcases o with r | ⟨j1, j2, j3⟩
    · left
      have hr : some r = some ((t.length : Int), true, 0, t) := hr
      rw [Option.some.inj hr]
    · right
      have hr : some (((List.length (t ++ h) : Nat) : Int), j1, j2, j3) = some ((t.length : Int), true, 0, t) := hr
      have := Option.some.inj hr
      simp only [Prod.mk.injEq] at this
      obtain ⟨a, rfl, rfl, rfl⟩ := this
      exact ⟨rfl, by omega⟩
theorem rd_lines {l : List UInt8} {fs : List Fld} {h : List UInt8} (hl : l ≠ [] ∧ ∀ c ∈ l, c ≠ 10 ∧ c ≠ 13) (hf : ∀ f ∈ fs, tokT f.1 = true ∧ vOK f.2 = true) (hn : (l ++ 13 :: 10 :: (linesT fs ++ [13, 10])).length ≤ 2048) (hh : h.length ≤ 10000000) :
    rdOK (l ++ 13 :: 10 :: (linesT fs ++ [13, 10])) h := by
  refine rd_out (ls := l :: fs.map lnF) (by simp) (fun a ha => ?_) ?_ hn (by rw [List.length_append]; omega)
  · rcases List.mem_cons.1 ha with rfl | ha
    · exact hl
    · obtain ⟨f, hm, rfl⟩ := List.mem_map.1 ha
      exact lnF_ok (hf f hm).1 (hf f hm).2
  · rw [List.flatMap_cons, ← lines_flat]; simp
theorem req_rd {q : RqT} {h : List UInt8} (hq : reqT q ≠ []) (hh : h.length ≤ 10000000) : rdOK (reqT q) h ∧ (reqT q).length ≤ 2048 := by
  obtain ⟨e, hl, h1, h2, h3, h4⟩ := reqT_parts hq
  refine ⟨?_, hl⟩
  rw [e] at hl ⊢
  exact rd_lines (reqL_ok h1 h2) ((right_iff _).1 h4).2 hl hh
theorem resp_rd {p : RsT} {h : List UInt8} (hp : respT5 p ≠ []) (hh : h.length ≤ 10000000) : rdOK (respT5 p) h ∧ (respT5 p).length ≤ 2048 := by
  obtain ⟨e, hl, h1, h2, h3, h4⟩ := respT_parts hp
  refine ⟨?_, hl⟩
  rw [e] at hl ⊢
  obtain ⟨a, b, c⟩ := respL_ok h1 h2 h3
  exact rd_lines ⟨a, c⟩ ((right_iff _).1 h4).2 hl hh
theorem once_step {j : List (List UInt8)} {h : List UInt8} {p2 : RsT} {r8 : RqT × Bool} {q1 : RqT} {i k : Nat} {t : List UInt8} (hi : i < j.length) (he : j[i] = t) (hj : j.length ≤ 1000) (hh : h.length ≤ 10000000)
    (hp : p2.2.2.length ≤ 1000000000) (h8 : r8.1.2.2.length ≤ 1000000000) (hq : q1.2.2.length ≤ 1000000000)
    (hr : t ≠ [] → rdOK t h ∧ t.length ≤ 2048) (h1 : i = 1 → t ≠ [] → head_Response t = some (p2, true))
    (h2 : i = 2 → t ≠ [] → head_Request t = some (r8.1, true)) (h0 : i ≠ 1 → i ≠ 2 → t ≠ [] → head_Request t = some (q1, true)) :
    law05_HeadOnce_L531 j h p2 r8 q1 (k + 1) (i : Int) = law05_HeadOnce_L531 j h p2 r8 q1 k ((i + 1 : Nat) : Int) := by
  rw [law05_HeadOnce_L531, if_pos (by simpa using hi), ixL_in hi, he]
  simp only [Option.bind_some]
  rw [iadd64 (by omega) (by omega), ← Int.natCast_add_one]
  by_cases hn : t = []
  · rw [if_pos (by simp [hn])]
  · obtain ⟨hr, hl⟩ := hr hn
    rw [if_neg (by simpa using hn), szC_ok (by omega), szC_ok (by rw [List.length_append]; omega)]
    simp only [Option.bind_some]
    have fin : (if decide ((i : Int) = 1) then
        (head_Response t).bind fun r771 =>
        (ref05_SameResponse (r771.1.1, r771.1.2.1, r771.1.2.2) (p2.1, p2.2.1, p2.2.2)).bind fun r772 =>
        (if !r771.2 then some true else some (!r772)).bind fun j774 =>
        if j774 then some (Sum.inl false) else law05_HeadOnce_L531 j h p2 r8 q1 k ((i + 1 : Nat) : Int)
      else
        if decide ((i : Int) = 2) then
          (head_Request t).bind fun r776 =>
          (ref05_SameRequest (r776.1.1, r776.1.2.1, r776.1.2.2) (r8.1.1, r8.1.2.1, r8.1.2.2)).bind fun r777 =>
          (if !r776.2 then some true else some (!r777)).bind fun j779 =>
          if j779 then some (Sum.inl false) else law05_HeadOnce_L531 j h p2 r8 q1 k ((i + 1 : Nat) : Int)
        else
          (head_Request t).bind fun r781 =>
          (ref05_SameRequest (r781.1.1, r781.1.2.1, r781.1.2.2) (q1.1, q1.2.1, q1.2.2)).bind fun r782 =>
          (if !r781.2 then some true else some (!r782)).bind fun j784 =>
          if j784 then some (Sum.inl false) else law05_HeadOnce_L531 j h p2 r8 q1 k ((i + 1 : Nat) : Int)) = law05_HeadOnce_L531 j h p2 r8 q1 k ((i + 1 : Nat) : Int) := by
      by_cases g1 : i = 1
      · rw [if_pos (by rw [decide_eq_true_eq]; omega), h1 g1 hn]
        unfold ref05_SameResponse
        simp only [Option.bind_some, decide_true, if_true]
        rw [SameF_eq hp]
        simp
      · rw [if_neg (by rw [decide_eq_true_eq]; omega)]
        by_cases g2 : i = 2
        · rw [if_pos (by rw [decide_eq_true_eq]; omega), h2 g2 hn]
          unfold ref05_SameRequest
          simp only [Option.bind_some, decide_true, if_true]
          rw [SameF_eq h8]
          simp
        · rw [if_neg (by rw [decide_eq_true_eq]; omega), h0 g1 g2 hn]
          unfold ref05_SameRequest
          simp only [Option.bind_some, decide_true, if_true]
          rw [SameF_eq hq]
          simp
    rcases hr with hr | ⟨hr, hz⟩
    · rw [hr]
      simp only [Option.bind_some, decide_true, Bool.not_true, Bool.false_eq_true, if_false]
      exact fin
    · rw [hr]
      simp only [Option.bind_some, hz, decide_true, Bool.not_true, Bool.false_eq_true, if_false]
      exact fin
theorem once_end {j : List (List UInt8)} {h : List UInt8} {p2 : RsT} {r8 : RqT × Bool} {q1 : RqT} {i k : Nat} (hi : i = j.length) : law05_HeadOnce_L531 j h p2 r8 q1 (k + 1) (i : Int) = some (.inr ()) := by
  rw [law05_HeadOnce_L531, if_neg (by rw [decide_eq_true_eq]; omega)]
theorem law_HeadOnce (q : List UInt8 × List UInt8 × List (List UInt8 × List UInt8)) (p : Int × List UInt8 × List (List UInt8 × List UInt8)) (s behind : List UInt8) (_hq : True ∧ True ∧ ∀ x ∈ q.2.2, True ∧ True) (hp : inR .i64 p.1 ∧ True ∧ ∀ x ∈ p.2.2, True ∧ True) (_hs : True) (_hb : ∀ y ∈ behind, True)
    (hb0 : q.1.length + q.2.1.length + sumM (fun y0 => ((y0.1.length + 1) + (y0.2.length + 1)) + 1) q.2.2 + p.2.1.length + sumM (fun y0 => ((y0.1.length + 1) + (y0.2.length + 1)) + 1) p.2.2 + s.length + sumM (fun y0 => 1) behind ≤ 1048576) : law05_HeadOnce q p s behind = some true := by
  have hb : q.1.length + q.2.1.length + sumM mFld q.2.2 + p.2.1.length + sumM mFld p.2.2 + s.length + sumM (fun y0 => 1) behind ≤ 1048576 := hb0
  rw [sum_one5] at hb
  have hF := okF_of (l := q.2.2) (by omega)
  have hG := okF_of (l := p.2.2) (by omega)
  have hF1 := hF.1
  have hG1 := hG.1
  have hp1 : p.1 ≤ 9223372036854775807 := by have := hp.1; simp only [inR] at this; omega
  unfold law05_HeadOnce
  rw [shown5o, reqText_eq (q := (q.1, q.2.1, q.2.2)) hF (by show q.1.length ≤ _; omega) (by show q.2.1.length ≤ _; omega), respText_eq (p := (p.1, p.2.1, p.2.2)) hG hp1 (by show p.2.1.length ≤ _; omega), req_eq (by omega)]
  simp only [Option.bind_some]
  rcases hx : reqS s with _ | x
  · simp only [Bool.false_eq_true, if_false, Bool.not_true, Option.bind_some]
    rw [show (1099511627776 : Nat) = 1099511627773 + 1 + 1 + 1 from rfl, show (0 : Int) = ((0 : Nat) : Int) from rfl,
      once_step (t := reqT q) (by simp) rfl (by simp) (by omega) (by omega) (by simp) (by omega) (fun hn => req_rd hn (by omega)) (fun e => by cases e) (fun e => by cases e) (fun _ _ hn => by rw [req_eq (Nat.le_trans (req_rd (h := []) hn (by simp)).2 (by omega)), req_read hn]),
      once_step (t := respT5 p) (by simp) rfl (by simp) (by omega) (by omega) (by simp) (by omega) (fun hn => resp_rd hn (by omega)) (fun _ hn => resp_read hn) (fun e => by cases e) (fun e => absurd rfl e),
      once_end (by rfl)]
    rfl
  · obtain ⟨x1, x2, x3, x4, x5, x6, x7, x8⟩ := reqS_parts hx
    have hx1 := x5.1
    simp only [if_true]
    rw [reqText_eq (q := (x.1, x.2.1, x.2.2)) x5 (by show x.1.length ≤ _; omega) (by show x.2.1.length ≤ _; omega)]
    simp only [Option.bind_some]
    rw [szC_ok (by simp)]
    have e2 : ixL ([reqT (q.1, q.2.1, q.2.2), respT5 (p.1, p.2.1, p.2.2)] ++ [reqT (x.1, x.2.1, x.2.2)]) 2 = some (reqT x) := rfl
    rw [e2]
    simp only [Option.bind_some]
    have e3 : (if decide (reqT x = []) = true then some (decide ((s.length : Int) < 1984)) else some false) = some false := by
      by_cases hn : reqT x = []
      · rw [if_pos (by simpa using hn)]
        congr 1
        refine decide_eq_false fun hlt => ?_
        exact reqT_of hx (by omega) hn
      · rw [if_neg (by simpa using hn)]
    rw [e3]
    simp only [Option.bind_some, Bool.false_eq_true, if_false, Bool.not_true]
    rw [show (1099511627776 : Nat) = 1099511627772 + 1 + 1 + 1 + 1 from rfl, show (0 : Int) = ((0 : Nat) : Int) from rfl,
      once_step (t := reqT q) (by simp) rfl (by simp) (by omega) (by omega) (by show x.2.2.length ≤ _; omega) (by omega) (fun hn => req_rd hn (by omega)) (fun e => by cases e) (fun e => by cases e) (fun _ _ hn => by rw [req_eq (Nat.le_trans (req_rd (h := []) hn (by simp)).2 (by omega)), req_read hn]),
      once_step (t := respT5 p) (by simp) rfl (by simp) (by omega) (by omega) (by show x.2.2.length ≤ _; omega) (by omega) (fun hn => resp_rd hn (by omega)) (fun _ hn => resp_read hn) (fun e => by cases e) (fun e => absurd rfl e),
      once_step (t := reqT x) (by simp) rfl (by simp) (by omega) (by omega) (by show x.2.2.length ≤ _; omega) (by omega) (fun hn => req_rd hn (by omega)) (fun e => by cases e) (fun _ hn => by rw [req_eq (Nat.le_trans (req_rd (h := []) hn (by simp)).2 (by omega)), req_read hn]) (fun _ e => absurd rfl e),
      once_end (by rfl)]
    rfl
end Go.Proofs.YtbcmngnmfneeaaaGreatDoor
