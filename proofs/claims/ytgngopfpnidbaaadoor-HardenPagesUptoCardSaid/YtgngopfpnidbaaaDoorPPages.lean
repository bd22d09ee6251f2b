/- HardenPages, plain. -/
import Derived.Test.YtgngopfpnidbaaaDoorU21A
import Derived.Test.YtgngopfpnidbaaaDoorU4D
import Derived.Test.YtgngopfpnidbaaaDoorLPages
import Derived.KernelRfl
namespace Go.Proofs.YtgngopfpnidbaaaDoor
open Go.Av
set_option linter.unusedVariables false
set_option linter.unusedSimpArgs false
set_option maxRecDepth 100000
theorem okW_of {l : List Fld} (h : sumM mFld l ≤ 1048576) : okW l := ⟨okF_of (by omega), fun n => Nat.le_trans (wtV_all n l) h⟩
theorem bind_to {α β : Type} {x : Option α} {a : α} {f : α → Option β} {r : Option β} (h : x = some a) (h2 : f a = r) : x.bind f = r := by rw [h]; exact h2
theorem shown21' : law21_shown = some true := by kernel_rfl
theorem allT_app (a b : List Fld) (n : List UInt8) : allT (a ++ b) n = allT a n ++ allT b n := by unfold allT; rw [List.filter_append, List.map_append]
theorem out_none (l : List Fld) {ns : List (List UInt8)} {m : List UInt8} {k : List UInt8} (hk : k ∈ ns) (h : lowT k = lowT m) : allT (outT l ns) m = [] := by
  unfold allT outT
  rw [List.map_eq_nil_iff, List.filter_eq_nil_iff]
  intro f hf hs
  have h2 := (List.mem_filter.1 hf).2
  have h3 : lowT f.1 = lowT m := of_decide_eq_true hs
  have h4 : inT ns f = true := List.any_eq_true.2 ⟨k, hk, decide_eq_true (h3.trans h.symm)⟩
  rw [h4] at h2
  exact absurd h2 (by decide)
theorem lenF_all {n : Int} {m : List UInt8} (h : sameT [67, 111, 110, 116, 101, 110, 116, 45, 76, 101, 110, 103, 116, 104] m = false) : allT (lenF n) m = [] := by
  unfold lenF
  split
  · rfl
  · rw [allT_cons, h]; rfl
theorem lenF_cl {n : Int} {m : List UInt8} (h : sameT [67, 111, 110, 116, 101, 110, 116, 45, 76, 101, 110, 103, 116, 104] m = true) : (allT (lenF n) m).length = if 0 ≤ n then 1 else 0 := by
  unfold lenF
  by_cases h0 : n < 0
  · rw [if_pos h0, if_neg (by omega)]; rfl
  · rw [if_neg h0, if_pos (by omega), allT_cons, h]; rfl
theorem closeF_all {last : Bool} {m : List UInt8} (h : sameT [67, 111, 110, 110, 101, 99, 116, 105, 111, 110] m = false) : allT (closeF last) m = [] := by
  cases last with
  | false => rfl
  | true => show allT [_] m = []; rw [allT_cons, h]; rfl
def xF (p : Int × List UInt8 × List Fld) (n : Int) (last : Bool) : List Fld := (pageT p n last).2.2
def yF (p : Int × List UInt8 × List Fld) (b : Int × Int) (last : Bool) : List Fld := (plnT p b last).2.2
theorem x_all {p : Int × List UInt8 × List Fld} {n : Int} {last : Bool} {m k : List UInt8} (hk : k ∈ baseN ++ pageN) (h : lowT k = lowT m) : allT (xF p n last) m = allT pageF m ++ allT (lenF n) m ++ allT (closeF last) m := by
  show allT (outT p.2.2 (baseN ++ pageN ++ hopM p.2.2) ++ pageF ++ lenF n ++ closeF last) m = _
  rw [allT_app, allT_app, allT_app, out_none p.2.2 (List.mem_append.2 (.inl hk)) h, List.nil_append]
theorem y_all {p : Int × List UInt8 × List Fld} {b : Int × Int} {last : Bool} {m k : List UInt8} (hk : k ∈ baseN ++ snN) (h : lowT k = lowT m) : allT (yF p b last) m = allT [snF] m ++ allT (bodyF b) m ++ allT (closeF last) m := by
  show allT (outT p.2.2 (baseN ++ snN ++ hopM p.2.2) ++ [snF] ++ bodyF b ++ closeF last) m = _
  rw [allT_app, allT_app, allT_app, out_none p.2.2 (List.mem_append.2 (.inl hk)) h, List.nil_append]
theorem page_fix {p : Int × List UInt8 × List Fld} {n : Int} {last : Bool} {m k : List UInt8} (hk : k ∈ baseN ++ pageN) (h : lowT k = lowT m) (h1 : sameT [67, 111, 110, 116, 101, 110, 116, 45, 76, 101, 110, 103, 116, 104] m = false) (h2 : sameT [67, 111, 110, 110, 101, 99, 116, 105, 111, 110] m = false) :
    allT (xF p n last) m = allT pageF m := by
  rw [x_all hk h, lenF_all h1, closeF_all h2, List.append_nil, List.append_nil]
def ctM : List UInt8 := [99, 111, 110, 116, 101, 110, 116, 45, 116, 121, 112, 101]
def cspM : List UInt8 := [99, 111, 110, 116, 101, 110, 116, 45, 115, 101, 99, 117, 114, 105, 116, 121, 45, 112, 111, 108, 105, 99, 121]
def xsM : List UInt8 := [120, 45, 99, 111, 110, 116, 101, 110, 116, 45, 116, 121, 112, 101, 45, 111, 112, 116, 105, 111, 110, 115]
def clM : List UInt8 := [99, 111, 110, 116, 101, 110, 116, 45, 108, 101, 110, 103, 116, 104]
def teM : List UInt8 := [116, 114, 97, 110, 115, 102, 101, 114, 45, 101, 110, 99, 111, 100, 105, 110, 103]
def ceM : List UInt8 := [99, 111, 110, 116, 101, 110, 116, 45, 101, 110, 99, 111, 100, 105, 110, 103]
theorem x_ct {p : Int × List UInt8 × List Fld} {n : Int} {last : Bool} : allT (xF p n last) ctM = [ctF.2] :=
  (page_fix (k := ctF.1) (by decide) (by kernel_rfl) (by kernel_rfl) (by kernel_rfl)).trans (by kernel_rfl)
theorem x_csp {p : Int × List UInt8 × List Fld} {n : Int} {last : Bool} : allT (xF p n last) cspM = [cspF.2] :=
  (page_fix (k := cspF.1) (by decide) (by kernel_rfl) (by kernel_rfl) (by kernel_rfl)).trans (by kernel_rfl)
theorem x_xs {p : Int × List UInt8 × List Fld} {n : Int} {last : Bool} : allT (xF p n last) xsM = [snF.2] :=
  (page_fix (k := snF.1) (by decide) (by kernel_rfl) (by kernel_rfl) (by kernel_rfl)).trans (by kernel_rfl)
theorem x_te {p : Int × List UInt8 × List Fld} {n : Int} {last : Bool} : allT (xF p n last) teM = [] :=
  (page_fix (k := [84, 114, 97, 110, 115, 102, 101, 114, 45, 69, 110, 99, 111, 100, 105, 110, 103]) (by decide) (by kernel_rfl) (by kernel_rfl) (by kernel_rfl)).trans (by kernel_rfl)
theorem x_ce {p : Int × List UInt8 × List Fld} {n : Int} {last : Bool} : allT (xF p n last) ceM = [] :=
  (page_fix (k := [67, 111, 110, 116, 101, 110, 116, 45, 69, 110, 99, 111, 100, 105, 110, 103]) (by decide) (by kernel_rfl) (by kernel_rfl) (by kernel_rfl)).trans (by kernel_rfl)
theorem x_cl {p : Int × List UInt8 × List Fld} {n : Int} {last : Bool} : (allT (xF p n last) clM).length = if 0 ≤ n then 1 else 0 := by
  rw [x_all (k := [67, 111, 110, 116, 101, 110, 116, 45, 76, 101, 110, 103, 116, 104]) (by decide) (by kernel_rfl), closeF_all (by kernel_rfl), show allT pageF clM = [] from by kernel_rfl, List.append_nil, List.nil_append]
  exact lenF_cl (by kernel_rfl)
theorem x_c {p : Int × List UInt8 × List Fld} {n : Int} {last : Bool} : allT (xF p n last) cN = allT (closeF last) cN := by
  rw [x_all (k := [67, 111, 110, 110, 101, 99, 116, 105, 111, 110]) (by decide) (by kernel_rfl), lenF_all (by kernel_rfl), show allT pageF cN = [] from by kernel_rfl]
  rfl
theorem body_all {b : Int × Int} {m : List UInt8} (h1 : sameT [67, 111, 110, 116, 101, 110, 116, 45, 76, 101, 110, 103, 116, 104] m = false) (h2 : sameT [84, 114, 97, 110, 115, 102, 101, 114, 45, 69, 110, 99, 111, 100, 105, 110, 103] m = false) : allT (bodyF b) m = [] := by
  unfold bodyF
  split
  · exact lenF_all h1
  · split
    · rw [allT_cons, h2]; rfl
    · rfl
theorem y_xs {p : Int × List UInt8 × List Fld} {b : Int × Int} {last : Bool} : allT (yF p b last) xsM = [snF.2] := by
  rw [y_all (k := snF.1) (by decide) (by kernel_rfl), body_all (by kernel_rfl) (by kernel_rfl), closeF_all (by kernel_rfl)]
  kernel_rfl
theorem y_c {p : Int × List UInt8 × List Fld} {b : Int × Int} {last : Bool} : allT (yF p b last) cN = allT (closeF last) cN := by
  rw [y_all (k := [67, 111, 110, 110, 101, 99, 116, 105, 111, 110]) (by decide) (by kernel_rfl), body_all (by kernel_rfl) (by kernel_rfl), show allT [snF] cN = [] from by kernel_rfl]
  rfl
theorem y_te {p : Int × List UInt8 × List Fld} {b : Int × Int} {last : Bool} : (allT (yF p b last) teM).length = if b.1 = 2 ∨ b.1 = 3 then 1 else 0 := by
  rw [y_all (k := [84, 114, 97, 110, 115, 102, 101, 114, 45, 69, 110, 99, 111, 100, 105, 110, 103]) (by decide) (by kernel_rfl), closeF_all (by kernel_rfl), show allT [snF] teM = [] from by kernel_rfl, List.append_nil, List.nil_append]
  unfold bodyF
  by_cases g1 : b.1 = 1
  · rw [if_pos g1, if_neg (by omega), lenF_all (by kernel_rfl)]; rfl
  · rw [if_neg g1]
    split
    · kernel_rfl
    · rfl
theorem y_cl {p : Int × List UInt8 × List Fld} {b : Int × Int} {last : Bool} : (allT (yF p b last) clM).length = if b.1 = 1 ∧ 0 ≤ b.2 then 1 else 0 := by
  rw [y_all (k := [67, 111, 110, 116, 101, 110, 116, 45, 76, 101, 110, 103, 116, 104]) (by decide) (by kernel_rfl), closeF_all (by kernel_rfl), show allT [snF] clM = [] from by kernel_rfl, List.append_nil, List.nil_append]
  unfold bodyF
  by_cases g1 : b.1 = 1
  · rw [if_pos g1, lenF_cl (by kernel_rfl)]; simp only [g1, true_and]
  · rw [if_neg g1, if_neg (show ¬ (b.1 = 1 ∧ 0 ≤ b.2) from fun e => g1 e.1)]
    split
    · kernel_rfl
    · rfl
/-! sizes -/
theorem lenF_ok {n : Int} (hn : n ≤ 9223372036854775807) : ∀ f ∈ lenF n, f.1.length ≤ 16777216 ∧ f.2.length ≤ 16777216 := by
  unfold lenF
  split
  · intro f hf; exact absurd hf (by simp)
  · rename_i h0
    intro f hf
    rw [List.mem_singleton.1 hf]
    refine ⟨by show (14 : Nat) ≤ 16777216; decide, ?_⟩
    show (textS 10 n).length ≤ _
    have := txt_short (b := 10) (.inl rfl) (u := n.toNat) (by show _ ≤ 9223372036854775807; omega)
    unfold textS
    rw [if_neg h0]
    omega
theorem okF_app {a b : List Fld} (ha : a.length ≤ 1048576 ∧ ∀ f ∈ a, f.1.length ≤ 16777216 ∧ f.2.length ≤ 16777216) (hb : b.length ≤ 1048576 ∧ ∀ f ∈ b, f.1.length ≤ 16777216 ∧ f.2.length ≤ 16777216) : okF (a ++ b) :=
  ⟨by rw [List.length_append]; omega, fun f hf => (List.mem_append.1 hf).elim (ha.2 f) (hb.2 f)⟩
theorem out_ok {l : List Fld} (h : l.length ≤ 1048576 ∧ ∀ f ∈ l, f.1.length ≤ 16777216 ∧ f.2.length ≤ 16777216) (ns : List (List UInt8)) : (outT l ns).length ≤ 1048576 ∧ ∀ f ∈ outT l ns, f.1.length ≤ 16777216 ∧ f.2.length ≤ 16777216 :=
  ⟨Nat.le_trans (out_len l ns) h.1, fun f hf => h.2 f (List.mem_filter.1 hf).1⟩
theorem closeF_ok (last : Bool) : ∀ f ∈ closeF last, f.1.length ≤ 16777216 ∧ f.2.length ≤ 16777216 := by cases last <;> decide
theorem bodyF_ok {b : Int × Int} (hn : b.2 ≤ 9223372036854775807) : ∀ f ∈ bodyF b, f.1.length ≤ 16777216 ∧ f.2.length ≤ 16777216 := by
  unfold bodyF
  split
  · exact lenF_ok hn
  · split <;> decide
theorem pageF_ok : ∀ f ∈ pageF, f.1.length ≤ 16777216 ∧ f.2.length ≤ 16777216 := by decide
theorem snF_ok : ∀ f ∈ [snF], f.1.length ≤ 16777216 ∧ f.2.length ≤ 16777216 := by decide
theorem x_ok {p : Int × List UInt8 × List Fld} {n : Int} {last : Bool} (h : p.2.2.length ≤ 1048576 ∧ ∀ f ∈ p.2.2, f.1.length ≤ 16777216 ∧ f.2.length ≤ 16777216) (hn : n ≤ 9223372036854775807) : okF (xF p n last) := by
  show okF (outT p.2.2 (baseN ++ pageN ++ hopM p.2.2) ++ pageF ++ lenF n ++ closeF last)
  have h0 := out_ok h (baseN ++ pageN ++ hopM p.2.2)
  have h2 := lenF_len n
  have h4 := closeF_len last
  have h5 : pageF.length = 3 := rfl
  refine ⟨by simp only [List.length_append]; omega, fun f hf => ?_⟩
  rcases List.mem_append.1 hf with hf | hf
  · rcases List.mem_append.1 hf with hf | hf
    · rcases List.mem_append.1 hf with hf | hf
      · exact h0.2 f hf
      · exact pageF_ok f hf
    · exact lenF_ok hn f hf
  · exact closeF_ok last f hf
theorem y_ok {p : Int × List UInt8 × List Fld} {b : Int × Int} {last : Bool} (h : p.2.2.length ≤ 1048576 ∧ ∀ f ∈ p.2.2, f.1.length ≤ 16777216 ∧ f.2.length ≤ 16777216) (hn : b.2 ≤ 9223372036854775807) : okF (yF p b last) := by
  show okF (outT p.2.2 (baseN ++ snN ++ hopM p.2.2) ++ [snF] ++ bodyF b ++ closeF last)
  have h0 := out_ok h (baseN ++ snN ++ hopM p.2.2)
  have h2 := bodyF_len b
  have h4 := closeF_len last
  refine ⟨by simp only [List.length_append, List.length_singleton]; omega, fun f hf => ?_⟩
  rcases List.mem_append.1 hf with hf | hf
  · rcases List.mem_append.1 hf with hf | hf
    · rcases List.mem_append.1 hf with hf | hf
      · exact h0.2 f hf
      · exact snF_ok f hf
    · exact bodyF_ok hn f hf
  · exact closeF_ok last f hf
theorem keeps_last {l : List Fld} {last : Bool} (hF : okF l) (h : allT l cN = allT (closeF last) cN) : harden_Keeps l = some (!last) := by
  unfold harden_Keeps
  rw [show ([99, 111, 110, 110, 101, 99, 116, 105, 111, 110] : List UInt8) = cN from rfl, Members_eq hF (by decide) (by rw [h]; cases last <;> decide), h]
  cases last <;> kernel_rfl
theorem kind_page {x : Int × List UInt8 × List Fld} (hF : okF x.2.2) (h1 : allT x.2.2 ctM = [ctF.2]) (h2 : allT x.2.2 ceM = []) : harden_Kind x = some (true, [117, 116, 102, 45, 56], 0) := by
  unfold harden_Kind
  rw [show ([99, 111, 110, 116, 101, 110, 116, 45, 116, 121, 112, 101] : List UInt8) = ctM from rfl, show ([99, 111, 110, 116, 101, 110, 116, 45, 101, 110, 99, 111, 100, 105, 110, 103] : List UInt8) = ceM from rfl, All_eq hF (by decide), h1, Members_eq hF (by decide) (by rw [h2]; decide), h2]
  kernel_rfl
theorem law_HardenPages (p : Int × List UInt8 × List (List UInt8 × List UInt8)) (n : Int) (b : Int × Int) (last : Bool) (_hp : inR .i64 p.1 ∧ True ∧ ∀ x ∈ p.2.2, True ∧ True) (hn : inR .i64 n) (hb2 : inR .i64 b.1 ∧ inR .i64 b.2) (_hl : True)
    (hb0 : p.2.1.length + sumM (fun y0 => ((y0.1.length + 1) + (y0.2.length + 1)) + 1) p.2.2 ≤ 1048576) : law21_HardenPages p n b last = some true := by
  have hb : p.2.1.length + sumM mFld p.2.2 ≤ 1048576 := hb0
  have hW := okW_of (l := p.2.2) (by omega)
  have hL : p.2.2.length ≤ 1048576 := Nat.le_trans (len_sum (m := mFld) (fun x => by unfold mFld; omega) p.2.2) (by omega)
  have hn1 : n ≤ 9223372036854775807 := by simp only [inR] at hn; omega
  have hn2 : b.2 ≤ 9223372036854775807 := by have := hb2.2; simp only [inR] at this; omega
  have hx : okF (xF p n last) := x_ok ⟨hL, hW.1.2⟩ hn1
  have hy : okF (yF p b last) := y_ok ⟨hL, hW.1.2⟩ hn2
  unfold law21_HardenPages
  refine bind_to shown21' ?_
  refine bind_to (page_eq (p := p) hW hn1) ?_
  refine bind_to (plain_eq (p := p) (b := b) hW hn2) ?_
  refine bind_to ((All_eq (l := xF p n last) (n := ctM) hx (by decide)).trans (congrArg some x_ct)) ?_
  refine bind_to ((All_eq (l := xF p n last) (n := cspM) hx (by decide)).trans (congrArg some x_csp)) ?_
  refine bind_to ((All_eq (l := xF p n last) (n := xsM) hx (by decide)).trans (congrArg some x_xs)) ?_
  refine bind_to (a := false) (by kernel_rfl) ?_
  rw [if_neg (by decide)]
  refine bind_to (kind_page (x := pageT p n last) hx x_ct x_ce) ?_
  refine bind_to (a := false) ?_ ?_
  · have k1 : harden_Keeps (pageT p n last).2.2 = some (!last) := keeps_last hx x_c
    have k2 : harden_Keeps (plnT p b last).2.2 = some (!last) := keeps_last hy y_c
    dsimp only
    rw [k1]
    simp only [Option.bind_some]
    rw [k2]
    cases last <;> rfl
  rw [if_neg (by decide)]
  refine bind_to ((Count_eq (l := xF p n last) (n := clM) hx (by decide)).trans (congrArg (fun z : Nat => some (z : Int)) x_cl)) ?_
  refine bind_to (a := false) ?_ ?_
  · refine bind_to ((Count_eq (l := xF p n last) (n := teM) hx (by decide)).trans (congrArg (fun z : List (List UInt8) => some (z.length : Int)) x_te)) ?_
    by_cases h0 : 0 ≤ n
    · rw [if_pos h0, decide_eq_true h0]; kernel_rfl
    · rw [if_neg h0, decide_eq_false h0]; kernel_rfl
  rw [if_neg (by decide)]
  refine bind_to ((All_eq (l := yF p b last) (n := xsM) hy (by decide)).trans (congrArg some y_xs)) ?_
  refine bind_to ((Count_eq (l := yF p b last) (n := teM) hy (by decide)).trans (congrArg (fun z : Nat => some (z : Int)) y_te)) ?_
  refine bind_to ((Count_eq (l := yF p b last) (n := clM) hy (by decide)).trans (congrArg (fun z : Nat => some (z : Int)) y_cl)) ?_
  refine Eq.trans (if_pos (show decide ((((List.length [snF.2] : Nat)) : Int) = 1) = true by kernel_rfl)) ?_
  refine Eq.trans (show _ = _ from rfl) ?_
  by_cases g1 : b.1 = 1
  · rw [if_neg (show ¬ (b.1 = 2 ∨ b.1 = 3) by omega), decide_eq_false (show ¬ b.1 = 2 by omega), decide_eq_false (show ¬ b.1 = 3 by omega)]
    by_cases h0 : 0 ≤ b.2
    · rw [if_pos (show b.1 = 1 ∧ 0 ≤ b.2 from ⟨g1, h0⟩)]; kernel_rfl
    · rw [if_neg (show ¬ (b.1 = 1 ∧ 0 ≤ b.2) from fun e => h0 e.2)]; kernel_rfl
  · rw [if_neg (show ¬ (b.1 = 1 ∧ 0 ≤ b.2) from fun e => g1 e.1)]
    by_cases g2 : b.1 = 2
    · rw [if_pos (show b.1 = 2 ∨ b.1 = 3 from .inl g2), decide_eq_true g2]; kernel_rfl
    · rw [decide_eq_false g2]
      by_cases g3 : b.1 = 3
      · rw [if_pos (show b.1 = 2 ∨ b.1 = 3 from .inr g3), decide_eq_true g3]; kernel_rfl
      · rw [if_neg (show ¬ (b.1 = 2 ∨ b.1 = 3) from fun e => e.elim g2 g3), decide_eq_false g3]; kernel_rfl
end Go.Proofs.YtgngopfpnidbaaaDoor
