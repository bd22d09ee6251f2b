/- Rows: what a handed-in struct reads as. -/
import Derived.Test.YtmelgmhcamjfiaaDoorRow
namespace Go.Proofs.YtmelgmhcamjfiaaDoor
open Go.Av Go.ChangeShapes Go.WideShapes Go.ChangeAt Go.RowKit
set_option linter.unusedVariables false
theorem closedL_cells : ∀ x : AV, x.closed = true → AV.closedL x.cells = true := by
  intro x h
  cases x <;> first | exact h | (simp only [AV.cells, AV.closedL, Bool.and_true]; exact h)
theorem closedL_append : ∀ (a b : List AV), AV.closedL a = true → AV.closedL b = true → AV.closedL (a ++ b) = true
  | [], b, _, h => h
  | x :: a, b, h1, h2 => by
    simp only [AV.closedL, Bool.and_eq_true, List.cons_append] at h1 ⊢
    exact ⟨h1.1, closedL_append a b h1.2 h2⟩
/-- what of a row of fields reads -/
structure RdFs {α : Type} (P : Program) (fs : List Field) (k : Nat) (f : α → List AV) (V : α → Prop) (m : α → Nat) (S : α → Prop) (s : Nat) : Prop where
  rd : ∀ {H : Type} {enc : TypeId × Value → H} {w : World} {base : Nat} {spare : Nat → Bool} {held : Bool} {n : Nat} {cs : List Value} (xs : List (DataW H × List MemPlace)), xs.length = fs.length →
    (∀ (i : Nat) (fl : Field), fs[i]? = some fl → DataW.trod enc P w base spare held n fl.type ((cs.drop fl.offset).take (P.cellsOf fl.type)) = xs[i]?) → cs.length = k + s →
    ∃ x : α, V x ∧ (m x ≤ Rows.uptoBulkAll (xs.map (·.1)) ∧ (Wok (DataW.weightsEach P (fs.map (·.type)) (xs.map (·.1))) → S x)) ∧ AV.closedL (f x) = true ∧ ∀ (j : Nat) (c : AV) (u : Value), (f x)[j]? = some c → cs[k + j]? = some u → R w (fun _ => .tuple #[]) [] c u ∧ u.oneCell' = true
  siz : ∀ x, (f x).length = s
theorem rdfs_one {α : Type} {P : Program} {fl : Field} {g : α → AV} {V : α → Prop} {m : α → Nat} {S : α → Prop} (E : RdT P fl.type g V m S) {k s : Nat} (hk : fl.offset = k) (hs : P.cellsOf fl.type = s) : RdFs P [fl] k (fun x => (g x).cells) V m S s := by
  subst hk hs
  refine ⟨fun {H enc w base spare held n cs} xs hl h hc => ?_, E.siz⟩
  match xs, hl with
  | [y], _ =>
    have h0 := h 0 fl rfl
    obtain ⟨x, v1, v2, v3, v4, v5⟩ := E.rd (d := y.1) (ps := y.2) h0
    refine ⟨x, v1, ⟨by simpa [Rows.uptoBulkAll] using v2.1, fun hz => v2.2 (wt_cons hz).1⟩, closedL_cells _ v3, fun j c u hj hu => v5 j c u hj ?_⟩
    have hjl : j < P.cellsOf fl.type := by rw [← E.siz x]; exact (List.getElem?_eq_some_iff.1 hj).1
    rw [List.getElem?_take_of_lt hjl, List.getElem?_drop]
    exact hu
theorem rdfs_cons {α β : Type} {P : Program} {fl : Field} {fs : List Field} {g : α → AV} {V : α → Prop} {m : α → Nat} {S : α → Prop} {f : β → List AV} {V' : β → Prop} {m' : β → Nat} {S' : β → Prop} (E : RdT P fl.type g V m S) {k k' s s' : Nat} (hk : fl.offset = k) (hs : P.cellsOf fl.type = s) (hk' : k + s = k')
    (F : RdFs P fs k' f V' m' S' s') : RdFs P (fl :: fs) k (fun p : α × β => (g p.1).cells ++ f p.2) (fun p => V p.1 ∧ V' p.2) (fun p => m p.1 + m' p.2) (fun p => S p.1 ∧ S' p.2) (s + s') := by
  subst hk hs hk'
  refine ⟨fun {H enc w base spare held n cs} xs hl h hc => ?_, fun x => by rw [List.length_append, E.siz, F.siz]⟩
  match xs, hl with
  | y :: ys, hl =>
    have h0 := h 0 fl rfl
    obtain ⟨x, v1, v2, v3, v4, v5⟩ := E.rd (d := y.1) (ps := y.2) h0
    obtain ⟨z, z1, z2, z3, z4⟩ := F.rd ys (by simpa using hl) (fun i f' hf => by simpa using h (i + 1) f' (by simpa using hf)) (by omega)
    refine ⟨(x, z), ⟨v1, z1⟩, ⟨by have := v2.1; have := z2.1; simp only [List.map_cons, Rows.uptoBulkAll]; omega, fun hz => ⟨v2.2 (wt_cons hz).1, z2.2 (wt_cons hz).2⟩⟩, closedL_append _ _ (closedL_cells _ v3) z3, fun j c u hj hu => ?_⟩
    have hsx := E.siz x
    replace hj : ((g x).cells ++ f z)[j]? = some c := hj
    by_cases hjl : j < (g x).cells.length
    · rw [List.getElem?_append_left hjl] at hj
      refine v5 j c u hj ?_
      rw [List.getElem?_take_of_lt (by omega), List.getElem?_drop]
      exact hu
    · rw [List.getElem?_append_right (by omega)] at hj
      refine z4 _ c u hj ?_
      rw [show fl.offset + P.cellsOf fl.type + (j - (g x).cells.length) = fl.offset + j by omega]
      exact hu
theorem rd_struct {α : Type} {P : Program} {t : TypeId} {fs : Array Field} {f : α → List AV} {V : α → Prop} {m : α → Nat} {S : α → Prop} {s : Nat} (ht : P.underlying t = some (.struct fs)) (F : RdFs P fs.toList 0 f V m S s) (hs : P.cellsOf t = s) : RdT P t (fun x => .agg (f x)) V (fun x => m x + 1) S := by
  refine ⟨fun {H enc w base spare held fuel cs d ps} h => ?_, fun x => by rw [hs]; exact F.siz x⟩
  obtain ⟨xs, n, rfl, hx, hl, hlen, hf⟩ := DataW.trod_struct ht h
  simp only [Prod.mk.injEq] at hx
  obtain ⟨rfl, rfl⟩ := hx
  obtain ⟨x, v1, v2, v3, v4⟩ := F.rd xs (by rw [hlen, Array.length_toList]) (fun i fl hi => hf i fl (by rw [← Array.getElem?_toList]; exact hi)) (by rw [hl, hs]; omega)
  refine ⟨x, v1, ⟨by have := v2.1; simp only [Rows.uptoBulk]; omega, fun hz => v2.2 (by rw [DataW.weights] at hz; simp only [ht] at hz; exact hz)⟩, v3, ?_, fun j c u hj hu => v4 j c u hj (by rw [Nat.zero_add]; exact hu)⟩
  rw [hl, hs]
  exact (F.siz x).symm
theorem arg_of_agg {α H : Type} {enc : TypeId × Value → H} {P : Program} {t : TypeId} {f : α → AV} {V : α → Prop} {m : α → Nat} {S : α → Prop} (E : RdT P t f V m S) (hA : isA P t = some true) (hf : ∀ x, f x = .agg (f x).cells) {w : World} {r : Reach} {base b2 : Nat} {sp : Nat → Bool} {held : Bool} {v : Value} {d : DataW H} {ps : List MemPlace}
    (hv : Value.okWide P w r base t v) (h : DataW.Trod enc P w b2 sp held t v d ps) (hz : Wok (d.weights P t)) : ∃ x, V x ∧ S x ∧ R w (fun _ => .tuple #[]) [] (f x) v := by
  obtain ⟨fuel, h⟩ := h
  obtain ⟨cs, rfl⟩ : ∃ cs, v = .agg cs := by
    unfold isA at hA
    unfold Value.okWide at hv
    generalize P.underlying t = d at *
    cases d with
    | none => simp at hA
    | some d =>
      cases d <;> simp at hA hv
      all_goals (obtain ⟨cs, h1, _⟩ := hv; exact ⟨cs, h1⟩)
  obtain ⟨x, h1, h2, h3, h4, h5⟩ := E.rd h
  refine ⟨x, h1, h2.2 hz, ?_⟩
  rw [hf]
  exact .agg _ cs (by rw [← h4]; rfl) (fun i c u hi hu => (h5 i c u hi (by show cs.toList[i]? = some u; rw [Array.getElem?_toList]; exact hu)).1)
end Go.Proofs.YtmelgmhcamjfiaaDoor
