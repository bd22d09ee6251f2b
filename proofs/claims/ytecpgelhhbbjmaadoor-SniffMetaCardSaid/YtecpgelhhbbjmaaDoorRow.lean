/- From a contract to a row: what a handed-in datum reads as, and of what size it is; that it reads so behind the call. -/
import Derived.Test.YtecpgelhhbbjmaaDoorFa
import Derived.ProofKit
import Derived.OpenShut
import Derived.JoinedCond
import Derived.WideKeyArgs
namespace Go.Proofs.YtecpgelhhbbjmaaDoor
open Go.Av Go.ChangeShapes Go.WideShapes Go.ChangeAt Go.RowKit
set_option linter.unusedVariables false

theorem ownKnob_none : ownKnob Tryd.prog.godebug = none := by kernel_rfl
theorem laid_out : laidOutB Tryd.prog = true := by kernel_rfl

/-- none of the weights passes the form's own reach -/
def Wok (l : List Nat) : Prop := l.all (· ≤ reachBytes) = true
theorem wt_cons {H : Type} {P : Program} {t : TypeId} {ts : List TypeId} {d : DataW H} {r : List (DataW H)} (h : Wok (DataW.weightsEach P (t :: ts) (d :: r))) : Wok (d.weights P t) ∧ Wok (DataW.weightsEach P ts r) := by
  unfold Wok at h ⊢
  rw [DataW.weightsEach, List.all_append, Bool.and_eq_true] at h
  exact h
theorem wt_all {H : Type} {P : Program} {e : TypeId} : ∀ {l : List (DataW H)}, Wok (DataW.weightsAll P e l) → ∀ d ∈ l, Wok (d.weights P e)
  | [], _, d, hd => by simp at hd
  | x :: l, h, d, hd => by
    unfold Wok at h
    rw [DataW.weightsAll, List.all_append, Bool.and_eq_true] at h
    rcases List.mem_cons.1 hd with rfl | hd
    · exact h.1
    · exact wt_all h.2 d hd
/-- what of a type reads, reads as a pure value x: 'f x' tells it, V holds of it, its measure m is at most the datum's bulk -/
structure RdT {α : Type} (P : Program) (t : TypeId) (f : α → AV) (V : α → Prop) (m : α → Nat) (S : α → Prop) : Prop where
  rd : ∀ {H : Type} {enc : TypeId × Value → H} {w : World} {base : Nat} {spare : Nat → Bool} {held : Bool} {fuel : Nat} {cs : List Value} {d : DataW H} {ps : List MemPlace}, DataW.trod enc P w base spare held fuel t cs = some (d, ps) →
    ∃ x : α, V x ∧ (m x ≤ Rows.uptoBulk d ∧ (Wok (d.weights P t) → S x)) ∧ (f x).closed = true ∧ cs.length = (f x).cells.length ∧ ∀ (j : Nat) (c : AV) (u : Value), (f x).cells[j]? = some c → cs[j]? = some u → R w (fun _ => .tuple #[]) [] c u ∧ u.oneCell' = true
  siz : ∀ x, (f x).cells.length = P.cellsOf t

theorem one_cell {w : World} {c0 : AV} {u0 : Value} (h : R w (fun _ => .tuple #[]) [] c0 u0) (ho : u0.oneCell' = true) : ∀ (j : Nat) (c : AV) (u : Value), [c0][j]? = some c → [u0][j]? = some u → R w (fun _ => .tuple #[]) [] c u ∧ u.oneCell' = true
  | 0, c, u, hc, hu => by simp at hc hu; subst hc hu; exact ⟨h, ho⟩
  | j + 1, c, u, hc, hu => by simp at hc

theorem wf_inR {k : IntKind} {n : Int} (h : (Lit.int k n).wf = true) : inR k n := by
  cases k <;> simp [Lit.wf, IntKind.min, IntKind.max, IntKind.signed, IntKind.bits] at h <;> simp only [inR] <;> omega
theorem rd_int {P : Program} {t : TypeId} {k : IntKind} (ht : P.underlying t = some (.int k)) (hs : P.cellsOf t = 1) : RdT P t (encI k) (inR k) (fun _ => 1) (fun _ => True) :=
  ⟨fun h => by
    obtain ⟨n, rfl, hx, hw⟩ := DataW.trod_int ht h
    simp only [Prod.mk.injEq] at hx
    obtain ⟨rfl, rfl⟩ := hx
    exact ⟨n, wf_inR hw, ⟨by simp [Rows.uptoBulk], fun _ => trivial⟩, rfl, rfl, one_cell (.int k n) rfl⟩, fun x => hs.symm⟩
theorem rd_u8 {P : Program} {t : TypeId} (ht : P.underlying t = some (.int .u8)) (hs : P.cellsOf t = 1) : RdT P t encB (fun _ => True) (fun _ => 1) (fun _ => True) :=
  ⟨fun h => by
    obtain ⟨n, rfl, hx, hw⟩ := DataW.trod_int ht h
    simp only [Prod.mk.injEq] at hx
    obtain ⟨rfl, rfl⟩ := hx
    have hr := wf_inR hw
    simp only [inR] at hr
    have e : n = ((UInt8.ofNat n.toNat).toNat : Int) := by rw [UInt8.toNat_ofNat']; omega
    refine ⟨UInt8.ofNat n.toNat, trivial, ⟨by simp [Rows.uptoBulk], fun _ => trivial⟩, rfl, rfl, one_cell ?_ rfl⟩
    show R _ _ _ (AV.int .u8 ((UInt8.ofNat n.toNat).toNat : Int)) _
    rw [← e]
    exact .int _ _, fun x => hs.symm⟩
theorem rd_bool {P : Program} {t : TypeId} (ht : P.underlying t = some .bool) (hs : P.cellsOf t = 1) : RdT P t encO (fun _ => True) (fun _ => 1) (fun _ => True) :=
  ⟨fun h => by
    obtain ⟨b, rfl, hx⟩ := DataW.trod_bool ht h
    simp only [Prod.mk.injEq] at hx
    obtain ⟨rfl, rfl⟩ := hx
    exact ⟨b, trivial, ⟨by simp [Rows.uptoBulk], fun _ => trivial⟩, rfl, rfl, one_cell (.bool b) rfl⟩, fun x => hs.symm⟩
theorem rd_str {P : Program} {t : TypeId} (ht : P.underlying t = some .string) (hs : P.cellsOf t = 1) : RdT P t encS (fun _ => True) (fun s => s.length + 1) (fun s => s.length ≤ 140737488351232) :=
  ⟨fun h => by
    obtain ⟨s, rfl, hx, hw⟩ := DataW.trod_string ht h
    simp only [Prod.mk.injEq] at hx
    obtain ⟨rfl, rfl⟩ := hx
    obtain ⟨⟨l⟩⟩ := s
    exact ⟨l, trivial, ⟨by simp [Rows.uptoBulk], fun hz => by
      simp only [Wok, DataW.weights, List.all_cons, List.all_nil, Bool.and_true] at hz
      exact of_decide_eq_true hz⟩, rfl, rfl, one_cell (.str l) rfl⟩, fun x => hs.symm⟩

def sumM {α : Type} (m : α → Nat) : List α → Nat
  | [] => 0
  | x :: r => m x + sumM m r
theorem bulk_one {H : Type} (d : DataW H) : 1 ≤ Rows.uptoBulk d := by
  cases d with
  | lit l => cases l <;> simp [Rows.uptoBulk]
  | nil => simp [Rows.uptoBulk]
  | ptr d => simp [Rows.uptoBulk]
  | slice elems spare => simp [Rows.uptoBulk]
  | agg parts => simp [Rows.uptoBulk]
  | iface t d => simp [Rows.uptoBulk]
  | map entries => simp [Rows.uptoBulk]
  | held h => simp [Rows.uptoBulk]
theorem bulk_len {H : Type} (l : List (DataW H)) : l.length ≤ Rows.uptoBulkAll l := by
  induction l with
  | nil => simp [Rows.uptoBulkAll]
  | cons x r ih => have := bulk_one x; simp only [Rows.uptoBulkAll, List.length_cons]; omega
theorem pick_all {α β : Type} {Pr : α → β → Nat → Prop} : ∀ (ys : List β) (k : Nat), (∀ (i : Nat) (y : β), ys[i]? = some y → ∃ x, Pr x y (k + i)) → ∃ l : List α, l.length = ys.length ∧ ∀ (i : Nat) (x : α) (y : β), l[i]? = some x → ys[i]? = some y → Pr x y (k + i)
  | [], k, _ => ⟨[], rfl, fun i x y h => by simp at h⟩
  | y :: ys, k, h => by
    obtain ⟨x, hx⟩ := h 0 y rfl
    obtain ⟨l, h1, h2⟩ := pick_all ys (k + 1) (Pr := Pr) (fun i z hz => by
      obtain ⟨x, hx⟩ := h (i + 1) z (by simpa using hz)
      exact ⟨x, by rw [show k + 1 + i = k + (i + 1) by omega]; exact hx⟩)
    refine ⟨x :: l, by simp [h1], fun i x' y' hx' hy' => ?_⟩
    cases i with
    | zero => simp at hx' hy'; subst hx' hy'; exact hx
    | succ i =>
      have := h2 i x' y' (by simpa using hx') (by simpa using hy')
      rwa [show k + 1 + i = k + (i + 1) by omega] at this
theorem sum_le {α H : Type} {m : α → Nat} : ∀ (l : List α) (ys : List (DataW H × List MemPlace)), l.length = ys.length → (∀ (i : Nat) (x : α) (y : DataW H × List MemPlace), l[i]? = some x → ys[i]? = some y → m x ≤ Rows.uptoBulk y.1) → sumM m l ≤ Rows.uptoBulkAll (ys.map (·.1))
  | [], [], _, _ => Nat.le_refl _
  | x :: l, y :: ys, hl, h => by
    have h1 := h 0 x y rfl rfl
    have h2 := sum_le l ys (by simpa using hl) (fun i x' y' hx hy => h (i + 1) x' y' (by simpa using hx) (by simpa using hy))
    simp only [sumM, List.map_cons, Rows.uptoBulkAll]
    omega
  | [], _ :: _, hl, _ => by simp at hl
  | _ :: _, [], hl, _ => by simp at hl
theorem rd_slice {α : Type} {P : Program} {t e : TypeId} {g : α → AV} {V : α → Prop} {m : α → Nat} {S : α → Prop} {bs : Nat} (ht : P.underlying t = some (.slice e)) (hs1 : P.cellsOf t = 1) (he : 0 < P.cellsOf e) (E : RdT P e g V m S) (hbs : P.bytesOf e = bs) : RdT P t (encL (P.cellsOf e) g) (fun l => ∀ x ∈ l, V x) (fun l => sumM m l + 1) (fun l => l.length * bs ≤ 140737488351232 ∧ ∀ x ∈ l, S x) := by
  refine ⟨fun {H enc w base spare held fuel cs d ps} h => ?_, fun x => hs1.symm⟩
  rcases DataW.trod_slice ht h with ⟨rfl, hx⟩ | ⟨a, len, cap, elems, rest, n, rfl, rfl, hx, hb, hl, hm, hlen, hel, _, _⟩
  · simp only [Prod.mk.injEq] at hx
    obtain ⟨rfl, rfl⟩ := hx
    exact ⟨[], fun x hx => by simp at hx, ⟨by simp [sumM, Rows.uptoBulk], fun _ => ⟨by simp, fun x hx => by simp at hx⟩⟩, rfl, rfl, one_cell (.view0 _ _ _) rfl⟩
  · simp only [Prod.mk.injEq] at hx
    obtain ⟨rfl, rfl⟩ := hx
    obtain ⟨l, l1, l2⟩ := pick_all (α := α) (Pr := fun x y i => V x ∧ (m x ≤ Rows.uptoBulk y.1 ∧ (Wok (y.1.weights P e) → S x)) ∧ (g x).closed = true ∧ ∀ (j : Nat) (c : AV), (g x).cells[j]? = some c → ∃ u, w.cell? ((a.add (i * P.cellsOf e)).add j) = some u ∧ R w (fun _ => .tuple #[]) [] c u ∧ u.oneCell' = true) elems 0 (fun i y hy => by
        have hi : i < len := by rw [← hlen]; exact (List.getElem?_eq_some_iff.1 hy).1
        have h1 := hel i hi
        rw [hy] at h1
        obtain ⟨cs, hc, h2⟩ := Option.bind_eq_some_iff.1 h1
        obtain ⟨x, v1, v2, v3, v4, v5⟩ := E.rd h2
        obtain ⟨c1, c2, c3⟩ := World.cells?_some hc
        rw [Nat.zero_add]
        refine ⟨x, v1, v2, v3, fun j c hj => ?_⟩
        have hjl : j < cs.length := by rw [v4]; exact (List.getElem?_eq_some_iff.1 hj).1
        have hu : cs[j]? = some cs[j] := List.getElem?_eq_getElem hjl
        have hcell : w.cell? ((a.add (i * P.cellsOf e)).add j) = some cs[j] := by
          first
            | exact c3 j _ hu
            | (rw [c3 j (by omega)]; exact hu)
            | (have := c3 j (by omega); rw [this, hu])
        exact ⟨cs[j], hcell, (v5 j c _ hj hu).1, (v5 j c _ hj hu).2⟩)
    have lget : ∀ (i : Nat) (x : α), l[i]? = some x → ∃ y, elems[i]? = some y := fun i x hx => ⟨_, List.getElem?_eq_getElem (by rw [← l1]; exact (List.getElem?_eq_some_iff.1 hx).1)⟩
    have hlen' : l.length = len := by rw [l1, hlen]
    refine ⟨l, fun x hx => ?_, ?_, rfl, rfl, ?_⟩
    · obtain ⟨i, hi⟩ := List.mem_iff_getElem?.1 hx
      obtain ⟨y, hy⟩ := lget i x hi
      exact (l2 i x y hi hy).1
    · have := sum_le l elems l1 (m := m) (fun i x y hx hy => (l2 i x y hx hy).2.1.1)
      refine ⟨by simp only [Rows.uptoBulk]; omega, fun hz => ?_⟩
      unfold Wok at hz
      rw [DataW.weights] at hz
      simp only [ht, List.all_cons, List.all_append, Bool.and_eq_true, List.length_map] at hz
      refine ⟨?_, fun x hx => ?_⟩
      · rw [l1, ← hbs]
        exact Nat.le_trans (Nat.mul_le_mul_right _ (Nat.le_add_right _ _)) (of_decide_eq_true hz.1)
      · obtain ⟨i, hi⟩ := List.mem_iff_getElem?.1 hx
        obtain ⟨y, hy⟩ := lget i x hi
        exact (l2 i x y hi hy).2.1.2 (wt_all (P := P) (e := e) (l := elems.map (fun y : DataW H × List MemPlace => y.1)) hz.2.1 _ (List.mem_map.2 ⟨y, List.mem_iff_getElem?.2 ⟨i, hy⟩, rfl⟩))
    · refine one_cell ?_ rfl
      rcases l with _ | ⟨x0, l0⟩
      · simp only [List.length_nil] at hlen'
        subst hlen'
        exact .view0 _ _ _
      · have hx0 : (x0 :: l0)[0]? = some x0 := rfl
        generalize x0 :: l0 = l at *
        have sz0 := E.siz x0
        obtain ⟨y0, hy0⟩ := lget 0 x0 hx0
        obtain ⟨u0, hu0, _⟩ := (l2 0 x0 y0 hx0 hy0).2.2.2 0 _ (List.getElem?_eq_getElem (by omega))
        obtain ⟨b, off, sp⟩ := a
        have hsp : sp = none := by
          simp only [Nat.zero_add, Nat.zero_mul, Addr.add, if_true] at hu0
          unfold World.cell? at hu0
          split at hu0
          · cases sp with
            | none => rfl
            | some _ => simp at hu0
          · simp at hu0
        subst hsp
        have key : ∀ (i : Nat) (x : AV) (j : Nat) (c : AV), (l.map g)[i]? = some x → x.cells[j]? = some c → ∃ u, w.cell? ⟨b, off + i * P.cellsOf e + j, none⟩ = some u ∧ R w (fun _ => .tuple #[]) [] c u ∧ u.oneCell' = true := fun i x j c hi hj => by
          simp only [List.getElem?_map, Option.map_eq_some_iff] at hi
          obtain ⟨z, hz, rfl⟩ := hi
          obtain ⟨y, hy⟩ := lget i z hz
          obtain ⟨u, h1, h2, h3⟩ := (l2 i z y hz hy).2.2.2 j c hj
          rw [Nat.zero_add, add_lit, add_lit] at h1
          exact ⟨u, h1, h2, h3⟩
        have hbl : b < w.heap.size := by
          obtain ⟨u, hu, _⟩ := key 0 (g x0) 0 _ (by rw [List.getElem?_map, hx0]; rfl) (List.getElem?_eq_getElem (by omega))
          exact block_lt_of_cell hu
        have hgx : ∀ (i : Nat) (x : AV), (l.map g)[i]? = some x → x.closed = true ∧ x.cells.length = P.cellsOf e := fun i x hi => by
          simp only [List.getElem?_map, Option.map_eq_some_iff] at hi
          obtain ⟨z, hz, rfl⟩ := hi
          obtain ⟨y, hy⟩ := lget i z hz
          exact ⟨(l2 i z y hz hy).2.2.1, E.siz z⟩
        have := R.view (w := w) (φ := fun _ => .tuple #[]) (H := []) (l.map g) b off (P.cellsOf e) cap (fun i j => (w.cell? ⟨b, off + i * P.cellsOf e + j, none⟩).getD undef) (by rw [List.length_map]; omega) hbl (fun id o h => by simp at h)
          (fun i x hi => (hgx i x hi).1) (fun i x hi => (hgx i x hi).2)
          (fun i x j c hi hj => by
            obtain ⟨u, h1, h2, h3⟩ := key i x j c hi hj
            rw [h1]; exact ⟨rfl, h3⟩)
          (fun i x j c hi hj => by
            obtain ⟨u, h1, h2, h3⟩ := key i x j c hi hj
            rw [h1]; exact h2)
        rw [List.length_map, hlen'] at this
        exact this
/-- an argument, by what is known of it -/
theorem cells_of_ok {P : Program} {w : World} {r : Reach} {base : Nat} {t : TypeId} {v : Value} (hA : isA P t = some false) (h : Value.okWide P w r base t v) : v.cells = #[v] := by
  cases v <;> try rfl
  exfalso
  unfold isA at hA
  unfold Value.okWide Cell.okWide Cell.ok at h
  generalize P.underlying t = d at *
  cases d with
  | none => simp at hA
  | some d => cases d <;> simp at hA h
theorem arg_of_rd {α H : Type} {enc : TypeId × Value → H} {P : Program} {t : TypeId} {f : α → AV} {V : α → Prop} {m : α → Nat} {S : α → Prop} (E : RdT P t f V m S) (hA : isA P t = some false) (hf : ∀ x, (f x).cells = [f x]) {w : World} {r : Reach} {base b2 : Nat} {sp : Nat → Bool} {held : Bool} {v : Value} {d : DataW H} {ps : List MemPlace}
    (hv : Value.okWide P w r base t v) (h : DataW.Trod enc P w b2 sp held t v d ps) (hz : Wok (d.weights P t)) : ∃ x, V x ∧ S x ∧ R w (fun _ => .tuple #[]) [] (f x) v := by
  obtain ⟨fuel, h⟩ := h
  rw [cells_of_ok hA hv] at h
  obtain ⟨x, h1, h2, h3, h4, h5⟩ := E.rd h
  exact ⟨x, h1, h2.2 hz, (h5 0 (f x) v (by rw [hf]; rfl) rfl).1⟩

set_option maxRecDepth 100000 in
/-- what a call that turns nothing leaves of a row -/
theorem post_of_gr {H : Type} {enc : TypeId × Value → H} {f : Func} {s : ChangeSpec} {W W' : World} {args : Array Value} {v : Value} {ds gs : List (DataW H)} {before : List MemPlace} {fresh handsOn again : Bool}
    (hvars : s.vars = []) (hty : ∀ t ∈ f.params.toList, Tryd.prog.readableRec t = true ∧ t < Tryd.prog.types.size)
    (hW : DataW.Whole enc Tryd.prog f.params.toList s.vars false W args.toList ds gs before) (g : Gr W W')
    (hfn : (s.fn H (ds ++ gs)).args = ds ∧ (s.fn H (ds ++ gs)).vars = [])
    (hres : ∀ (b : Nat) (sp : Nat → Bool) (hd : Bool), DataW.TrodAll enc Tryd.prog W' b sp hd f.resultTypes.toList (v.resultList f.resultTypes.size) (s.fn H (ds ++ gs)).results [])
    (hok : ∀ (j : Nat) (t : TypeId) (r : Value), f.resultTypes[j]? = some t → (v.resultList f.resultTypes.size)[j]? = some r → Value.okWide Tryd.prog W' .any 0 t r) :
    s.post enc Tryd.prog f false fresh handsOn again W args v W' := by
  have hlt := hW.lt
  have hW' := hW
  obtain ⟨p, q, hA, hV, hpq, hfz, hnd⟩ := hW'
  rw [hvars] at hV
  obtain ⟨rfl, rfl⟩ := trodVars_none hV
  rw [List.append_nil] at hpq
  subst hpq
  have hb : Below W.heap.size W W' := ⟨g.os, g.tape, g.output, g.size, fun k hk => g.block k hk (fun h => h)⟩
  have stays : ∀ (sp : Nat → Bool), (∀ x ∈ before, sp x.block = true) → DataW.TrodAll enc Tryd.prog W' 0 sp true f.params.toList args.toList ds before := by
    intro sp
    revert hA
    clear hfz hfn hres hok hW hnd
    generalize f.params.toList = ts at hty
    generalize args.toList = vs
    clear hV
    induction ts generalizing vs ds before with
    | nil =>
      intro hA _
      obtain ⟨h1, h2, h3⟩ := trodAll_nil hA
      subst h1 h2 h3
      exact trodAll_mk0
    | cons t ts ih =>
      intro hA hsp
      obtain ⟨v, vs', d, ds', p, q, rfl, rfl, rfl, h1, h2⟩ := trodAll_cons hA
      refine ⟨p, q, ?_, ?_, rfl⟩
      · exact WideElems.Trod_stays laid_out (hty t (by simp)).1 (hty t (by simp)).2 h1 (fun x hx => hb.same (hlt x (by simp [hx]))) (fun x hx => hsp x (by simp [hx]))
      · exact ih (fun x hx => hlt x (by simp [hx])) (fun t' ht' => hty t' (List.mem_cons_of_mem _ ht')) _ h2 (fun x hx => hsp x (by simp [hx]))
  have hold : ∀ x ∈ before, (fun b => decide (b < W.heap.size)) x.block = true := fun x hx => decide_eq_true (hlt x hx)
  refine ⟨ds, [], before, [], before, [], hW, hres _ _ _, by rw [hfn.1]; exact stays _ hold, by rw [hvars, hfn.2]; rfl, ?_, fun _ => ⟨hok, (s.fn H (ds ++ [])).results ++ ds, [], before, ?_, fun x hx _ => hx⟩⟩
  · exact hb.frame _
  · refine ⟨before, [], ?_, by rw [hvars]; rfl, (List.append_nil _).symm, fun b off hp => ?_, fun h => by cases h⟩
    · have := trodAll_append (stays (fun _ => true) (fun _ _ => rfl)) (hres 0 (fun _ => true) true)
      simpa using this
    · rw [hb.frozen (p := ⟨b, off, none⟩) (hlt _ hp)]
      exact hfz b off hp
/-- a law's contract makes its row's step -/
theorem step_of {f : FuncId} {args' : List AV} (h : CallOK Tryd.prog f args' (.bool true) []) {W : World} (hG : GW W) {vals : Array Value} (hs : vals.size = args'.length) (hr : ∀ (i : Nat) (x : AV) (v : Value), args'[i]? = some x → vals[i]? = some v → R W (fun _ => .tuple #[]) [] x v) :
    Calls Tryd.prog f vals W fun e W' => e = .returned (.bool true) ∧ Gr W W' :=
  (h.2.2.2 W vals hG hs hr).mono fun e w' ⟨v, φ, he, hg, _, hv⟩ => ⟨by rw [he]; cases hv; rfl, hg⟩
theorem bulk_all {H : Type} {l : List (DataW H)} (hk : Rows.uptoSmall H l = true) : Rows.uptoBulkAll l ≤ 1048576 := of_decide_eq_true hk
end Go.Proofs.YtecpgelhhbbjmaaDoor
