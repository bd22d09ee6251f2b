/- Av, part F: 'sOp': what an operation yields that leaves the memory alone, and that it does ('sOp_sound'). -/
import Derived.Test.YteahieldmfehlaaDoorAvE
import Derived.Lib.Builder
namespace Go.Av
open Go.RowKit
set_option linter.unusedVariables false

/-- the elements of a slice value -/
def elemsV (H : List AO) (x : AV) (K : Nat → List AV → Prop) : Prop := match x with
  | .view sz xs => K sz xs
  | .viewx sz xs n => K sz (xs.take n)
  | .own id ver off len => (match H[id]? with
    | some (.slice v _ s xs) => v = ver ∧ K s ((xs.drop off).take len)
    | _ => False)
  | _ => False
/-- the slice value v holds the elements xs -/
def RdS (w : World) (φ : Nat → Value) (H : List AO) (s : Nat) (xs : List AV) (v : Value) : Prop :=
  ∃ ad cap, v = .slice ad xs.length cap ∧ xs.length ≤ cap ∧ (∀ (i : Nat) (x : AV), xs[i]? = some x → x.closed = true ∧ x.cells.length = s) ∧ (xs ≠ [] → ∃ b off, ad = some ⟨b, off, none⟩ ∧
    ∀ (i : Nat) (x : AV) (j : Nat) (c : AV), xs[i]? = some x → x.cells[j]? = some c → ∃ u, w.cell? ⟨b, off + i * s + j, none⟩ = some u ∧ u.oneCell' = true ∧ R w φ H c u)

section
variable {P : Program} {B : Nat} {X : Nat → Prop} {w0 w : World} {φ : Nat → Value} {H : List AO} {K : AV → Prop}

theorem elemsV_sound (st : St B X w0 w φ H) {x : AV} {v : Value} (r : R w φ H x v) {K : Nat → List AV → Prop} (h : elemsV H x K) : ∃ s xs, K s xs ∧ RdS w φ H s xs v := by
  cases x <;> simp only [elemsV] at h
  case view sz xs =>
    cases r with
    | view0 s ad cap => exact ⟨_, _, h, ad, cap, rfl, Nat.zero_le _, fun i x hi => by simp at hi, fun e => absurd rfl e⟩
    | view _ b off size cap u hcap hb hl hcl hs hc hr =>
      exact ⟨_, _, h, _, cap, rfl, hcap, fun i x hi => ⟨hcl i x hi, hs i x hi⟩, fun _ => ⟨b, off, rfl, fun i x j c hi hj => ⟨u i j, (hc i x j c hi hj).1, (hc i x j c hi hj).2, hr i x j c hi hj⟩⟩⟩
  case viewx sz xs n =>
    cases r with
    | viewx _ n b off size cap u hn hcap hb hl hcl hs hc hr =>
      have hlen : (xs.take n).length = n := by simp; omega
      have hget : ∀ (i : Nat) (x : AV), (xs.take n)[i]? = some x → xs[i]? = some x := fun i x hi => by
        rw [List.getElem?_take] at hi
        split at hi
        · exact hi
        · simp at hi
      exact ⟨_, _, h, _, cap, by rw [hlen], by omega, fun i x hi => ⟨hcl i x (hget i x hi), hs i x (hget i x hi)⟩, fun _ => ⟨b, off, rfl, fun i x j c hi hj => ⟨u i j, (hc i x j c (hget i x hi) hj).1, (hc i x j c (hget i x hi) hj).2, hr i x j c (hget i x hi) hj⟩⟩⟩
  case own id ver off len =>
    rcases hH : H[id]? with _ | o
    · simp [hH] at h
    cases o with
    | box T cs => simp [hH] at h
    | iter _ _ => simp [hH] at h
    | gone => simp [hH] at h
    | slice ver' E s xs =>
      simp only [hH] at h
      obtain ⟨rfl, hk⟩ := h
      obtain ⟨cs, c1, c2, c3, c4⟩ := st.chunk id _ hH
      have hget : ∀ (i : Nat) (x : AV), ((xs.drop off).take len)[i]? = some x → xs[off + i]? = some x := fun i x hi => by
        rw [List.getElem?_take] at hi
        split at hi
        · rw [List.getElem?_drop] at hi; exact hi
        · simp at hi
      cases r with
      | own _ _ _ _ _ hid _ _ hh =>
        obtain ⟨o1, o2⟩ := hh E s xs hH
        have hlen : ((xs.drop off).take len).length = len := by simp; omega
        refine ⟨_, _, hk, ?_⟩
        rcases o2 with ⟨f1, rfl, f3⟩ | ⟨g, cap, f1, f2, ad, rfl, f3, f4⟩
        · have : (xs.drop off).take len = [] := List.eq_nil_of_length_eq_zero (by rw [hlen]; omega)
          rw [this]
          exact ⟨none, 0, rfl, Nat.le_refl _, fun i x hi => by simp at hi, fun e => absurd rfl e⟩
        · refine ⟨ad, cap - off, by rw [hlen], by omega, fun i x hi => c3 _ x (hget i x hi), fun hne => ?_⟩
          have hpos : 0 < len := by
            rcases Nat.eq_zero_or_pos len with e | e
            · subst e; simp at hne
            · exact e
          refine ⟨g, off * s, f3 (by omega), fun i x j c hi hj => ?_⟩
          have hx := hget i x hi
          have hilt : off + i < xs.length := (List.getElem?_eq_some_iff.1 hx).1
          have hj' : j < s := by rw [← (c3 _ x hx).2]; exact (List.getElem?_eq_some_iff.1 hj).1
          have hlt : (off + i) * s + j < cs.length := by
            rw [c1.1]
            calc (off + i) * s + j < (off + i) * s + s := by omega
              _ = (off + i + 1) * s := by rw [Nat.add_mul (off + i), Nat.one_mul]
              _ ≤ xs.length * s := Nat.mul_le_mul_right _ hilt
          refine ⟨_, ?_, c1.2.1 _ (List.getElem_mem hlt), c4 _ x j c _ hx hj (List.getElem?_eq_getElem hlt)⟩
          have := ownRow_cell c1 f1 (List.getElem?_eq_getElem hlt)
          rw [show off * s + i * s + j = (off + i) * s + j by rw [Nat.add_mul]]
          exact this

/-! the bytes of a slice as a string -/
def BytesK (xs : List AV) [K : Ko (AV → Prop)] : Prop := ∃ bs : List UInt8, xs = bs.map encB ∧ K.k (.str bs)
def bytesV (P : Program) (src dst : TypeId) (H : List AO) (x : AV) (K : AV → Prop) : Prop :=
  isStr P dst = true ∧ (elT P src).bind (ikT P ·) = some .u8 ∧ elemsV H x fun _ xs => @BytesK xs ⟨K⟩

theorem run_conv_bytes {src dst : TypeId} (h1 : isStr P dst = true) (h2 : (elT P src).bind (ikT P ·) = some .u8) {bs : List UInt8} {v : Value} {s : Nat} (rd : RdS w φ H s (bs.map encB) v) :
    ∀ w', Ext w w' → (convert src dst v).run P w' = .ok (.string ⟨bs.toArray⟩) w' := by
  intro w' hw
  obtain ⟨E, hE, hk⟩ : ∃ E, elT P src = some E ∧ ikT P E = some .u8 := by simpa [Option.bind_eq_some_iff] using h2
  have u1 := und_of_elT hE
  have u2 := und_of_ikT hk
  have u3 := und_of_isStr h1
  obtain ⟨ad, cap, rfl, _, hcs, hrd⟩ := rd
  rcases bs with _ | ⟨b0, bs⟩
  · rcases ad with _ | a
    · exact run_convert_bytes_nil w' src E u1 u2 _ cap dst u3
    · have := run_bytesToString (P := P) w' a 0 cap [] (by simp [loadCells, loadCellsFrom])
      simp only [List.map_nil, List.length_nil]
      rw [run_convert_bytes_string w' src dst E _ 0 cap u1 u2 u3, this]
      rfl
  · obtain ⟨b, off, rfl, hc⟩ := hrd (by simp)
    have := run_convert_bytes_arg w' src E u1 u2 b off ((b0 :: bs).map encB).length cap ((b0 :: bs).map fun b => (b.toNat : Int)) (by simp) (fun i hi => by
      have hi' : i < (b0 :: bs).length := by simpa using hi
      obtain ⟨u, e1, _, e3⟩ := hc i (encB (b0 :: bs)[i]) 0 (encB (b0 :: bs)[i]) (by rw [List.getElem?_map, List.getElem?_eq_getElem hi']; rfl) (by simp [encB, AV.cells])
      have hs : s = 1 := by
        have := (hcs 0 (encB b0) (by simp)).2
        simpa [encB, AV.cells] using this.symm
      subst hs
      rw [Nat.mul_one, Nat.add_zero] at e1
      rw [hw.cell e1]
      have e4 : ((b0 :: bs).map fun b => (b.toNat : Int)).getD i 0 = ((b0 :: bs)[i].toNat : Int) := by
        rw [List.getD_eq_getElem?_getD, List.getElem?_map, List.getElem?_eq_getElem hi']; rfl
      rw [e4]
      generalize (b0 :: bs)[i] = z at e3
      unfold encB at e3
      cases e3
      rfl) dst u3
    rw [this]
    congr 2
    simp [strOfNums, Function.comp_def]

/-- a pointer to an unsafe.Pointer, or back, at the cell off of a variable of type T, of n cells -/
def unsOK (P : Program) (src dst T : TypeId) (n off : Nat) : Bool := match P.underlying src, P.underlying dst with
  | some (.pointer t), some .unsafePointer => (match P.info? t with
    | some j => j.size != 0
    | none => false) && decide (off < n)
  | some .unsafePointer, some (.pointer u) => (P.info? u).isSome && liesAt P P.depth T (n / P.cellsOf T) off u 1
  | _, _ => false
theorem unsOK_run {src dst T : TypeId} {n off g : Nat} (h : unsOK P src dst T n off = true) {w' : World} (hsh : w'.shape? g = some (T, n)) : (convert src dst (.pointer (some ⟨g, off, none⟩))).run P w' = .ok (.pointer (some ⟨g, off, none⟩)) w' := by
  unfold unsOK at h
  split at h
  · rename_i t h1 h2
    split at h
    · rename_i j hj
      simp only [Bool.and_eq_true, bne_iff_ne, decide_eq_true_eq] at h
      exact Lib.run_to_unsafe w' ⟨g, off, none⟩ h1 h2 hj h.1 hsh h.2
    · simp at h
  · rename_i u h1 h2
    simp only [Bool.and_eq_true] at h
    obtain ⟨j, hj⟩ := Option.isSome_iff_exists.1 h.1
    exact Lib.run_from_unsafe w' ⟨g, off, none⟩ h1 h2 hj hsh h.2
  · simp at h
/-- a number as one of another kind -/
def icv (k k' : IntKind) (n : Int) : Int := k'.wrap n
def convV (P : Program) (src dst : TypeId) (H : List AO) (x : AV) (K : AV → Prop) : Prop := match x with
  | .int k n => (match ikT P dst with
    | some k' => (isStr P dst = false) ∧ K (.int k' (icv k k' n))
    | none => False)
  | .str s => isStr P dst = true ∧ K (.str s)
  | .bptr id off => (match H[id]? with
    | some (.box T cs) => unsOK P src dst T cs.length off = true ∧ K (.bptr id off)
    | _ => False)
  | x => bytesV P src dst H x K

theorem convV_sound (st : St B X w0 w φ H) {src dst : TypeId} {x : AV} {v : Value} (r : R w φ H x v) (hsrc : (P.underlying src).isSome = true) (h : convV P src dst H x K) : Gives P w φ H K (convert src dst v) := by
  have hb : bytesV P src dst H x K → Gives P w φ H K (convert src dst v) := fun h => by
    obtain ⟨h1, h2, h3⟩ := h
    obtain ⟨s, xs, ⟨bs, rfl, hk⟩, rd⟩ := elemsV_sound st r h3
    exact ⟨_, _, hk, .str bs, run_conv_bytes h1 h2 rd⟩
  cases x
  case int k n =>
    cases r
    simp only [convV] at h
    rcases hk : ikT P dst with _ | k'
    · simp [hk] at h
    · simp only [hk] at h
      obtain ⟨_, h⟩ := h
      obtain ⟨d, hd⟩ := Option.isSome_iff_exists.1 hsrc
      have u := und_of_ikT hk
      refine .mk' _ _ h (.int _ _) fun w' => ?_
      cases d <;> simp [convert, run_underlying hd, run_underlying u, Conv.intToInt, icv]
  case str s =>
    cases r
    simp only [convV] at h
    obtain ⟨h1, h2⟩ := h
    obtain ⟨d, hd⟩ := Option.isSome_iff_exists.1 hsrc
    refine .mk' _ _ h2 (.str _) fun w' => ?_
    have u := und_of_isStr h1
    cases d <;> simp [convert, run_underlying hd, run_underlying u]
  case bptr id off =>
    simp only [convV] at h
    rcases hH : H[id]? with _ | o
    · simp [hH] at h
    cases o <;> simp only [hH] at h
    rename_i T cs
    obtain ⟨h1, hk⟩ := h
    obtain ⟨g, arr, c1, c2, c3, c4⟩ := st.chunk id _ hH
    have r' := r
    cases r with
    | bptr _ _ _ hid ho hh =>
      obtain ⟨g', e1, rfl⟩ := hh _ hH rfl
      rw [c1] at e1
      simp at e1
      subst e1
      refine ⟨_, _, hk, r', fun w' hw => ?_⟩
      refine unsOK_run h1 ?_
      have : w'.heap[g]? = w.heap[g]? := hw.block g (Array.getElem?_eq_some_iff.1 c2).1
      rw [World.shape?, this, c2, ← c3]
  all_goals exact hb h
end
end Go.Av
