/- Av, part E: slices and strings cut, read and told as strings. -/
import Derived.Test.YteahieldmfehlaaDoorAvD
import Derived.Laws.BytesArg
namespace Go.Av
open Go.RowKit
set_option linter.unusedVariables false

def szE (P : Program) (T : TypeId) : Option Nat := (elT P T).bind (szT P ·)
def iv : Option AV → Nat → Option Int
  | none, d => some d
  | some (.int _ n), _ => some n
  | _, _ => none
def encB (b : UInt8) : AV := .int .u8 b.toNat

theorem run_bounds {P : Program} {w : World} (b : Bool) (len cap : Nat) (lo hi : Option Value) (l h : Int) (hl : lo = none ∧ l = 0 ∨ ∃ k, lo = some (.int k l)) (hh : hi = none ∧ h = len ∨ ∃ k, hi = some (.int k h))
    (h0 : 0 ≤ l) (h1 : l ≤ h) (h2 : h ≤ (cap : Int)) : (Instr.sliceBounds b len cap lo hi none).run P w = .ok (l.toNat, h.toNat, cap) w := by
  have e1 : (h.toNat : Int) = h := Int.toNat_of_nonneg (by omega)
  have e2 : 0 ≤ h := by omega
  rcases hl with ⟨rfl, rfl⟩ | ⟨k, rfl⟩ <;> rcases hh with ⟨rfl, rfl⟩ | ⟨k', rfl⟩ <;>
    simp [Instr.sliceBounds, run_sliceBound, h0, h1, h2, e1, e2] <;> omega

theorem run_sliceAt_sl {P : Program} {T E : TypeId} {s : Nat} (hE : elT P T = some E) (hs : szT P E = some s) (w : World) (ad : Option Addr) (len cap : Nat) (lo hi : Option Value) (l h : Int) (hl : lo = none ∧ l = 0 ∨ ∃ k, lo = some (.int k l)) (hh : hi = none ∧ h = len ∨ ∃ k, hi = some (.int k h))
    (h0 : 0 ≤ l) (h1 : l ≤ h) (h2 : h ≤ cap) :
    (Instr.sliceAt T (.slice ad len cap) lo hi none).run P w = .ok (.slice (if cap = l.toNat then ad else ad.map (·.add (l.toNat * s))) (h.toNat - l.toNat) (cap - l.toNat)) w := by
  have hu := und_of_elT hE
  simp only [Instr.sliceAt, Sem.run_bind, run_underlying hu, Result.andThen_ok, Instr.slice, run_bounds true len cap lo hi l h hl hh h0 h1 h2, run_sizeOf' hs, Sem.run_pure]

theorem run_sliceAt_str {P : Program} {T : TypeId} (hT : isStr P T = true) (w : World) (s : ByteArray) (lo hi : Option Value) (l h : Int) (hl : lo = none ∧ l = 0 ∨ ∃ k, lo = some (.int k l)) (hh : hi = none ∧ h = s.size ∨ ∃ k, hi = some (.int k h))
    (h0 : 0 ≤ l) (h1 : l ≤ h) (h2 : h ≤ s.size) :
    (Instr.sliceAt T (.string s) lo hi none).run P w = .ok (.string (s.extract l.toNat h.toNat)) w := by
  have hu := und_of_isStr hT
  simp [Instr.sliceAt, run_underlying hu, Instr.slice, run_bounds false s.size s.size lo hi l h hl hh h0 h1 h2]

/-- a piece of a list -/
def slL {α : Type} (xs : List α) (lo hi : Int) : Option (List α) := if 0 ≤ lo ∧ lo ≤ hi ∧ hi ≤ xs.length then some ((xs.take hi.toNat).drop lo.toNat) else none
def SlS (s : List UInt8) (l h : Int) [K : Ko (AV → Prop)] : Prop := ∃ r, slL s l h = some r ∧ K.k (.str r)
def SlV (sz : Nat) (xs : List AV) (l h : Int) [K : Ko (AV → Prop)] : Prop := ∃ r, slL xs l h = some r ∧ K.k (.view sz r)
/-- a piece of an own slice of n places from off on -/
def SlO (n off : Nat) (l h : Int) [K : Ko (Nat → Nat → Prop)] : Prop := 0 ≤ l ∧ l ≤ h ∧ off + h ≤ n ∧ K.k (off + l.toNat) (h - l).toNat
def ivl : Option AV → Option Int
  | none => some 0
  | some (.int _ n) => some n
  | _ => none
theorem ivl_eq (x : Option AV) : ivl x = iv x 0 := by
  unfold ivl iv; split <;> first | rfl | simp_all
def slV (P : Program) (T : TypeId) (H : List AO) (x : AV) (lo hi : Option AV) (K : AV → Prop) : Prop := match x with
  | .str s => isStr P T = true ∧ (match ivl lo, iv hi s.length with
    | some l, some h => @SlS s l h ⟨K⟩
    | _, _ => False)
  | .view sz xs => szE P T = some sz ∧ (match ivl lo, iv hi xs.length with
    | some l, some h => @SlV sz xs l h ⟨K⟩
    | _, _ => False)
  | .viewx sz xs n => szE P T = some sz ∧ (match ivl lo, iv hi n with
    | some l, some h => @SlV sz xs l h ⟨K⟩
    | _, _ => False)
  | .own id ver off len => (match H[id]? with
    | some (.slice v _ s xs) => v = ver ∧ szE P T = some s ∧ (match ivl lo, iv hi len with
      | some l, some h => @SlO xs.length off l h ⟨fun o n => K (.own id ver o n)⟩
      | _, _ => False)
    | _ => False)
  | _ => False

theorem iv_spec {w : World} {φ : Nat → Value} {H : List AO} {x : Option AV} {v : Option Value} {d : Nat} {l : Int} (hr : ∀ y u, x = some y → v = some u → R w φ H y u) (hn : x = none ↔ v = none) (h : iv x d = some l) :
    v = none ∧ l = d ∨ ∃ k, v = some (.int k l) := by
  rcases x with _ | y
  · simp only [iv, Option.some.injEq] at h
    exact .inl ⟨hn.1 rfl, h.symm⟩
  · rcases v with _ | u
    · simp at hn
    · cases y <;> simp only [iv, Option.some.injEq, reduceCtorEq] at h
      rename_i k n
      subst h
      cases hr _ u rfl rfl
      exact .inr ⟨k, rfl⟩

section
variable {P : Program} {B : Nat} {X : Nat → Prop} {w0 w : World} {φ : Nat → Value} {H : List AO} {K : AV → Prop}

theorem view_cut {xs : List AV} {s b off cap : Nat} {u : Nat → Nat → Value} (hcap : xs.length ≤ cap) (hb : b < w.heap.size) (hl : NL φ H b) (hcl : ∀ (i : Nat) (x : AV), xs[i]? = some x → x.closed = true) (hs : ∀ (i : Nat) (x : AV), xs[i]? = some x → x.cells.length = s)
    (hc : ∀ (i : Nat) (x : AV) (j : Nat) (c : AV), xs[i]? = some x → x.cells[j]? = some c → w.cell? ⟨b, off + i * s + j, none⟩ = some (u i j) ∧ (u i j).oneCell' = true)
    (hr : ∀ (i : Nat) (x : AV) (j : Nat) (c : AV), xs[i]? = some x → x.cells[j]? = some c → R w φ H c (u i j)) (l h : Nat) (h1 : l ≤ h) (h2 : h ≤ xs.length) :
    R w φ H (.view s ((xs.take h).drop l)) (.slice (if cap = l then some ⟨b, off, none⟩ else (some ⟨b, off, none⟩ : Option Addr).map (·.add (l * s))) (h - l) (cap - l)) := by
  have hlen : ((xs.take h).drop l).length = h - l := by simp; omega
  by_cases he : h = l
  · have : (xs.take h).drop l = [] := List.eq_nil_of_length_eq_zero (by rw [hlen]; omega)
    rw [this, he, Nat.sub_self]
    exact .view0 _ _ _
  · have hne : ¬ cap = l := by omega
    rw [if_neg hne, Option.map_some, add_lit]
    have hget : ∀ (i : Nat) (x : AV), ((xs.take h).drop l)[i]? = some x → xs[l + i]? = some x := fun i x hi => by
      rw [List.getElem?_drop, List.getElem?_take] at hi
      split at hi
      · exact hi
      · simp at hi
    have := R.view (w := w) (φ := φ) (H := H) ((xs.take h).drop l) b (off + l * s) s (cap - l) (fun i j => u (l + i) j) (by rw [hlen]; omega) hb hl (fun i x hi => hcl _ x (hget i x hi)) (fun i x hi => hs _ x (hget i x hi))
      (fun i x j c hi hj => by
        have := hc (l + i) x j c (hget i x hi) hj
        rw [show off + l * s + i * s + j = off + (l + i) * s + j by rw [Nat.add_mul]; omega]
        exact this)
      (fun i x j c hi hj => hr (l + i) x j c (hget i x hi) hj)
    rw [hlen] at this
    exact this

theorem slV_sound (st : St B X w0 w φ H) {T : TypeId} {x : AV} {v : Value} (r : R w φ H x v) {lo hi : Option AV} {lv hv : Option Value}
    (hlr : ∀ y u, lo = some y → lv = some u → R w φ H y u) (hln : lo = none ↔ lv = none) (hhr : ∀ y u, hi = some y → hv = some u → R w φ H y u) (hhn : hi = none ↔ hv = none)
    (h : slV P T H x lo hi K) : Gives P w φ H K (Instr.sliceAt T v lv hv none) := by
  cases x <;> simp only [slV, ivl_eq] at h
  case str s =>
    cases r
    obtain ⟨hT, h⟩ := h
    rcases hL : iv lo 0 with _ | l
    · simp [hL] at h
    rcases hI : iv hi s.length with _ | hh
    · simp [hL, hI] at h
    simp only [hL, hI] at h
    obtain ⟨r0, h, hk⟩ := h
    unfold slL at h
    split at h <;> simp only [Option.some.injEq, reduceCtorEq] at h
    rename_i h012
    obtain ⟨h0, h1, h2⟩ := h012
    subst h
    have e1 := iv_spec hlr hln hL
    have e2 := iv_spec hhr hhn hI
    refine .mk' _ _ hk (.str _) fun w' => ?_
    rw [run_sliceAt_str hT w' ⟨s.toArray⟩ lv hv l hh (by simpa using e1) (by simpa [ByteArray.size] using e2) h0 h1 (by simpa [ByteArray.size] using h2)]
    congr 2
    apply ByteArray.ext
    apply Array.ext'
    simp [ByteArray.data_extract, List.take_drop]
    congr 2
    omega
  case view sz xs =>
    obtain ⟨hsz, h⟩ := h
    rcases hL : iv lo 0 with _ | l
    · simp [hL] at h
    rcases hI : iv hi xs.length with _ | hh
    · simp [hL, hI] at h
    simp only [hL, hI] at h
    obtain ⟨r0, h, hk⟩ := h
    unfold slL at h
    split at h <;> simp only [Option.some.injEq, reduceCtorEq] at h
    rename_i h012
    obtain ⟨h0, h1, h2⟩ := h012
    subst h
    have e1 := iv_spec hlr hln hL
    have e2 := iv_spec hhr hhn hI
    obtain ⟨E, hE, hs⟩ : ∃ E, elT P T = some E ∧ szT P E = some sz := by simpa [szE, Option.bind_eq_some_iff] using hsz
    cases r with
    | view0 s ad cap =>
      simp at h2 e2
      have : hh = 0 := by omega
      subst this
      have : l = 0 := by omega
      subst this
      refine ⟨_, _, hk, ?_, fun w' _ => run_sliceAt_sl hE hs w' ad 0 cap lv hv 0 0 (by simpa using e1) (by simpa using e2) (by omega) (by omega) (by omega)⟩
      exact .view0 _ _ _
    | view _ b off size cap u hcap hb hl hcl hs' hc hr =>
      refine ⟨_, _, hk, ?_, fun w' _ => run_sliceAt_sl hE hs w' _ xs.length cap lv hv l hh (by simpa using e1) e2 h0 h1 (by omega)⟩
      exact view_cut hcap hb hl hcl hs' hc hr l.toNat hh.toNat (by omega) (by omega)
  case viewx sz xs n =>
    obtain ⟨hsz, h⟩ := h
    rcases hL : iv lo 0 with _ | l
    · simp [hL] at h
    rcases hI : iv hi n with _ | hh
    · simp [hL, hI] at h
    simp only [hL, hI] at h
    obtain ⟨r0, h, hk⟩ := h
    unfold slL at h
    split at h <;> simp only [Option.some.injEq, reduceCtorEq] at h
    rename_i h012
    obtain ⟨h0, h1, h2⟩ := h012
    subst h
    have e1 := iv_spec hlr hln hL
    have e2 := iv_spec hhr hhn hI
    obtain ⟨E, hE, hs⟩ : ∃ E, elT P T = some E ∧ szT P E = some sz := by simpa [szE, Option.bind_eq_some_iff] using hsz
    cases r with
    | viewx _ n b off size cap u hn hcap hb hl hcl hs' hc hr =>
      refine ⟨_, _, hk, ?_, fun w' _ => run_sliceAt_sl hE hs w' _ n cap lv hv l hh (by simpa using e1) e2 h0 h1 (by omega)⟩
      exact view_cut hcap hb hl hcl hs' hc hr l.toNat hh.toNat (by omega) (by omega)
  case own id ver off len =>
    rcases hH : H[id]? with _ | o
    · simp [hH] at h
    cases o with
    | box T cs => simp [hH] at h
    | iter _ _ => simp [hH] at h
    | gone => simp [hH] at h
    | slice ver' E' s xs =>
      simp only [hH] at h
      obtain ⟨rfl, hsz, h⟩ := h
      rcases hL : iv lo 0 with _ | l
      · simp [hL] at h
      rcases hI : iv hi len with _ | hh
      · simp [hL, hI] at h
      simp only [hL, hI] at h
      obtain ⟨h0, h1, h2, hk⟩ := h
      have e1 := iv_spec hlr hln hL
      have e2 := iv_spec hhr hhn hI
      obtain ⟨E, hE, hs⟩ : ∃ E, elT P T = some E ∧ szT P E = some s := by simpa [szE, Option.bind_eq_some_iff] using hsz
      cases r with
      | own _ _ _ _ _ hid _ hvv hh' =>
        obtain ⟨o1, o2⟩ := hh' E' s xs hH
        obtain ⟨cs, c1, _⟩ := st.chunk id _ hH
        rcases o2 with ⟨f1, rfl, f3⟩ | ⟨g, cap, f1, f2, ad, rfl, f3, f4⟩
        · have hl0 : len = 0 := by omega
          have : hh = 0 := by omega
          subst this
          have : l = 0 := by omega
          subst this
          subst hl0
          refine ⟨_, _, hk, ?_, fun w' _ => run_sliceAt_sl hE hs w' none 0 0 lv hv 0 0 (by simpa using e1) (by simpa using e2) (by omega) (by omega) (by omega)⟩
          refine .own _ _ _ _ _ hid rfl hvv fun E2 s2 xs2 he => ?_
          rw [hH] at he
          simp at he
          obtain ⟨rfl, rfl, rfl⟩ := he
          refine ⟨by simp; omega, .inl ⟨f1, by simp, f3⟩⟩
        · refine ⟨_, _, hk, ?_, fun w' _ => run_sliceAt_sl hE hs w' ad len (cap - off) lv hv l hh (by simpa using e1) e2 h0 h1 (by omega)⟩
          refine .own _ _ _ _ _ hid rfl hvv fun E2 s2 xs2 he => ?_
          rw [hH] at he
          simp at he
          obtain ⟨rfl, rfl, rfl⟩ := he
          refine ⟨by omega, .inr ⟨g, cap, f1, f2, _, by congr 1 <;> omega, fun hlt => ?_, fun h00 => ?_⟩⟩
          · rw [if_neg (by omega), f3 (by omega), Option.map_some, add_lit]
            rw [Nat.add_mul]
          · have e0 : off = 0 := by omega
            have e1 : l.toNat = 0 := by omega
            rw [f4 e0, e1]
            split
            · rfl
            · simp [add_lit]
end
end Go.Av
