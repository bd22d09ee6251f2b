/- Av, part C: the operations that leave the memory alone: what each yields, told of abstract values; and that it does. -/
import Derived.Test.YteahieldmfehlaaDoorAvB
namespace Go.Av
open Go.RowKit
set_option linter.unusedVariables false

/-! what a program's table of types says, as functions that a seat's closed facts answer -/
def isA (P : Program) (t : TypeId) : Option Bool := match P.underlying t with
  | some (.struct _) => some true
  | some (.array _ _) => some true
  | some _ => some false
  | none => none
def szT (P : Program) (t : TypeId) : Option Nat := (P.info? t).map (·.size)
def elT (P : Program) (t : TypeId) : Option TypeId := match P.underlying t with
  | some (.slice e) => some e
  | _ => none
def fldI (P : Program) (t : TypeId) (i : Nat) : Option (Nat × TypeId) := match P.underlying t with
  | some (.struct fs) => (fs[i]?).map fun f => (f.offset, f.type)
  | _ => none
def isStr (P : Program) (t : TypeId) : Bool := match P.underlying t with
  | some .string => true
  | _ => false
def isBoolT (P : Program) (t : TypeId) : Bool := match P.underlying t with
  | some .bool => true
  | _ => false
def ikT (P : Program) (t : TypeId) : Option IntKind := match P.underlying t with
  | some (.int k) => some k
  | _ => none
theorem und_of_elT {P : Program} {t e : TypeId} (h : elT P t = some e) : P.underlying t = some (.slice e) := by
  unfold elT at h; split at h <;> simp_all
theorem und_of_isStr {P : Program} {t : TypeId} (h : isStr P t = true) : P.underlying t = some .string := by
  unfold isStr at h; split at h <;> simp_all
theorem und_of_isBoolT {P : Program} {t : TypeId} (h : isBoolT P t = true) : P.underlying t = some .bool := by
  unfold isBoolT at h; split at h <;> simp_all
theorem und_of_ikT {P : Program} {t : TypeId} {k : IntKind} (h : ikT P t = some k) : P.underlying t = some (.int k) := by
  unfold ikT at h; split at h <;> simp_all
theorem info_of_szT {P : Program} {t : TypeId} {s : Nat} (h : szT P t = some s) : ∃ i, P.info? t = some i ∧ i.size = s := by
  unfold szT at h; simpa using h
theorem run_sizeOf' {P : Program} {t : TypeId} {s : Nat} (h : szT P t = some s) (w : World) : (sizeOf t).run P w = .ok s w := by
  obtain ⟨i, h1, h2⟩ := info_of_szT h
  simp [sizeOf, typeInfo, h1, h2]
theorem run_isAgg' {P : Program} {t : TypeId} {b : Bool} (h : isA P t = some b) (w : World) : (isAgg t).run P w = .ok b w := by
  unfold isA at h
  unfold isAgg
  split at h <;> simp_all [run_underlying] <;> (try (subst h; simp [*, run_underlying]))

structure Ext (w w' : World) : Prop where
  size : w.heap.size ≤ w'.heap.size
  block : ∀ b, b < w.heap.size → w'.heap[b]? = w.heap[b]?
theorem Ext.refl (w : World) : Ext w w := ⟨Nat.le_refl _, fun _ _ => rfl⟩
theorem Ext.cell {w w' : World} (h : Ext w w') {a : Addr} {v : Value} (hc : w.cell? a = some v) : w'.cell? a = some v := by
  rw [← hc]; exact World.cell?_of_block (h.block a.block (block_lt_of_cell hc))

/-- the cells behind the pointer v read as cs -/
def RdP (w : World) (φ : Nat → Value) (H : List AO) (cs : List AV) (v : Value) : Prop :=
  ∃ b o, v = .pointer (some ⟨b, o, none⟩) ∧ ∀ (j : Nat) (c : AV), cs[j]? = some c → ∃ u, w.cell? ⟨b, o + j, none⟩ = some u ∧ u.oneCell' = true ∧ R w φ H c u

/- element i of xs is there: K of it -/
/- what stands behind, where 'simp' does not go: an instance argument is left as it is -/
class Ko (α : Type) where
  k : α
def GetK (xs : List AV) (i : Nat) [K : Ko (AV → Prop)] : Prop := ∃ x, xs[i]? = some x ∧ K.k x
def GetB (s : List UInt8) (i : Nat) [K : Ko (UInt8 → Prop)] : Prop := ∃ c, s[i]? = some c ∧ K.k c
/-- a test of a Bool: A where it is so -/
def guardK (b want : Bool) [A : Ko Prop] [B : Ko Prop] : Prop := (b = want → A.k) ∧ (b = !want → B.k)
theorem guardK_tt {A B : Prop} : @guardK true true ⟨A⟩ ⟨B⟩ = A := by simp [guardK]
theorem guardK_ff {A B : Prop} : @guardK false false ⟨A⟩ ⟨B⟩ = A := by simp [guardK]
theorem guardK_tf {A B : Prop} : @guardK true false ⟨A⟩ ⟨B⟩ = B := by simp [guardK]
theorem guardK_ft {A B : Prop} : @guardK false true ⟨A⟩ ⟨B⟩ = B := by simp [guardK]
theorem guard_is {b want : Bool} {A B : Prop} (h : b = want) (k : A) : @guardK b want ⟨A⟩ ⟨B⟩ := ⟨fun _ => k, fun e => by subst h; cases b <;> simp at e⟩
theorem guard_not {b want : Bool} {A B : Prop} (h : b = !want) (k : B) : @guardK b want ⟨A⟩ ⟨B⟩ := ⟨fun e => by subst e; cases b <;> simp at h, fun _ => k⟩
def Hold [K : Ko Prop] : Prop := K.k
def Hold2 (e : Nat → AV) (H : List AO) [K : Ko ((Nat → AV) → List AO → Prop)] : Prop := K.k e H
theorem hold {A : Prop} (h : A) : @Hold ⟨A⟩ := h
theorem hold2 {e : Nat → AV} {H : List AO} {k : (Nat → AV) → List AO → Prop} (h : k e H) : @Hold2 e H ⟨k⟩ := h
def ldP (H : List AO) (p : AV) (K : List AV → Prop) : Prop := match p with
  | .vptr x off => K (x.cells.drop off)
  | .optr id ver i off => match H[id]? with
    | some (.slice v _ _ xs) => v = ver ∧ @GetK xs i ⟨fun x => K (x.cells.drop off)⟩
    | _ => False
  | .bptr id off => match H[id]? with
    | some (.box _ cs) => K (cs.drop off)
    | _ => False
  | _ => False

theorem ownRow_cell {w : World} {E : TypeId} {size : Nat} {v : Value} {n : Nat} {cs : List Value} (h : OwnRow w E size v n cs) {g cap : Nat} (hv : v = .slice (some ⟨g, 0, none⟩) n cap) {k : Nat} {u : Value} (hu : cs[k]? = some u) :
    w.cell? ⟨g, k, none⟩ = some u := by
  rcases h.2.2 with ⟨rfl, _⟩ | ⟨g', cap', cur, fz, rfl, hg, _, _, _, _, htake⟩
  · simp at hv
  · simp at hv
    obtain ⟨rfl, rfl⟩ := hv
    rw [cell_of_row w g' k cur E fz hg]
    rw [← htake, List.getElem?_take] at hu
    split at hu
    · simpa using hu
    · cases hu

theorem ldP_sound {B : Nat} {X : Nat → Prop} {w0 w : World} {φ : Nat → Value} {H : List AO} (st : St B X w0 w φ H) {p : AV} {v : Value} (r : R w φ H p v) {K : List AV → Prop} (h : ldP H p K) :
    ∃ cs, K cs ∧ RdP w φ H cs v := by
  cases p <;> simp only [ldP] at h
  case vptr x off =>
    cases r with
    | vptr _ _ b o u hcl hb hl hc hr =>
      refine ⟨_, h, b, o, rfl, fun j c hj => ?_⟩
      rw [List.getElem?_drop] at hj
      exact ⟨u j, (hc j c hj).1, (hc j c hj).2, hr j c hj⟩
  case optr id ver i off =>
    rcases hH : H[id]? with _ | o
    · rw [hH] at h; exact h.elim
    · rw [hH] at h
      cases o with
      | slice ver' E size xs =>
        obtain ⟨rfl, x, hx, hk⟩ := h
        obtain ⟨cs, c1, c2, c3, c4⟩ := st.chunk id _ hH
        cases r with
        | optr _ _ _ _ _ hid _ _ hh =>
          obtain ⟨g, n, cap, e1, rfl⟩ := hh E size xs hH
          refine ⟨_, hk, g, _, rfl, fun j c hj => ?_⟩
          rw [List.getElem?_drop] at hj
          have hlen : cs.length = xs.length * size := c1.1
          have hi : i < xs.length := (List.getElem?_eq_some_iff.1 hx).1
          have hj' : off + j < size := by rw [← (c3 i x hx).2]; exact (List.getElem?_eq_some_iff.1 hj).1
          have hlt : i * size + (off + j) < cs.length := by
            rw [hlen]
            calc i * size + (off + j) < i * size + size := by omega
              _ = (i + 1) * size := by rw [Nat.add_mul, Nat.one_mul]
              _ ≤ xs.length * size := Nat.mul_le_mul_right _ hi
          obtain ⟨u, hu⟩ : ∃ u, cs[i * size + (off + j)]? = some u := ⟨_, List.getElem?_eq_getElem hlt⟩
          have hn : n = xs.length := by
            rcases c1.2.2 with ⟨e, _⟩ | ⟨g', cap', cur, fz, e, _⟩
            · rw [e1] at e; simp at e
            · rw [e1] at e; simp at e; exact e.2.1
          subst hn
          refine ⟨u, ?_, c1.2.1 u (List.mem_of_getElem? hu), c4 i x (off + j) c u hx hj hu⟩
          have := ownRow_cell c1 e1 hu
          rw [← Nat.add_assoc] at this
          exact this
      | box T cs => exact h.elim
      | iter _ _ => exact h.elim
      | gone => exact h.elim
  case bptr id off =>
    rcases hH : H[id]? with _ | o
    · rw [hH] at h; exact h.elim
    · rw [hH] at h
      cases o with
      | box T cs =>
        cases r with
        | bptr _ _ _ hid _ hh =>
          obtain ⟨g, e1, rfl⟩ := hh _ hH rfl
          obtain ⟨g', arr, c1, c2, c3, c4⟩ := st.chunk id _ hH
          rw [e1] at c1
          simp at c1
          subst c1
          refine ⟨_, h, g, off, rfl, fun j c hj => ?_⟩
          rw [List.getElem?_drop] at hj
          have hlt : off + j < arr.size := by rw [c3]; exact (List.getElem?_eq_some_iff.1 hj).1
          obtain ⟨u, hu⟩ : ∃ u, arr[off + j]? = some u := ⟨_, Array.getElem?_eq_getElem hlt⟩
          exact ⟨u, by rw [cell_of_row w g _ arr T _ c2]; exact hu, (c4 _ c u hj hu).2, (c4 _ c u hj hu).1⟩
      | slice v' E size xs => exact h.elim
      | iter _ _ => exact h.elim
      | gone => exact h.elim

def ldV (P : Program) (T : TypeId) (cs : List AV) (K : AV → Prop) : Prop := match isA P T with
  | some false => (match cs with
    | c :: _ => K c
    | [] => False)
  | some true => (match szT P T with
    | some s => s ≤ cs.length ∧ K (.agg (cs.take s))
    | none => False)
  | none => False

theorem add_lit (b o j : Nat) : (⟨b, o, none⟩ : Addr).add j = ⟨b, o + j, none⟩ := by unfold Addr.add; split <;> simp_all

theorem ldV_sound {P : Program} {w : World} {φ : Nat → Value} {H : List AO} {T : TypeId} {cs : List AV} {v : Value} (rd : RdP w φ H cs v) {K : AV → Prop} (h : ldV P T cs K) :
    ∃ x u, K x ∧ R w φ H x u ∧ ∀ w', Ext w w' → (Instr.loadAt T v).run P w' = .ok u w' := by
  obtain ⟨b, o, rfl, hrd⟩ := rd
  unfold ldV at h
  rcases hA : isA P T with _ | _ | _
  · rw [hA] at h; exact h.elim
  · rw [hA] at h
    cases cs with
    | nil => exact h.elim
    | cons c rest =>
      obtain ⟨u, h1, h2, h3⟩ := hrd 0 c (by simp)
      refine ⟨c, u, h, h3, fun w' hw => ?_⟩
      have := hw.cell h1
      simp only [Nat.add_zero] at this
      simp [Instr.loadAt, Instr.sureAddr, loadVar, run_isAgg' hA, this]
  · rw [hA] at h
    rcases hS : szT P T with _ | s
    · simp only [hS] at h
    simp only [hS] at h
    obtain ⟨hs, hk⟩ := h
    have hex : ∀ j : Nat, ∃ u, ∀ c, cs[j]? = some c → w.cell? ⟨b, o + j, none⟩ = some u ∧ u.oneCell' = true ∧ R w φ H c u := fun j => by
      rcases hc : cs[j]? with _ | c
      · exact ⟨undef, fun c h => by simp at h⟩
      · obtain ⟨u, hu⟩ := hrd j c hc
        exact ⟨u, fun c' h => by simp at h; subst h; exact hu⟩
    obtain ⟨f, hf⟩ := Classical.axiomOfChoice hex
    refine ⟨_, .agg ((List.range s).map f).toArray, hk, .agg _ _ (by simp; omega) (fun i x u hi hu => ?_), fun w' hw => ?_⟩
    · rw [List.getElem?_take] at hi
      split at hi
      · rename_i hlt
        have hu' : f i = u := by simpa [hlt] using hu
        rw [← hu']
        exact (hf i x hi).2.2
      · simp at hi
    · have hl := run_loadCells_list (P := P) (w := w') ⟨b, o, none⟩ ((List.range s).map f) (fun j v hv => by
        have hj : j < s := by
          have := (List.getElem?_eq_some_iff.1 hv).1
          simpa using this
        have hv' : f j = v := by simpa [hj] using hv
        obtain ⟨c, hc⟩ : ∃ c, cs[j]? = some c := ⟨_, List.getElem?_eq_getElem (by omega)⟩
        rw [add_lit, ← hv']
        exact hw.cell (hf j c hc).1)
      simp only [List.length_map, List.length_range] at hl
      simp [Instr.loadAt, Instr.sureAddr, loadVar, run_isAgg' hA, run_sizeOf' hS, hl]

end Go.Av
