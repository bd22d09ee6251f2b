/- Av, part M: a call's contract; a region's operations ('VO'); a function's contract out of its text. -/
import Derived.Test.YteahieldmfehlaaDoorAvL
namespace Go.Av
open Go.RowKit
set_option linter.unusedVariables false

mutual
/-- it holds no view: nothing of it lies in memory that is not ours -/
def AV.vf : AV → Bool
  | .dead | .sc _ | .int _ _ | .bool _ | .str _ | .own _ _ _ _ | .bptr _ _ => true
  | .view _ _ | .viewx _ _ _ | .vptr _ _ | .optr _ _ _ _ => false
  | .agg xs => AV.vfL xs
  | .tup xs => AV.vfL xs
  | .fn _ xs => AV.vfL xs
  | .iface _ x => x.vf
def AV.vfL : List AV → Bool
  | [] => true
  | x :: r => x.vf && AV.vfL r
end
theorem AV.vfL_get : ∀ (xs : List AV) (i : Nat) (x : AV), AV.vfL xs = true → xs[i]? = some x → x.vf = true
  | [], i, x, _, h => by simp at h
  | y :: r, 0, x, hc, h => by simp [AV.vfL] at hc h; rw [← h]; exact hc.1
  | y :: r, i + 1, x, hc, h => by simp [AV.vfL] at hc h; exact AV.vfL_get r i x hc.2 h
theorem AV.vf_cells {x : AV} (h : x.vf = true) {j : Nat} {c : AV} (hj : x.cells[j]? = some c) : c.vf = true := by
  cases x <;> simp only [AV.cells] at hj
  case agg xs => exact AV.vfL_get xs j c (by simpa [AV.vf] using h) hj
  all_goals
    match j, hj with
    | 0, hj => simp at hj; subst hj; exact h
    | j + 1, hj => simp at hj
def vfO : AO → Prop
  | .slice _ _ _ xs => ∀ x ∈ xs, x.vf = true
  | .box _ cs => ∀ x ∈ cs, x.vf = true
  | .iter _ _ => True
  | .gone => True

theorem R.free {w w' : World} {φ φ' : Nat → Value} {H H' : List AO} {x : AV} {v : Value} (r : R w φ H x v) : x.closed = true → x.vf = true → R w' φ' H' x v := by
  induction r with
  | dead v => exact fun _ _ => .dead v
  | sc v => exact fun _ _ => .sc v
  | int k n => exact fun _ _ => .int k n
  | bool b => exact fun _ _ => .bool b
  | str s => exact fun _ _ => .str s
  | view0 s ad cap => intro _ h; simp [AV.vf] at h
  | view xs b off size cap u hcap hb hl hcl hs hc hr ih => intro _ h; simp [AV.vf] at h
  | viewx xs n b off size cap u hn hcap hb hl hcl hs hc hr ih => intro _ h; simp [AV.vf] at h
  | own id ver off len v hid ho hv hh => intro h; simp [AV.closed] at h
  | vptr x off b o u hcl hb hl hc hr ih => intro _ h; simp [AV.vf] at h
  | optr id ver i off v hid ho hv hh => intro h; simp [AV.closed] at h
  | bptr id off v hid ho hh => intro h; simp [AV.closed] at h
  | agg xs us hs hr ih => exact fun h h' => .agg xs us hs (fun i x u hi hu => ih i x u hi hu (AV.closedL_get xs i x (by simpa [AV.closed] using h) hi) (AV.vfL_get xs i x (by simpa [AV.vf] using h') hi))
  | tup xs us hs hr ih => exact fun h h' => .tup xs us hs (fun i x u hi hu => ih i x u hi hu (AV.closedL_get xs i x (by simpa [AV.closed] using h) hi) (AV.vfL_get xs i x (by simpa [AV.vf] using h') hi))
  | fn f xs us hs hr ih => exact fun h h' => .fn f xs us hs (fun i x u hi hu => ih i x u hi hu (AV.closedL_get xs i x (by simpa [AV.closed] using h) hi) (AV.vfL_get xs i x (by simpa [AV.vf] using h') hi))
  | iface t x u hr ih => exact fun h h' => .iface t x u (ih (by simpa [AV.closed] using h) (by simpa [AV.vf] using h'))

/-- the objects that a call hands back lie from block B on -/
structure HeapOK (w : World) (B : Nat) (φ : Nat → Value) (H : List AO) : Prop where
  live : ∀ id o b, H[id]? = some o → o.live = true → vblk (φ id) = some b → B ≤ b ∧ b < w.heap.size
  inj : ∀ id id' o o' b, H[id]? = some o → o.live = true → H[id']? = some o' → o'.live = true → vblk (φ id) = some b → vblk (φ id') = some b → id = id'
  chunk : ∀ id o, H[id]? = some o → Chunk w φ H id o

/- THE CONTRACT: called with values that read as 'args' (alone), f returns what reads as 'ret', in new memory 'objs'; nothing that was there has turned. -/
/-- it is a function with a text -/
def plainFn (P : Program) (f : FuncId) : Prop := ∃ fn, P.funcs[f]? = some fn ∧ fn.body.isSome = true ∧ fn.name ≠ "runtime.NumGoroutine"
def CallOK (P : Program) (f : FuncId) (args : List AV) (ret : AV) (objs : List AO) : Prop :=
  plainFn P f ∧ ret.vf = true ∧ (∀ o ∈ objs, vfO o) ∧ ∀ (w : World) (vals : Array Value), GW w → vals.size = args.length → (∀ (i : Nat) (x : AV) (v : Value), args[i]? = some x → vals[i]? = some v → R w (fun _ => .tuple #[]) [] x v) →
    Calls P f vals w fun e w' => ∃ v φ, e = .returned v ∧ Gr w w' ∧ HeapOK w' w.heap.size φ objs ∧ R w' φ objs ret v

def sh1 (k : Nat) : AV → AV
  | .own id ver off len => .own (id + k) ver off len
  | .bptr id off => .bptr (id + k) off
  | x => if x.closed then x else .dead
def sh2 (k : Nat) : AV → AV
  | .agg xs => .agg (xs.map (sh1 k))
  | x => sh1 k x
def sh (k : Nat) : AV → AV
  | .tup xs => .tup (xs.map (sh2 k))
  | x => sh2 k x
def shO (k : Nat) : AO → AO
  | .slice v E s xs => .slice v E s xs
  | .box T cs => .box T (cs.map (sh1 k))
  | .iter s p => .iter s p
  | .gone => .gone
theorem shO_live (k : Nat) (o : AO) : (shO k o).live = o.live := by cases o <;> rfl

/-- how an argument is handed over: an own slice as a view of it -/
def arg (m : Bool) (H : List AO) : AV → AV
  | .own id ver off len => (match H[id]? with
    | some (.slice v _ s xs) => if v = ver then (if m then (if (xs.drop off).length = 0 then .dead else .viewx s (xs.drop off) len) else .view s ((xs.drop off).take len)) else .dead
    | _ => .dead)
  | .viewx s xs n => if m then .viewx s xs n else .view s (xs.take n)
  | .agg xs => if (AV.agg xs).closed then .agg xs else .dead
  | x => if x.closed then x else .dead

section
variable {P : Program} {B : Nat} {X : Nat → Prop} {w0 w : World} {φ : Nat → Value} {H : List AO}

theorem RdS.choose {s : Nat} {xs : List AV} {v : Value} (rd : RdS w φ H s xs v) : ∃ ad cap, v = .slice ad xs.length cap ∧ xs.length ≤ cap ∧ (xs ≠ [] → ∃ (b off : Nat) (u : Nat → Nat → Value), ad = some ⟨b, off, none⟩ ∧
    (∀ (i : Nat) (x : AV) (j : Nat) (c : AV), xs[i]? = some x → x.cells[j]? = some c → w.cell? ⟨b, off + i * s + j, none⟩ = some (u i j) ∧ (u i j).oneCell' = true) ∧
    ∀ (i : Nat) (x : AV) (j : Nat) (c : AV), xs[i]? = some x → x.cells[j]? = some c → R w φ H c (u i j)) := by
  obtain ⟨ad, cap, rfl, hc, hel, hne⟩ := rd
  refine ⟨ad, cap, rfl, hc, fun h => ?_⟩
  obtain ⟨b, off, rfl, hcell⟩ := hne h
  have hex : ∀ p : Nat × Nat, ∃ u, ∀ (x c : AV), xs[p.1]? = some x → x.cells[p.2]? = some c → w.cell? ⟨b, off + p.1 * s + p.2, none⟩ = some u ∧ u.oneCell' = true ∧ R w φ H c u := fun ⟨i, j⟩ => by
    rcases hx : xs[i]? with _ | x
    · exact ⟨undef, fun x c h => by simp at h⟩
    rcases hj : x.cells[j]? with _ | c
    · exact ⟨undef, fun x' c h h' => by simp at h; subst h; rw [hj] at h'; cases h'⟩
    · obtain ⟨u, hu⟩ := hcell i x j c hx hj
      exact ⟨u, fun x' c' h h' => by simp at h; subst h; rw [hj] at h'; simp at h'; subst h'; exact hu⟩
  obtain ⟨f, hf⟩ := Classical.axiomOfChoice hex
  exact ⟨b, off, fun i j => f (i, j), rfl, fun i x j c hi hj => ⟨(hf (i, j) x c hi hj).1, (hf (i, j) x c hi hj).2.1⟩, fun i x j c hi hj => (hf (i, j) x c hi hj).2.2⟩

theorem RdS.lt {s : Nat} {xs : List AV} {b off : Nat} {u : Nat → Nat → Value} (hs : 0 < s) (hel : ∀ (i : Nat) (x : AV), xs[i]? = some x → x.closed = true ∧ x.cells.length = s) (hne : xs ≠ [])
    (hc : ∀ (i : Nat) (x : AV) (j : Nat) (c : AV), xs[i]? = some x → x.cells[j]? = some c → w.cell? ⟨b, off + i * s + j, none⟩ = some (u i j) ∧ (u i j).oneCell' = true) : b < w.heap.size := by
  obtain ⟨x, r, rfl⟩ : ∃ x r, xs = x :: r := by cases xs with
    | nil => exact absurd rfl hne
    | cons x r => exact ⟨x, r, rfl⟩
  have h0 := (hel 0 x rfl).2
  obtain ⟨c, hcx⟩ : ∃ c, x.cells[0]? = some c := ⟨_, List.getElem?_eq_getElem (by omega)⟩
  exact block_lt_of_cell (hc 0 x 0 c rfl hcx).1

theorem arg_R (st : St B X w0 w φ H) (m : Bool) {x : AV} {v : Value} (r : R w φ H x v) : R w (fun _ => .tuple #[]) [] (arg m H x) v := by
  have hcl : ∀ y, R w φ H y v → R w (fun _ => .tuple #[]) [] (if y.closed then y else .dead) v := fun y ry => by
    by_cases hy : y.closed = true
    · rw [if_pos hy]; exact ry.alone hy
    · rw [if_neg hy]; exact .dead v
  cases x
  case own id ver off len =>
    simp only [arg]
    rcases hH : H[id]? with _ | o
    · exact .dead v
    cases o with
    | box _ _ => exact .dead v
    | iter _ _ => exact .dead v
    | gone => exact .dead v
    | slice ver' E s xs =>
      dsimp only
      by_cases hv : ver' = ver
      · rw [if_pos hv]
        subst hv
        obtain ⟨cs, c1, c2, c3, c4⟩ := st.chunk id _ hH
        cases m
        · simp only [Bool.false_eq_true, if_false]
          obtain ⟨s', ys, hys, rd⟩ := elemsV_sound (K := fun s' ys => s' = s ∧ ys = (xs.drop off).take len) st r (by simp [elemsV, hH])
          obtain ⟨rfl, rfl⟩ := hys
          have hel := rd
          obtain ⟨_, _, _, _, hel, _⟩ := hel
          obtain ⟨ad, cap, rfl, hcap, hne⟩ := rd.choose
          by_cases he : (xs.drop off).take len = []
          · rw [he]; exact .view0 _ _ _
          · obtain ⟨b, o, u, rfl, h1, h2⟩ := hne he
            have hb := RdS.lt c2 hel he h1
            exact .view _ b o s' cap u hcap hb (fun id o h => by simp at h) (fun i x hi => (hel i x hi).1) (fun i x hi => (hel i x hi).2) h1 (fun i x j c hi hj => (h2 i x j c hi hj).alone (AV.closed_cells (hel i x hi).1 hj))
        · simp only [if_true]
          by_cases he : (xs.drop off).length = 0
          · rw [if_pos he]; exact .dead v
          rw [if_neg he]
          cases r with
          | own _ _ _ _ _ hid _ hvv hh =>
            obtain ⟨o1, o2⟩ := hh E s xs hH
            rcases o2 with ⟨f1, rfl, f3⟩ | ⟨g, cap, f1, f2, ad, rfl, f3, f4⟩
            · simp at he; omega
            · have hle : off ≤ xs.length := by omega
              have r' : R w φ H (.own id ver' off (xs.length - off)) (.slice ad (xs.length - off) (cap - off)) := .own _ _ _ _ _ hid rfl hvv fun E2 s2 xs2 he2 => by
                rw [hH] at he2
                simp at he2
                obtain ⟨rfl, rfl, rfl⟩ := he2
                exact ⟨by omega, .inr ⟨g, cap, f1, f2, ad, rfl, f3, f4⟩⟩
              obtain ⟨s', ys, hys, rd⟩ := elemsV_sound (K := fun s' ys => s' = s ∧ ys = (xs.drop off).take (xs.length - off)) st r' (by simp [elemsV, hH])
              obtain ⟨rfl, rfl⟩ := hys
              rw [List.take_of_length_le (by simp)] at rd
              have hel := rd
              obtain ⟨_, _, _, _, hel, _⟩ := hel
              obtain ⟨ad', cap', e, hcap, hne⟩ := rd.choose
              have hne' : xs.drop off ≠ [] := fun e => he (by rw [e]; rfl)
              obtain ⟨b, o, u, rfl, h1, h2⟩ := hne hne'
              have hb := RdS.lt c2 hel hne' h1
              simp at e
              obtain ⟨rfl, rfl⟩ := e
              exact .viewx _ len b o s' _ u (by simp; omega) hcap hb (fun id o h => by simp at h) (fun i x hi => (hel i x hi).1) (fun i x hi => (hel i x hi).2) h1 (fun i x j c hi hj => (h2 i x j c hi hj).alone (AV.closed_cells (hel i x hi).1 hj))
      · rw [if_neg hv]; exact .dead v
  case viewx s xs n =>
    simp only [arg]
    cases m
    · simp only [Bool.false_eq_true, if_false]
      cases r with
      | viewx _ n b off size cap u hn hcap hb hl hcl2 hs hc hr =>
        have hlen : (xs.take n).length = n := by simp; omega
        have hget : ∀ (i : Nat) (x : AV), (xs.take n)[i]? = some x → xs[i]? = some x := fun i x hi => by
          rw [List.getElem?_take] at hi
          split at hi
          · exact hi
          · simp at hi
        have := R.view (w := w) (φ := φ) (H := H) (xs.take n) b off s cap u (by rw [hlen]; omega) hb hl (fun i x hi => hcl2 i x (hget i x hi)) (fun i x hi => hs i x (hget i x hi)) (fun i x j c hi hj => hc i x j c (hget i x hi) hj) (fun i x j c hi hj => hr i x j c (hget i x hi) hj)
        rw [hlen] at this
        exact this.alone rfl
    · simp only [if_true]
      exact r.alone rfl
  all_goals (simp only [arg]; exact hcl _ r)
end
end Go.Av
