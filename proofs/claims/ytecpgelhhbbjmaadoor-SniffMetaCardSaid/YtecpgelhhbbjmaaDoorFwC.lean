/- Av, part M: a call's contract; a region's operations ('VO'); a function's contract out of its text. -/
import Derived.Test.YtecpgelhhbbjmaaDoorFwB
import Derived.Laws.Externs
import Derived.StillTail
namespace Go.Av
open Go.RowKit
set_option linter.unusedVariables false

mutual
/-- it holds no view: nothing of it lies in memory that is not ours -/
def AV.vf : AV → Bool
  | .dead | .sc _ | .int _ _ | .bool _ | .str _ | .own _ _ _ _ | .bptr _ _ => true
  | .view _ _ | .viewx _ _ _ | .vptr _ _ | .optr _ _ _ _ => false
  | .agg xs => AV.vfL xs
  | .tup xs => AV.vfL xs
  | .fn _ xs => AV.vfL xs
  | .iface _ x => x.vf
def AV.vfL : List AV → Bool
  | [] => true
  | x :: r => x.vf && AV.vfL r
end
theorem AV.vfL_get : ∀ (xs : List AV) (i : Nat) (x : AV), AV.vfL xs = true → xs[i]? = some x → x.vf = true
  | [], i, x, _, h => by simp at h
  | y :: r, 0, x, hc, h => by simp [AV.vfL] at hc h; rw [← h]; exact hc.1
  | y :: r, i + 1, x, hc, h => by simp [AV.vfL] at hc h; exact AV.vfL_get r i x hc.2 h
theorem AV.vf_cells {x : AV} (h : x.vf = true) {j : Nat} {c : AV} (hj : x.cells[j]? = some c) : c.vf = true := by
  cases x <;> simp only [AV.cells] at hj
  case agg xs => exact AV.vfL_get xs j c (by simpa [AV.vf] using h) hj
  all_goals
    match j, hj with
    | 0, hj => simp at hj; subst hj; exact h
    | j + 1, hj => simp at hj
def vfO : AO → Prop
  | .slice _ _ _ xs => ∀ x ∈ xs, x.vf = true
  | .box _ cs => ∀ x ∈ cs, x.vf = true
  | .iter _ _ => True
  | .gone => True

theorem R.free {w w' : World} {φ φ' : Nat → Value} {H H' : List AO} {x : AV} {v : Value} (r : R w φ H x v) : x.closed = true → x.vf = true → R w' φ' H' x v := by
  induction r with
  | dead v => exact fun _ _ => .dead v
  | sc v => exact fun _ _ => .sc v
  | int k n => exact fun _ _ => .int k n
  | bool b => exact fun _ _ => .bool b
  | str s => exact fun _ _ => .str s
  | view0 s ad cap => intro _ h; simp [AV.vf] at h
  | view xs b off size cap u hcap hb hl hcl hs hc hr ih => intro _ h; simp [AV.vf] at h
  | viewx xs n b off size cap u hn hcap hb hl hcl hs hc hr ih => intro _ h; simp [AV.vf] at h
  | own id ver off len v hid ho hv hh => intro h; simp [AV.closed] at h
  | vptr x off b o u hcl hb hl hc hr ih => intro _ h; simp [AV.vf] at h
  | optr id ver i off v hid ho hv hh => intro h; simp [AV.closed] at h
  | bptr id off v hid ho hh => intro h; simp [AV.closed] at h
  | agg xs us hs hr ih => exact fun h h' => .agg xs us hs (fun i x u hi hu => ih i x u hi hu (AV.closedL_get xs i x (by simpa [AV.closed] using h) hi) (AV.vfL_get xs i x (by simpa [AV.vf] using h') hi))
  | tup xs us hs hr ih => exact fun h h' => .tup xs us hs (fun i x u hi hu => ih i x u hi hu (AV.closedL_get xs i x (by simpa [AV.closed] using h) hi) (AV.vfL_get xs i x (by simpa [AV.vf] using h') hi))
  | fn f xs us hs hr ih => exact fun h h' => .fn f xs us hs (fun i x u hi hu => ih i x u hi hu (AV.closedL_get xs i x (by simpa [AV.closed] using h) hi) (AV.vfL_get xs i x (by simpa [AV.vf] using h') hi))
  | iface t x u hr ih => exact fun h h' => .iface t x u (ih (by simpa [AV.closed] using h) (by simpa [AV.vf] using h'))

/-- the objects that a call hands back lie from block B on -/
structure HeapOK (w : World) (B : Nat) (φ : Nat → Value) (H : List AO) : Prop where
  live : ∀ id o b, H[id]? = some o → o.live = true → vblk (φ id) = some b → B ≤ b ∧ b < w.heap.size
  inj : ∀ id id' o o' b, H[id]? = some o → o.live = true → H[id']? = some o' → o'.live = true → vblk (φ id) = some b → vblk (φ id') = some b → id = id'
  chunk : ∀ id o, H[id]? = some o → Chunk w φ H id o

/- THE CONTRACT: called with values that read as 'args' (alone), f returns what reads as 'ret', in new memory 'objs'; nothing that was there has turned. -/
/-- it is a function with a text -/
def plainFn (P : Program) (f : FuncId) : Prop := ∃ fn, P.funcs[f]? = some fn ∧ fn.body.isSome = true ∧ fn.name ≠ "runtime.NumGoroutine"
def CallOK (P : Program) (f : FuncId) (args : List AV) (ret : AV) (objs : List AO) : Prop :=
  plainFn P f ∧ ret.vf = true ∧ (∀ o ∈ objs, vfO o) ∧ ∀ (w : World) (vals : Array Value), GW w → vals.size = args.length → (∀ (i : Nat) (x : AV) (v : Value), args[i]? = some x → vals[i]? = some v → R w (fun _ => .tuple #[]) [] x v) →
    Calls P f vals w fun e w' => ∃ v φ, e = .returned v ∧ Gr w w' ∧ HeapOK w' w.heap.size φ objs ∧ R w' φ objs ret v

def sh1 (k : Nat) : AV → AV
  | .own id ver off len => .own (id + k) ver off len
  | .bptr id off => .bptr (id + k) off
  | x => if x.closed then x else .dead
def sh2 (k : Nat) : AV → AV
  | .agg xs => .agg (xs.map (sh1 k))
  | x => sh1 k x
def sh (k : Nat) : AV → AV
  | .tup xs => .tup (xs.map (sh2 k))
  | x => sh2 k x
def shO (k : Nat) : AO → AO
  | .slice v E s xs => .slice v E s xs
  | .box T cs => .box T (cs.map (sh1 k))
  | .iter s p => .iter s p
  | .gone => .gone
theorem shO_live (k : Nat) (o : AO) : (shO k o).live = o.live := by cases o <;> rfl

/-- how an argument is handed over: an own slice as a view of it -/
def arg (m : Bool) (H : List AO) : AV → AV
  | .own id ver off len => (match H[id]? with
    | some (.slice v _ s xs) => if v = ver then (if m then (if (xs.drop off).length = 0 then .dead else .viewx s (xs.drop off) len) else .view s ((xs.drop off).take len)) else .dead
    | _ => .dead)
  | .viewx s xs n => if m then .viewx s xs n else .view s (xs.take n)
  | .agg xs => if (AV.agg xs).closed then .agg xs else .dead
  | x => if x.closed then x else .dead

section
variable {P : Program} {B : Nat} {X : Nat → Prop} {w0 w : World} {φ : Nat → Value} {H : List AO}

theorem RdS.choose {s : Nat} {xs : List AV} {v : Value} (rd : RdS w φ H s xs v) : ∃ ad cap, v = .slice ad xs.length cap ∧ xs.length ≤ cap ∧ (xs ≠ [] → ∃ (b off : Nat) (u : Nat → Nat → Value), ad = some ⟨b, off, none⟩ ∧
    (∀ (i : Nat) (x : AV) (j : Nat) (c : AV), xs[i]? = some x → x.cells[j]? = some c → w.cell? ⟨b, off + i * s + j, none⟩ = some (u i j) ∧ (u i j).oneCell' = true) ∧
    ∀ (i : Nat) (x : AV) (j : Nat) (c : AV), xs[i]? = some x → x.cells[j]? = some c → R w φ H c (u i j)) := by
  obtain ⟨ad, cap, rfl, hc, hel, hne⟩ := rd
  refine ⟨ad, cap, rfl, hc, fun h => ?_⟩
  obtain ⟨b, off, rfl, hcell⟩ := hne h
  have hex : ∀ p : Nat × Nat, ∃ u, ∀ (x c : AV), xs[p.1]? = some x → x.cells[p.2]? = some c → w.cell? ⟨b, off + p.1 * s + p.2, none⟩ = some u ∧ u.oneCell' = true ∧ R w φ H c u := fun ⟨i, j⟩ => by
    rcases hx : xs[i]? with _ | x
    · exact ⟨undef, fun x c h => by simp at h⟩
    rcases hj : x.cells[j]? with _ | c
    · exact ⟨undef, fun x' c h h' => by simp at h; subst h; rw [hj] at h'; cases h'⟩
    · obtain ⟨u, hu⟩ := hcell i x j c hx hj
      exact ⟨u, fun x' c' h h' => by simp at h; subst h; rw [hj] at h'; simp at h'; subst h'; exact hu⟩
  obtain ⟨f, hf⟩ := Classical.axiomOfChoice hex
  exact ⟨b, off, fun i j => f (i, j), rfl, fun i x j c hi hj => ⟨(hf (i, j) x c hi hj).1, (hf (i, j) x c hi hj).2.1⟩, fun i x j c hi hj => (hf (i, j) x c hi hj).2.2⟩

theorem RdS.lt {s : Nat} {xs : List AV} {b off : Nat} {u : Nat → Nat → Value} (hs : 0 < s) (hel : ∀ (i : Nat) (x : AV), xs[i]? = some x → x.closed = true ∧ x.cells.length = s) (hne : xs ≠ [])
    (hc : ∀ (i : Nat) (x : AV) (j : Nat) (c : AV), xs[i]? = some x → x.cells[j]? = some c → w.cell? ⟨b, off + i * s + j, none⟩ = some (u i j) ∧ (u i j).oneCell' = true) : b < w.heap.size := by
  obtain ⟨x, r, rfl⟩ : ∃ x r, xs = x :: r := by cases xs with
    | nil => exact absurd rfl hne
    | cons x r => exact ⟨x, r, rfl⟩
  have h0 := (hel 0 x rfl).2
  obtain ⟨c, hcx⟩ : ∃ c, x.cells[0]? = some c := ⟨_, List.getElem?_eq_getElem (by omega)⟩
  exact block_lt_of_cell (hc 0 x 0 c rfl hcx).1

theorem arg_R (st : St B X w0 w φ H) (m : Bool) {x : AV} {v : Value} (r : R w φ H x v) : R w (fun _ => .tuple #[]) [] (arg m H x) v := by
  have hcl : ∀ y, R w φ H y v → R w (fun _ => .tuple #[]) [] (if y.closed then y else .dead) v := fun y ry => by
    by_cases hy : y.closed = true
    · rw [if_pos hy]; exact ry.alone hy
    · rw [if_neg hy]; exact .dead v
  cases x
  case own id ver off len =>
    simp only [arg]
    rcases hH : H[id]? with _ | o
    · exact .dead v
    cases o with
    | box _ _ => exact .dead v
    | iter _ _ => exact .dead v
    | gone => exact .dead v
    | slice ver' E s xs =>
      dsimp only
      by_cases hv : ver' = ver
      · rw [if_pos hv]
        subst hv
        obtain ⟨cs, c1, c2, c3, c4⟩ := st.chunk id _ hH
        cases m
        · simp only [Bool.false_eq_true, if_false]
          obtain ⟨s', ys, hys, rd⟩ := elemsV_sound (K := fun s' ys => s' = s ∧ ys = (xs.drop off).take len) st r (by simp [elemsV, hH])
          obtain ⟨rfl, rfl⟩ := hys
          have hel := rd
          obtain ⟨_, _, _, _, hel, _⟩ := hel
          obtain ⟨ad, cap, rfl, hcap, hne⟩ := rd.choose
          by_cases he : (xs.drop off).take len = []
          · rw [he]; exact .view0 _ _ _
          · obtain ⟨b, o, u, rfl, h1, h2⟩ := hne he
            have hb := RdS.lt c2 hel he h1
            exact .view _ b o s' cap u hcap hb (fun id o h => by simp at h) (fun i x hi => (hel i x hi).1) (fun i x hi => (hel i x hi).2) h1 (fun i x j c hi hj => (h2 i x j c hi hj).alone (AV.closed_cells (hel i x hi).1 hj))
        · simp only [if_true]
          by_cases he : (xs.drop off).length = 0
          · rw [if_pos he]; exact .dead v
          rw [if_neg he]
          cases r with
          | own _ _ _ _ _ hid _ hvv hh =>
            obtain ⟨o1, o2⟩ := hh E s xs hH
            rcases o2 with ⟨f1, rfl, f3⟩ | ⟨g, cap, f1, f2, ad, rfl, f3, f4⟩
            · simp at he; omega
            · have hle : off ≤ xs.length := by omega
              have r' : R w φ H (.own id ver' off (xs.length - off)) (.slice ad (xs.length - off) (cap - off)) := .own _ _ _ _ _ hid rfl hvv fun E2 s2 xs2 he2 => by
                rw [hH] at he2
                simp at he2
                obtain ⟨rfl, rfl, rfl⟩ := he2
                exact ⟨by omega, .inr ⟨g, cap, f1, f2, ad, rfl, f3, f4⟩⟩
              obtain ⟨s', ys, hys, rd⟩ := elemsV_sound (K := fun s' ys => s' = s ∧ ys = (xs.drop off).take (xs.length - off)) st r' (by simp [elemsV, hH])
              obtain ⟨rfl, rfl⟩ := hys
              rw [List.take_of_length_le (by simp)] at rd
              have hel := rd
              obtain ⟨_, _, _, _, hel, _⟩ := hel
              obtain ⟨ad', cap', e, hcap, hne⟩ := rd.choose
              have hne' : xs.drop off ≠ [] := fun e => he (by rw [e]; rfl)
              obtain ⟨b, o, u, rfl, h1, h2⟩ := hne hne'
              have hb := RdS.lt c2 hel hne' h1
              simp at e
              obtain ⟨rfl, rfl⟩ := e
              exact .viewx _ len b o s' _ u (by simp; omega) hcap hb (fun id o h => by simp at h) (fun i x hi => (hel i x hi).1) (fun i x hi => (hel i x hi).2) h1 (fun i x j c hi hj => (h2 i x j c hi hj).alone (AV.closed_cells (hel i x hi).1 hj))
      · rw [if_neg hv]; exact .dead v
  case viewx s xs n =>
    simp only [arg]
    cases m
    · simp only [Bool.false_eq_true, if_false]
      cases r with
      | viewx _ n b off size cap u hn hcap hb hl hcl2 hs hc hr =>
        have hlen : (xs.take n).length = n := by simp; omega
        have hget : ∀ (i : Nat) (x : AV), (xs.take n)[i]? = some x → xs[i]? = some x := fun i x hi => by
          rw [List.getElem?_take] at hi
          split at hi
          · exact hi
          · simp at hi
        have := R.view (w := w) (φ := φ) (H := H) (xs.take n) b off s cap u (by rw [hlen]; omega) hb hl (fun i x hi => hcl2 i x (hget i x hi)) (fun i x hi => hs i x (hget i x hi)) (fun i x j c hi hj => hc i x j c (hget i x hi) hj) (fun i x j c hi hj => hr i x j c (hget i x hi) hj)
        rw [hlen] at this
        exact this.alone rfl
    · simp only [if_true]
      exact r.alone rfl
  all_goals (simp only [arg]; exact hcl _ r)
end
end Go.Av
namespace Go.Av
open Go.RowKit
set_option linter.unusedVariables false

section
variable {P : Program} {B : Nat} {X : Nat → Prop} {w0 w : World} {φ : Nat → Value} {H : List AO}

def joinφ (n : Nat) (φ φc : Nat → Value) : Nat → Value := fun k => if k < n then φ k else φc (k - n)
theorem joinφ_lt {n : Nat} {φ φc : Nat → Value} {k : Nat} (h : k < n) : joinφ n φ φc k = φ k := by simp [joinφ, h]
theorem joinφ_ge {n : Nat} {φ φc : Nat → Value} {k : Nat} (h : n ≤ k) : joinφ n φ φc k = φc (k - n) := by simp [joinφ]; omega
theorem join_get {H objs : List AO} {id : Nat} {o : AO} (h : (H ++ objs.map (shO H.length))[id]? = some o) : (id < H.length ∧ H[id]? = some o) ∨ (H.length ≤ id ∧ ∃ o', objs[id - H.length]? = some o' ∧ o = shO H.length o') := by
  rcases Nat.lt_or_ge id H.length with hlt | hge
  · rw [List.getElem?_append_left hlt] at h; exact .inl ⟨hlt, h⟩
  · rw [List.getElem?_append_right hge, List.getElem?_map, Option.map_eq_some_iff] at h
    obtain ⟨o', h1, h2⟩ := h
    exact .inr ⟨hge, o', h1, h2.symm⟩

theorem sh1_R {w' : World} {φc : Nat → Value} {objs : List AO} {c : AV} {u : Value} (r : R w' φc objs c u) (hv : c.vf = true) : R w' (joinφ H.length φ φc) (H ++ objs.map (shO H.length)) (sh1 H.length c) u := by
  have hcl : ∀ y, R w' φc objs y u → y.vf = true → R w' (joinφ H.length φ φc) (H ++ objs.map (shO H.length)) (if y.closed then y else .dead) u := fun y ry hy => by
    by_cases h : y.closed = true
    · rw [if_pos h]; exact ry.free h hy
    · rw [if_neg h]; exact .dead u
  cases c
  case own id ver off len =>
    cases r with
    | own _ _ _ _ _ hid ho hvv hh =>
      refine .own _ _ _ _ _ (by simp; omega) ho (fun v' E s xs h => ?_) fun E s xs h => ?_
      · rcases join_get h with ⟨h1, _⟩ | ⟨h1, o', h2, h3⟩
        · omega
        · rw [Nat.add_sub_cancel] at h2
          cases o' <;> simp [shO] at h3
          obtain ⟨rfl, rfl, rfl, rfl⟩ := h3
          exact hvv _ _ _ _ h2
      · rcases join_get h with ⟨h1, _⟩ | ⟨h1, o', h2, h3⟩
        · omega
        · rw [Nat.add_sub_cancel] at h2
          cases o' <;> simp [shO] at h3
          obtain ⟨rfl, rfl, rfl, rfl⟩ := h3
          rw [joinφ_ge (by omega), Nat.add_sub_cancel]
          exact hh _ _ _ h2
  case bptr id off =>
    cases r with
    | bptr _ _ _ hid ho hh =>
      refine .bptr _ _ _ (by simp; omega) ho fun o h hp => ?_
      rcases join_get h with ⟨h1, _⟩ | ⟨h1, o', h2, h3⟩
      · omega
      · rw [Nat.add_sub_cancel] at h2
        have : o'.pb = true := by rw [h3] at hp; cases o' <;> first | rfl | (simp [shO, AO.pb] at hp)
        rw [joinφ_ge (by omega), Nat.add_sub_cancel]
        exact hh _ h2 this
  all_goals exact hcl _ r hv

theorem sh2_R {w' : World} {φc : Nat → Value} {objs : List AO} {c : AV} {u : Value} (r : R w' φc objs c u) (hv : c.vf = true) : R w' (joinφ H.length φ φc) (H ++ objs.map (shO H.length)) (sh2 H.length c) u := by
  cases c
  case agg xs =>
    cases r with
    | agg _ us hs hr =>
      refine .agg _ us (by simp [hs]) fun i x u hi hu => ?_
      simp only [List.getElem?_map, Option.map_eq_some_iff] at hi
      obtain ⟨y, hy, rfl⟩ := hi
      exact sh1_R (hr i y u hy hu) (AV.vfL_get xs i y (by simpa [AV.vf] using hv) hy)
  all_goals exact sh1_R r hv

theorem sh_R {w' : World} {φc : Nat → Value} {objs : List AO} {c : AV} {u : Value} (r : R w' φc objs c u) (hv : c.vf = true) : R w' (joinφ H.length φ φc) (H ++ objs.map (shO H.length)) (sh H.length c) u := by
  cases c
  case tup xs =>
    cases r with
    | tup _ us hs hr =>
      refine .tup _ us (by simp [hs]) fun i x u hi hu => ?_
      simp only [List.getElem?_map, Option.map_eq_some_iff] at hi
      obtain ⟨y, hy, rfl⟩ := hi
      exact sh2_R (hr i y u hy hu) (AV.vfL_get xs i y (by simpa [AV.vf] using hv) hy)
  all_goals exact sh2_R r hv

/-- the caller's state behind a call -/
theorem St.join (st : St B X w0 w φ H) {w' : World} (g : Gr w w') {φc : Nat → Value} {objs : List AO} (hv : ∀ o ∈ objs, vfO o) (hp : HeapOK w' w.heap.size φc objs) :
    St B X w0 w' (joinφ H.length φ φc) (H ++ objs.map (shO H.length)) ∧ Le w φ H w' (joinφ H.length φ φc) (H ++ objs.map (shO H.length)) := by
  have hbase : B ≤ w.heap.size := Nat.le_trans st.base st.frame.size
  have le : Le w φ H w' (joinφ H.length φ φc) (H ++ objs.map (shO H.length)) := by
    refine ⟨g.size, fun b hbs hn => ⟨fun id o h hl => ?_, fun k => g.cell hbs k⟩, by simp, fun id v' E s xs' hid h => ?_, fun id ver E s xs' hid _ h => ?_, fun id o' hid h hp => ?_⟩
    · rcases join_get h with ⟨h1, h2⟩ | ⟨h1, o', h2, rfl⟩
      · rw [joinφ_lt h1]; exact hn id o h2 hl
      · rw [joinφ_ge h1]; intro e
        rw [shO_live] at hl
        have := (hp.live _ o' b h2 hl e).1
        omega
    · rw [List.getElem?_append_left hid] at h; exact ⟨v', E, s, xs', h, Nat.le_refl _⟩
    · rw [List.getElem?_append_left hid] at h; exact ⟨xs', h, rfl, joinφ_lt hid⟩
    · rw [List.getElem?_append_left hid] at h; exact ⟨o', h, hp, joinφ_lt hid⟩
  refine ⟨⟨st.frame.trans ⟨g.os, g.tape, g.output, g.size, fun k hk _ => g.block k (by omega) (fun h => h)⟩, st.base, st.glob, fun id o b h hl hv => ?_, fun id id' o1 o2 b h hl h' hl' hv hv' => ?_, fun id o h => ?_⟩, le⟩
  · rcases join_get h with ⟨h1, h2⟩ | ⟨h1, o', h2, rfl⟩
    · rw [joinφ_lt h1] at hv
      have := st.live id o b h2 hl hv
      exact ⟨this.1, Nat.lt_of_lt_of_le this.2 g.size⟩
    · rw [joinφ_ge h1] at hv
      rw [shO_live] at hl
      have := hp.live _ o' b h2 hl hv
      exact ⟨.inl (by omega), this.2⟩
  · rcases join_get h with ⟨h1, h2⟩ | ⟨h1, o1', h2, rfl⟩ <;> rcases join_get h' with ⟨h1', h2'⟩ | ⟨h1', o2', h2', rfl⟩
    · rw [joinφ_lt h1] at hv
      rw [joinφ_lt h1'] at hv'
      exact st.inj id id' o1 o2 b h2 hl h2' hl' hv hv'
    · rw [joinφ_lt h1] at hv
      rw [joinφ_ge h1'] at hv'
      rw [shO_live] at hl'
      have := st.live id o1 b h2 hl hv
      have := hp.live _ o2' b h2' hl' hv'
      omega
    · rw [joinφ_ge h1] at hv
      rw [joinφ_lt h1'] at hv'
      rw [shO_live] at hl
      have := st.live id' o2 b h2' hl' hv'
      have := hp.live _ o1' b h2 hl hv
      omega
    · rw [joinφ_ge h1] at hv
      rw [joinφ_ge h1'] at hv'
      rw [shO_live] at hl hl'
      have := hp.inj _ _ o1' o2' b h2 hl h2' hl' hv hv'
      omega
  · rcases join_get h with ⟨h1, h2⟩ | ⟨h1, o', h2, rfl⟩
    · cases o with
      | iter s p => exact (st.chunk id _ h2).keep le (joinφ_lt h1) fun b hv => g.block b (st.live id _ b h2 rfl hv).2 (fun h => h)
      | gone => trivial
      | slice v E s xs => exact (st.chunk id _ h2).keep le (joinφ_lt h1) fun b hv => g.block b (st.live id _ b h2 rfl hv).2 (fun h => h)
      | box T cs => exact (st.chunk id _ h2).keep le (joinφ_lt h1) fun b hv => g.block b (st.live id _ b h2 rfl hv).2 (fun h => h)
    · have hvo := hv o' (List.mem_of_getElem? h2)
      have hc := hp.chunk _ o' h2
      cases o' with
      | iter s p =>
        obtain ⟨g', c1, c2⟩ := hc
        exact ⟨g', by rw [joinφ_ge h1]; exact c1, c2⟩
      | gone => trivial
      | slice v E s xs =>
        obtain ⟨cs, c1, c2, c3, c4⟩ := hc
        refine ⟨cs, by rw [joinφ_ge h1]; exact c1, c2, c3, fun i x j c u hx hj hu => ?_⟩
        exact (c4 i x j c u hx hj hu).free (AV.closed_cells (c3 i x hx).1 hj) (AV.vf_cells (hvo x (List.mem_of_getElem? hx)) hj)
      | box T cs =>
        obtain ⟨g', arr, c1, c2, c3, c4⟩ := hc
        refine ⟨g', arr, by rw [joinφ_ge h1]; exact c1, c2, by simp [c3], fun i c u hc hu => ?_⟩
        simp only [List.getElem?_map, Option.map_eq_some_iff] at hc
        obtain ⟨y, hy, rfl⟩ := hc
        exact ⟨sh1_R (c4 i y u hy hu).1 (hvo y (List.mem_of_getElem? hy)), (c4 i y u hy hu).2⟩

theorem run_callFunc {f : FuncId} (h : plainFn P f) (args : Array Value) (w : World) : (callFunc f args).run P w = .ok (.enter f args) w := by
  obtain ⟨fn, h1, h2, h3⟩ := h
  simp [callFunc, h1, h3]
  intro h
  simp [h] at h2
end

def AV.flat : AV → Bool
  | .sc _ | .int _ _ | .bool _ | .str _ => true
  | _ => false
def AV.flatT : AV → Bool
  | .tup xs => xs.all AV.flat
  | x => x.flat
/-- a call that may turn what the caller has: its objects H, its slots E -/
def CallIn (P : Program) (f : FuncId) (args : List AV) (H : List AO) (E : Env) (K : AV → Env → List AO → Prop) : Prop :=
  plainFn P f ∧ ∀ (B : Nat) (X : Nat → Prop) (w0 w : World) (φ : Nat → Value) (vals : Array Value) (g : Nat → Value), St B X w0 w φ H → vals.size = args.length →
    (∀ (i : Nat) (x : AV) (v : Value), args[i]? = some x → vals[i]? = some v → R w φ H x v) → (∀ t, R w φ H (E t) (g t)) →
    Calls P f vals w fun e w' => ∃ v ret E' H' φ', e = .returned v ∧ K ret E' H' ∧ St B X w0 w' φ' H' ∧ R w' φ' H' ret v ∧ ∀ t, R w' φ' H' (E' t) (g t)
/-- a function without a text, that hands back what it is given -/
def NoEsc (P : Program) (f : FuncId) : Prop := ∀ x w, (callFunc f #[x]).run P w = .ok (.value x) w
/-- how an argument may be told -/
def argC (H : List AO) (x y : AV) : Prop := (∃ m, y = arg m H x) ∨ (x = .sc (.slice none 0 0) ∧ ∃ s, y = .view s [])
def argsC (H : List AO) : List AV → List AV → Prop
  | [], [] => True
  | x :: xs, y :: ys => argC H x y ∧ argsC H xs ys
  | _, _ => False
/-- a struct may be told field by field -/
def argR (H : List AO) (x y : AV) : Prop := argC H x y ∨ (∃ xs ys, x = .agg xs ∧ y = .agg ys ∧ argsC H xs ys) ∨ ∃ id T cs ys, x = .bptr id 0 ∧ H[id]? = some (.box T cs) ∧ y = .vptr (.agg ys) 0 ∧ AV.closedL ys = true ∧ argsC H cs ys
theorem argsC_get {H : List AO} : ∀ {xs ys : List AV}, argsC H xs ys → ys.length = xs.length ∧ ∀ (i : Nat) (y : AV), ys[i]? = some y → ∃ x, xs[i]? = some x ∧ argC H x y
  | [], [], _ => ⟨rfl, fun i y h => by simp at h⟩
  | x :: xs, y :: ys, h => by
    obtain ⟨h1, h2⟩ := argsC_get h.2
    refine ⟨by simp [h1], fun i z hz => ?_⟩
    cases i with
    | zero => simp at hz; subst hz; exact ⟨x, rfl, h.1⟩
    | succ i => exact h2 i z (by simpa using hz)
  | [], _ :: _, h => h.elim
  | _ :: _, [], h => h.elim
def argsR (H : List AO) : List AV → List AV → Prop
  | [], [] => True
  | x :: xs, y :: ys => argR H x y ∧ argsR H xs ys
  | _, _ => False
theorem argsR_get {H : List AO} : ∀ {xs ys : List AV}, argsR H xs ys → ys.length = xs.length ∧ ∀ (i : Nat) (y : AV), ys[i]? = some y → ∃ x, xs[i]? = some x ∧ argR H x y
  | [], [], _ => ⟨rfl, fun i y h => by simp at h⟩
  | x :: xs, y :: ys, h => by
    obtain ⟨h1, h2⟩ := argsR_get h.2
    refine ⟨by simp [h1], fun i z hz => ?_⟩
    cases i with
    | zero => simp at hz; subst hz; exact ⟨x, rfl, h.1⟩
    | succ i => exact h2 i z (by simpa using hz)
  | [], _ :: _, h => h.elim
  | _ :: _, [], h => h.elim
theorem argC_R {B : Nat} {X : Nat → Prop} {w0 w : World} {φ : Nat → Value} {H : List AO} (st : St B X w0 w φ H) {x y : AV} {v : Value} (r : R w φ H x v) (h : argC H x y) : R w (fun _ => .tuple #[]) [] y v := by
  rcases h with ⟨m, rfl⟩ | ⟨rfl, s, rfl⟩
  · exact arg_R st m r
  · cases r; exact .view0 s none 0
theorem argR_R {B : Nat} {X : Nat → Prop} {w0 w : World} {φ : Nat → Value} {H : List AO} (st : St B X w0 w φ H) {x y : AV} {v : Value} (r : R w φ H x v) (h : argR H x y) : R w (fun _ => .tuple #[]) [] y v := by
  rcases h with h | ⟨xs, ys, rfl, rfl, h⟩ | ⟨id, T, cs, ys, rfl, hH, rfl, hcl, h⟩
  · exact argC_R st r h
  rotate_left
  · obtain ⟨h1, h2⟩ := argsC_get h
    obtain ⟨g, arr, c1, c2, c3, c4⟩ := st.chunk id _ hH
    cases r with
    | bptr _ _ _ hid ho hh =>
      obtain ⟨g', e1, rfl⟩ := hh _ hH rfl
      rw [c1] at e1
      simp at e1
      subst e1
      have hget : ∀ (j : Nat) (c : AV), ys[j]? = some c → ∃ u, arr[j]? = some u ∧ w.cell? ⟨g, 0 + j, none⟩ = some u := fun j c hj => by
        have hlt : j < arr.size := by rw [c3, ← h1]; exact (List.getElem?_eq_some_iff.1 hj).1
        exact ⟨arr[j], Array.getElem?_eq_getElem hlt, by rw [cell_of_row w g _ arr T _ c2, Nat.zero_add]; exact Array.getElem?_eq_getElem hlt⟩
      refine .vptr (.agg ys) 0 g 0 (fun j => (arr[j]?).getD undef) (by simpa [AV.closed] using hcl) (Array.getElem?_eq_some_iff.1 c2).1 (fun id o h => by simp at h) (fun j c hj => ?_) (fun j c hj => ?_)
      · simp only [AV.cells, Nat.zero_add] at hj
        obtain ⟨u, e2, e3⟩ := hget j c hj
        obtain ⟨x, hx, _⟩ := h2 j c hj
        rw [e3, e2]
        exact ⟨rfl, (c4 j x u hx e2).2⟩
      · simp only [AV.cells, Nat.zero_add] at hj
        obtain ⟨u, e2, e3⟩ := hget j c hj
        obtain ⟨x, hx, hc⟩ := h2 j c hj
        rw [e2]
        exact argC_R st (c4 j x u hx e2).1 hc
  · obtain ⟨h1, h2⟩ := argsC_get h
    cases r with
    | agg _ us hs hr =>
      refine .agg _ us (by rw [hs, h1]) fun i z u hz hu => ?_
      obtain ⟨x, hx, hc⟩ := h2 i z hz
      exact argC_R st (hr i x u hx hu) hc
def callV (P : Program) (q : Bool) (H : List AO) (E : Env) (f : AV) (xs : List AV) (K : AV → Env → List AO → Prop) : Prop := match f with
  | .fn g caps => if q then ∃ args' ret, argsR H (xs ++ caps) args' ∧ CallOK P g args' ret [] ∧ ret.flatT = true ∧ K ret E H
    else (∃ args' ret objs, argsR H (xs ++ caps) args' ∧ CallOK P g args' ret objs ∧ K (sh H.length ret) E (H ++ objs.map (shO H.length))) ∨ CallIn P g (xs ++ caps) H E K ∨ (NoEsc P g ∧ ∃ x, xs ++ caps = [x] ∧ K x E H)
  | _ => False
def callK (P : Program) (q : Bool) (H : List AO) (E : Env) (f : AV) (xs : List AV) [K : Ko (AV → Env → List AO → Prop)] : Prop := callV P q H E f xs K.k
/-- the method m of the type T is f, and is handed the value as it is -/
def MethOK (P : Program) (T : TypeId) (m : String) (f : FuncId) : Prop := ∀ (v : Value) (w : World), (method (P.types.size + Made.depth) T v m).run P w = .ok (f, v) w
/-- a call through an interface -/
def invK (P : Program) (q : Bool) (H : List AO) (E : Env) (r : AV) (m : String) (xs : List AV) [K : Ko (AV → Env → List AO → Prop)] : Prop := match r with
  | .iface T y => q = false ∧ ∃ f, MethOK P T m f ∧ CallIn P f (y :: xs) H E K.k
  | _ => False
def effOp (P : Program) (op : Op) (env : Env) : Bool := match op with
  | .assign (.const (.slice none 0 0)) => true
  | .box _ _ | .alloc _ | .store _ _ _ | .buildSlice _ _ _ | .makeSlice _ _ _ | .range _ _ | .next _ _ => true
  | .call { callee := .builtin .append, args := _, argTypes := _ } => true
  | .call { callee := .builtin .unsafeString, args := _, argTypes := _ } => true
  | .convert _ dst x => (match evO env x with
    | .str _ => !(isStr P dst)
    | .own _ _ _ _ => !(isStr P dst)
    | _ => false)
  | _ => false
def vOp (P : Program) (q : Bool) (op : Op) (ty : TypeId) (env : Env) (H : List AO) (K : AV → Env → List AO → Prop) : Prop := match op with
  | .call { callee := .value f, args, argTypes := _ } => @callK P q H env (evO env f) (args.toList.map (evO env)) ⟨K⟩
  | .call { callee := .invoke r m, args, argTypes := _ } => @invK P q H env (evO env r) m (args.toList.map (evO env)) ⟨K⟩
  | .build T parts => buildV P T (parts.toList.map fun p => (p.1, evO env p.2)) fun x => K x env H
  | op => if effOp P op env then q = false ∧ eOp P op ty env H (fun x h => K x env h) else sOp P op env H fun x => K x env H
theorem vOp_inv_q {P : Program} {r : Operand} {m : String} {args : Array Operand} {argTypes : Array TypeId} {ty : TypeId} {env : Env} {H : List AO} {K : AV → Env → List AO → Prop} : ¬ vOp P true (.call { callee := .invoke r m, args := args, argTypes := argTypes }) ty env H K := fun h => by
  simp only [vOp, invK] at h
  split at h
  · exact absurd h.1 (by simp)
  · exact h
def VO (P : Program) (q : Bool) (ops : Array Oper) : List Oper → Env → List AO → (Env → List AO → Prop) → Prop
  | [], env, H, K => K env H
  | o :: rest, env, H, K => match o.guard with
    | none => vOp P q o.op o.type env H fun x e h => VO P q ops rest (put e o.dst x) h K
    | some (j, want) => match (ops[j]?).bind (·.dst) with
      | some d => (match env d with
        | .bool b => @guardK b want ⟨vOp P q o.op o.type (upd env d (.bool want)) H fun x e h => VO P q ops rest (put e o.dst x) h K⟩
            ⟨VO P q ops rest (put (upd env d (.bool (!want))) o.dst (.sc (.tuple #[]))) H K⟩
        | .sc (.tuple _) => VO P q ops rest (put env o.dst (.sc (.tuple #[]))) H K
        | _ => False)
      | none => False

def regOK (n : Nat) (ops : Array Oper) : Bool := ops.toList.all fun o => opOK n o.op && dstOK n o.dst && (match o.guard with
  | none => true
  | some (j, _) => match (ops[j]?).bind (·.dst) with
    | some d => decide (d < n)
    | none => false)

section
variable {P : Program} {B : Nat} {X : Nat → Prop} {w0 w : World} {φ : Nat → Value} {H : List AO} {n : Nat}

theorem put_dead {env : Env} {a : Act} {g : Gh} (eo : EnvOK w φ H env a n g) (dst : Option Tmp) (hd : dstOK n dst = true) : EnvOK w φ H (put env dst (.sc (.tuple #[]))) (a.put dst undef) n g := eo.put dst hd (.sc _)

/-- what an operation does, of abstract values: if its wp is asked -/
theorem vOp_sound (st : St B X w0 w φ H) {env : Env} {a : Act} {g : Gh} (eo : EnvOK w φ H env a n g) {o : Oper} (hn : opOK n o.op = true) {K : AV → Env → List AO → Prop} (h : vOp P false o.op o.type env H K)
    {next : Act → World → Prop} {Q : Exit → Act → World → Prop} (hk : ∀ x env' H' φ' w' v, K x env' H' → St B X w0 w' φ' H' → EnvOK w' φ' H' env' a n g → R w' φ' H' x v → next (a.put o.dst v) w') : o.wp P a w next Q := by
  have other : (if effOp P o.op env then false = false ∧ eOp P o.op o.type env H (fun x h => K x env h) else sOp P o.op env H fun x => K x env H) → o.wp P a w next Q := fun h => by
    by_cases he : effOp P o.op env = true
    · rw [if_pos he] at h
      obtain ⟨x, H', φ', v, nx, w', h1, h2, h3, h4, h5, h6⟩ := eOp_sound st eo hn h.2
      unfold Oper.wp
      rw [h2]
      rcases h3 with rfl | ⟨rfl, rfl⟩
      · exact hk x env H' φ' w' v h1 h4 (eo.le h5) h6
      · exact hk x env H' φ' w' undef h1 h4 (eo.le h5) h6
    · rw [if_neg he] at h
      obtain ⟨x, v, h1, h2, h3⟩ := sOp_sound st eo hn h
      unfold Oper.wp
      rw [h3 w (Ext.refl w)]
      exact hk x env H φ w v h1 st eo h2
  obtain ⟨dst, op, ty, pos, after, guard⟩ := o
  dsimp only at h other hk
  cases op
  case call c =>
    obtain ⟨callee, args, argTypes⟩ := c
    cases callee
    case value f =>
      simp only [vOp, callK] at h
      have ev : ∀ x, x ∈ (Op.call { callee := .value f, args := args, argTypes := argTypes }).operands.toList → R w φ H (evO env x) (a.eval x) := fun x hx => evO_R eo x (List.all_eq_true.1 hn x hx)
      have rf := ev f (by simp [Op.operands, Call.operands])
      generalize hfe : a.eval f = vf at rf
      generalize evO env f = ef at h rf
      cases ef <;> (try exact h.elim)
      rename_i g' caps
      cases rf with
      | fn _ _ us hs hr =>
        simp only [callV, Bool.false_eq_true, if_false] at h
        have hargs : ∀ (i : Nat) (x : AV) (v : Value), (args.toList.map (evO env) ++ caps)[i]? = some x → (args.map a.eval ++ us)[i]? = some v → R w φ H x v := fun i y v hy hv => by
          rcases Nat.lt_or_ge i args.size with hlt | hge
          · rw [List.getElem?_append_left (by simpa using hlt), List.getElem?_map, Option.map_eq_some_iff] at hy
            obtain ⟨z, hz, rfl⟩ := hy
            rw [Array.getElem?_append_left (by simpa using hlt), Array.getElem?_map, Option.map_eq_some_iff] at hv
            obtain ⟨z', hz', rfl⟩ := hv
            simp at hz
            rw [hz] at hz'
            simp at hz'
            subst hz'
            exact ev z (by simp [Op.operands, Call.operands]; exact .inr (Array.mem_of_getElem? hz))
          · rw [List.getElem?_append_right (by simpa using hge)] at hy
            rw [Array.getElem?_append_right (by simpa using hge)] at hv
            simp at hy hv
            exact hr _ y v hy hv
        have hrun : plainFn P g' → (execOp a.eval { dst := dst, op := Op.call { callee := .value f, args := args, argTypes := argTypes }, type := ty, pos := pos, after := after, guard := guard }).run P w = .ok (.enter g' (args.map a.eval ++ us)) w := fun hpf => by
          simp [execOp, resolve, hfe, Deferred.ofValue, invoke, run_callFunc hpf]
        rcases h with ⟨args', ret, objs, har, ⟨hpf, hrv, hov, hc⟩, hk'⟩ | ⟨hpf, hc⟩ | ⟨hne, x, hx, hk'⟩
        · have hcall := hc w (args.map a.eval ++ us) st.gw (by rw [(argsR_get har).1]; simp [hs]) (fun i x v hx hv => by
            obtain ⟨y, hy, hxy⟩ := (argsR_get har).2 i x hx
            exact argR_R st (hargs i y v hy hv) hxy)
          unfold Oper.wp
          rw [hrun hpf]
          show Calls P g' _ w _
          refine hcall.mono fun e w' ⟨v, φc, he, hg, hh, hret⟩ => ?_
          subst he
          obtain ⟨s1, s2⟩ := st.join hg hov hh
          exact hk _ _ _ _ w' v hk' s1 (eo.le s2) (sh_R hret hrv)
        · unfold Oper.wp
          rw [hrun hpf]
          show Calls P g' _ w _
          refine (hc B X w0 w φ (args.map a.eval ++ us) (fun t => if t < n then a.tmps.getD t undef else g t) st (by simp [hs]) hargs (fun t => ?_)).mono fun e w' ⟨v, ret, E', H', φ', he, hk', s1, s2, s3⟩ => ?_
          · by_cases ht : t < n
            · rw [if_pos ht]; exact eo.slot t ht
            · rw [if_neg ht]; exact eo.ghost t (by omega)
          · subst he
            refine hk _ _ _ _ w' v hk' s1 ⟨eo.size, eo.defers, fun t ht => ?_, fun t ht => ?_⟩ s2
            · have := s3 t; rwa [if_pos ht] at this
            · have := s3 t; rwa [if_neg (by omega)] at this
        · obtain ⟨v, hv⟩ : ∃ v, args.map a.eval ++ us = #[v] := by
            have hl : (args.map a.eval ++ us).size = 1 := by have := congrArg List.length hx; simp at this ⊢; omega
            generalize args.map a.eval ++ us = q at hl
            obtain ⟨l⟩ := q
            match l, hl with
            | [v], _ => exact ⟨v, rfl⟩
          have r := hargs 0 x v (by rw [hx]; rfl) (by rw [hv]; rfl)
          unfold Oper.wp
          have : (execOp a.eval { dst := dst, op := Op.call { callee := .value f, args := args, argTypes := argTypes }, type := ty, pos := pos, after := after, guard := guard }).run P w = .ok (.value v) w := by
            simp [execOp, resolve, hfe, Deferred.ofValue, invoke, hv, hne v w]
          rw [this]
          exact hk _ _ _ _ w v hk' st eo r
    case invoke r m =>
      simp only [vOp, invK] at h
      have ev : ∀ x, x ∈ (Op.call { callee := .invoke r m, args := args, argTypes := argTypes }).operands.toList → R w φ H (evO env x) (a.eval x) := fun x hx => evO_R eo x (List.all_eq_true.1 hn x hx)
      have rf := ev r (by simp [Op.operands, Call.operands])
      generalize hfe : a.eval r = vr at rf
      generalize evO env r = er at h rf
      cases er <;> (try exact h.elim)
      rename_i T y
      cases rf with
      | iface _ _ u hr =>
        obtain ⟨_, f, hm, hpf, hc⟩ := h
        have hrun : (execOp a.eval { dst := dst, op := Op.call { callee := .invoke r m, args := args, argTypes := argTypes }, type := ty, pos := pos, after := after, guard := guard }).run P w = .ok (.enter f (#[u] ++ args.map a.eval)) w := by
          have e1 : (#[Value.iface T u] ++ args.map a.eval)[0]? = some (Value.iface T u) := by rw [Array.getElem?_append_left (by simp)]; rfl
          have e2 : (#[Value.iface T u] ++ args.map a.eval).extract 1 (#[Value.iface T u] ++ args.map a.eval).size = args.map a.eval := by
            apply Array.ext'
            rw [Array.toList_extract, Array.toList_append, Array.size_append]
            simp only [List.size_toArray, List.length_cons, List.length_nil, Nat.zero_add, List.cons_append, List.nil_append, List.extract_eq_take_drop, List.drop_succ_cons, List.drop_zero, Nat.add_sub_cancel_left]
            exact List.take_of_length_le (by simp)
          simp only [execOp, resolve, hfe, Sem.run_bind, Sem.run_pure, Result.andThen_ok, invoke, e1, e2, callMethod]
          have hp : (Sem.program Sem.pure).run P w = .ok P w := rfl
          simp only [program, hp, Sem.run_bind, Result.andThen_ok, hm u w]
          exact run_callFunc hpf _ w
        have hargs : ∀ (i : Nat) (x : AV) (v : Value), (y :: args.toList.map (evO env))[i]? = some x → (#[u] ++ args.map a.eval)[i]? = some v → R w φ H x v := fun i x v hx hv => by
          cases i with
          | zero =>
            rw [Array.getElem?_append_left (by simp)] at hv
            simp at hx hv; subst hx hv; exact hr
          | succ i =>
            rw [List.getElem?_cons_succ, List.getElem?_map, Option.map_eq_some_iff] at hx
            obtain ⟨z, hz, rfl⟩ := hx
            rw [Array.getElem?_append_right (by simp)] at hv
            simp only [List.size_toArray, List.length_cons, List.length_nil, Nat.zero_add, Nat.add_sub_cancel, Array.getElem?_map, Option.map_eq_some_iff] at hv
            obtain ⟨z', hz', rfl⟩ := hv
            simp at hz
            rw [hz] at hz'
            simp at hz'
            subst hz'
            exact ev z (by simp [Op.operands, Call.operands]; exact .inr (Array.mem_of_getElem? hz))
        unfold Oper.wp
        rw [hrun]
        show Calls P f _ w _
        refine (hc B X w0 w φ (#[u] ++ args.map a.eval) (fun t => if t < n then a.tmps.getD t undef else g t) st (by simp; omega) hargs (fun t => ?_)).mono fun e w' ⟨v, ret, E', H', φ', he, hk', s1, s2, s3⟩ => ?_
        · by_cases ht : t < n
          · rw [if_pos ht]; exact eo.slot t ht
          · rw [if_neg ht]; exact eo.ghost t (by omega)
        · subst he
          refine hk _ _ _ _ w' v hk' s1 ⟨eo.size, eo.defers, fun t ht => ?_, fun t ht => ?_⟩ s2
          · have := s3 t; rwa [if_pos ht] at this
          · have := s3 t; rwa [if_neg (by omega)] at this
    case builtin b => exact other h
  case build T parts =>
    obtain ⟨x, v, h1, h2, h3⟩ := build_sound (ρ := a.eval) (fun p hp => evO_R eo p.2 (List.all_eq_true.1 hn _ (by simp only [Op.operands]; exact List.mem_map.2 ⟨p, hp, rfl⟩))) (by first | exact h | (simp only [vOp] at h; exact h) | (simp only [fOp] at h; exact h))
    unfold Oper.wp
    rw [show (execOp a.eval { dst := dst, op := Op.build T parts, type := ty, pos := pos, after := after, guard := guard }).run P w = .ok (.value v) w by simp only [execOp, Sem.run_bind, h3, Result.andThen_ok, Sem.run_pure]]
    exact hk x env H φ w v h1 st eo h2
  all_goals exact other h

theorem VO_sound {g : Gh} {ops : Array Oper} {Q : Exit → Act → World → Prop} {K : Env → List AO → Prop} (hq : ∀ env H φ w a, K env H → St B X w0 w φ H → EnvOK w φ H env a n g → Q .normal a w) :
    ∀ (l : List Oper), (∀ o ∈ l, o ∈ ops.toList) → regOK n ops = true → ∀ (env : Env) (H : List AO) (w : World) (φ : Nat → Value) (a : Act), VO P false ops l env H K → St B X w0 w φ H → EnvOK w φ H env a n g → wpList P ops Q l a w
  | [], _, _, env, H, w, φ, a, h, st, eo => hq env H φ w a h st eo
  | o :: rest, hmem, hok, env, H, w, φ, a, h, st, eo => by
    have hon := List.all_eq_true.1 hok o (hmem o (by simp))
    simp only [Bool.and_eq_true] at hon
    have step : ∀ env, EnvOK w φ H env a n g → vOp P false o.op o.type env H (fun x e h => VO P false ops rest (put e o.dst x) h K) → o.wp P a w (wpList P ops Q rest) Q := fun env eo h =>
      vOp_sound st eo hon.1.1 h fun x env' H' φ' w' v hk st' eo' r => VO_sound hq rest (fun o ho => hmem o (by simp [ho])) hok _ H' w' φ' _ hk st' (eo'.put o.dst hon.1.2 r)
    unfold wpList
    unfold VO at h
    rcases hg : o.guard with _ | ⟨j, want⟩
    · rw [hg] at h
      rw [if_pos (by simp [Region.wanted, hg])]
      exact .inl (step env eo h)
    · rw [hg] at h
      dsimp only at h
      rcases hd : (ops[j]?).bind (·.dst) with _ | d
      · rw [hd] at h; exact h.elim
      · rw [hd] at h
        dsimp only at h
        have hdn : d < n := by
          have := hon.2
          rw [hg] at this
          dsimp only at this
          rw [hd] at this
          simpa using this
        have hy : ∀ v, a.tmps.getD d undef = v → yielded ops a.tmps j = (match v with | .bool b => some b | _ => none) := fun v hv => by
          have hlt : d < a.tmps.size := by rw [eo.size]; exact hdn
          unfold yielded
          rw [hd]
          have : a.tmps[d]? = some v := by rw [← hv, Array.getD_eq_getD_getElem?, Array.getElem?_eq_getElem hlt]; rfl
          simp only [Option.bind_some, this]
          cases v <;> rfl
        have hr := eo.slot d hdn
        have skip : ∀ env', EnvOK w φ H env' a n g → VO P false ops rest (put env' o.dst (.sc (.tuple #[]))) H K → wpList P ops Q rest (a.put o.dst undef) w := fun env' eo' h' =>
          VO_sound hq rest (fun o ho => hmem o (by simp [ho])) hok _ H w φ _ h' st (put_dead eo' o.dst hon.1.2)
        generalize hed : env d = ed at h hr
        cases ed <;> (try exact h.elim)
        case bool b =>
          dsimp only at h
          have hv : a.tmps.getD d undef = .bool b := by generalize a.tmps.getD d undef = v at hr; cases hr; rfl
          have hyb := hy _ hv
          dsimp only at hyb
          by_cases hb : b = want
          · rw [if_pos (by simp [Region.wanted, hg, hyb, hb])]
            refine .inl (step _ (eo.say d hdn ?_) (h.1 hb))
            rw [hv, hb]; exact .bool _
          · rw [if_neg (by simp [Region.wanted, hg, hyb, hb])]
            have hb' : b = !want := by cases b <;> cases want <;> simp_all
            refine skip _ (eo.say d hdn ?_) (h.2 hb')
            rw [hv, hb']; exact .bool _
        case sc u =>
          cases u <;> (try exact h.elim)
          rename_i us
          have hv : a.tmps.getD d undef = .tuple us := by generalize a.tmps.getD d undef = v at hr; cases hr; rfl
          have hyb := hy _ hv
          dsimp only at hyb
          rw [if_neg (by simp [Region.wanted, hg, hyb])]
          exact skip _ eo h

theorem J_region {id : Nat} {ops : Array Oper} {env : Env} {K : Post} (hok : regOK n ops = true) (h : VO P false ops ops.toList env H fun e h => @Hold2 e h ⟨fun e h => K .normal e h⟩) : J P n (.region id ops false) env H K := by
  intro B X w0 w φ a g st eo
  refine wp_region_list (VO_sound (g := g) (K := fun e h => K .normal e h) (fun env H φ w a k st eo => ⟨env, H, φ, k, st, eo⟩) ops.toList (fun o ho => ho) hok env H w φ a h st eo)
end
end Go.Av
namespace Go.Av
open Go.RowKit
set_option linter.unusedVariables false

def argEnv (args : List AV) : Env := fun t => args.getD t (.sc (.tuple #[]))

/-- the results, read off the frame -/
def resK (P : Program) : List ResultVar → Env → List AO → (List AV → Prop) → Prop
  | [], _, _, K => K []
  | .tmp t :: rest, env, H, K => resK P rest env H fun xs => K (env t :: xs)
  | .cell t T :: rest, env, H, K => ldP H (env t) fun cs => ldV P T cs fun x => resK P rest env H fun xs => K (x :: xs)
def oneOf : List AV → AV
  | [x] => x
  | xs => .tup xs
def resOK (n : Nat) (rs : List ResultVar) : Bool := rs.all fun
  | .tmp t => decide (t < n)
  | .cell t _ => decide (t < n)
/-- the end: what is handed back is 'ret', with the objects 'objs' -/
def Fin (P : Program) (rs : List ResultVar) (ret : AV) (objs : List AO) : Post := fun ex env H =>
  (match ex with
    | .ret | .normal => True
    | _ => False) ∧ resK P rs env H fun xs => ∃ ids : List Nat, ids.Nodup ∧ ret = ren ids H (oneOf xs) ∧ objs = renH ids H

section
variable {P : Program} {B : Nat} {X : Nat → Prop} {w0 w : World} {φ : Nat → Value} {H : List AO} {n : Nat}

theorem resK_sound (st : St B X w0 w φ H) {env : Env} {a : Act} {g : Gh} (eo : EnvOK w φ H env a n g) : ∀ (rs : List ResultVar), resOK n rs = true → ∀ {K : List AV → Prop}, resK P rs env H K →
    ∃ (xs : List AV) (vs : List Value), K xs ∧ vs.length = xs.length ∧ (∀ (i : Nat) (x : AV) (v : Value), xs[i]? = some x → vs[i]? = some v → R w φ H x v) ∧
      (rs.mapM (m := Sem) fun
        | .tmp t => pure (a.tmps.getD t undef)
        | .cell t T => do loadVar T (← asAddr (a.tmps.getD t undef))).run P w = .ok vs w
  | [], _, K, h => ⟨[], [], h, rfl, fun i x v hx => by simp at hx, by simp⟩
  | .tmp t :: rest, hok, K, h => by
    simp only [resOK, List.all_cons, Bool.and_eq_true, decide_eq_true_eq] at hok
    obtain ⟨xs, vs, h1, h2, h3, h4⟩ := resK_sound st eo rest hok.2 h
    refine ⟨env t :: xs, a.tmps.getD t undef :: vs, h1, by simp [h2], fun i x v hx hv => ?_, ?_⟩
    · match i, hx, hv with
      | 0, hx, hv => simp at hx hv; subst hx hv; simpa [Array.getD_eq_getD_getElem?] using eo.slot t hok.1
      | i + 1, hx, hv => exact h3 i x v (by simpa using hx) (by simpa using hv)
    · rw [List.mapM_cons]
      simp only [Sem.run_bind, Sem.run_pure, Result.andThen_ok, h4]
  | .cell t T :: rest, hok, K, h => by
    simp only [resOK, List.all_cons, Bool.and_eq_true, decide_eq_true_eq] at hok
    obtain ⟨cs, h, rd⟩ := ldP_sound st (eo.slot t hok.1) h
    obtain ⟨b, o, hv0⟩ := rd.add
    obtain ⟨x, u, h, hr, hrun⟩ := ldV_sound rd h
    obtain ⟨xs, vs, h1, h2, h3, h4⟩ := resK_sound st eo rest hok.2 h
    have hload : (loadVar T ⟨b, o, none⟩).run P w = .ok u w := by
      have := hrun w (Ext.refl w)
      rw [hv0] at this
      simpa [Instr.loadAt, Instr.sureAddr] using this
    refine ⟨x :: xs, u :: vs, h1, by simp [h2], fun i x' v hx hv => ?_, ?_⟩
    · match i, hx, hv with
      | 0, hx, hv => simp at hx hv; subst hx hv; exact hr
      | i + 1, hx, hv => exact h3 i x' v (by simpa using hx) (by simpa using hv)
    · have ha : (asAddr (a.tmps.getD t undef)).run P w = .ok ⟨b, o, none⟩ w := by rw [hv0]; rfl
      rw [List.mapM_cons]
      simp only [Sem.run_bind, ha, Sem.run_pure, Result.andThen_ok, h4, hload]

theorem callOK_of {f : FuncId} {fn : Func} {args : List AV} {ret : AV} {objs : List AO} {n : Nat} {rs : List ResultVar} (hf : P.funcs[f]? = some fn) (hbs : fn.body.isSome = true) (hname : (fn.name == "runtime.NumGoroutine") = false) (hnt : fn.ntmps = n) (hrs : fn.results.toList = rs)
    (hlen : args.length ≤ n) (hres' : resOK n rs = true) (hv : ret.vf = true) (hvo : ∀ o ∈ objs, vfO o)
    (h : J P n (fn.body.getD .skip) (argEnv args) [] (Fin P rs ret objs)) : CallOK P f args ret objs := by
  subst hnt hrs
  have hres := hres'
  have hname : fn.name ≠ "runtime.NumGoroutine" := by simpa using hname
  obtain ⟨c, hb⟩ := Option.isSome_iff_exists.1 hbs
  rw [hb] at h
  simp only [Option.getD_some] at h
  refine ⟨⟨fn, hf, by simp [hb], hname⟩, hv, hvo, fun w vals hG hsz hr => ?_⟩
  refine calls_of_wp hf hb ?_
  have st : St w.heap.size (fun _ => False) w w (fun _ => .tuple #[]) [] :=
    ⟨Frame.refl _ _ w, Nat.le_refl _, GK.of hG, fun id o b h => by simp at h, fun id id' o o' b h => by simp at h, fun id o h => by simp at h⟩
  have eo : EnvOK w (fun _ => .tuple #[]) [] (argEnv args) { tmps := vals ++ Array.replicate (fn.ntmps - vals.size) undef, defers := [] } fn.ntmps ⟨fun _ => undef, []⟩ := by
    refine ⟨by simp; omega, rfl, fun t ht => ?_, fun t ht => by rw [argEnv, List.getD_eq_getElem?_getD, List.getElem?_eq_none (by omega)]; exact .sc _⟩
    dsimp only
    unfold argEnv
    rcases Nat.lt_or_ge t args.length with hlt | hge
    · have h1 : args[t]? = some args[t] := List.getElem?_eq_getElem hlt
      have h2 : vals[t]? = some vals[t] := Array.getElem?_eq_getElem (by omega)
      have e1 : args.getD t (.sc (.tuple #[])) = args[t] := by rw [List.getD_eq_getElem?_getD, h1]; rfl
      have e2 : (vals ++ Array.replicate (fn.ntmps - vals.size) undef).getD t undef = vals[t] := by
        rw [Array.getD_eq_getD_getElem?, Array.getElem?_append_left (by omega), h2]; rfl
      rw [e1, e2]
      exact hr t _ _ h1 h2
    · have e1 : args.getD t (.sc (.tuple #[])) = .sc (.tuple #[]) := by rw [List.getD_eq_getElem?_getD, List.getElem?_eq_none hge]; rfl
      have e2 : (vals ++ Array.replicate (fn.ntmps - vals.size) undef).getD t undef = undef := by
        rw [Array.getD_eq_getD_getElem?, Array.getElem?_append_right (by omega)]
        simp [Array.getElem?_replicate]
        split <;> rfl
      rw [e1, e2]
      exact .sc _
  refine wp_mono (h _ _ w w _ _ _ st eo) ?_
  rintro ex a w' ⟨env, H, φ, ⟨hex, hk⟩, st', eo'⟩
  have key : a.defers = [] ∧ ∃ v, (results fn a.tmps).run P w' = .ok v w' ∧ ∃ v2 φ2, Ending.returned v = .returned v2 ∧ Gr w w' ∧ HeapOK w' w.heap.size φ2 objs ∧ R w' φ2 objs ret v2 := by
    refine ⟨eo'.defers, ?_⟩
    obtain ⟨xs, vs, ⟨ids, nd, rfl, rfl⟩, h2, h3, h4⟩ := resK_sound (P := P) st' eo' fn.results.toList hres hk
    have hrun : (results fn a.tmps).run P w' = .ok (if h : vs.toArray.size = 1 then vs.toArray[0] else .tuple vs.toArray) w' := by
      unfold results
      rw [← Array.toArray_toList (xs := fn.results), List.mapM_toArray]
      simp only [Sem.run_bind, Sem.run_map, Sem.run_pure]
      erw [h4]
      rfl
    refine ⟨_, hrun, _, renφ ids φ, rfl, st'.frame, ?_, ?_⟩
    · have s2 := st'.ren nd
      exact ⟨fun id o b h hl hv => by
        have := s2.live id o b h hl hv
        exact ⟨this.1.resolve_right (fun h => h), this.2⟩, s2.inj, s2.chunk⟩
    · refine ren_R ids ?_
      match xs, vs, h2, h3 with
      | [], [], _, h3 => exact .tup _ _ rfl (fun i x u hx => by simp at hx)
      | [x], [v], _, h3 => exact h3 0 x v rfl rfl
      | x :: y :: xs, v :: v' :: vs, h2, h3 =>
        have hne : ¬ ((v :: v' :: vs).toArray.size = 1) := by simp
        rw [dif_neg hne]
        exact .tup _ _ (by simpa using h2) (fun i x u hx hu => h3 i x u hx (by simpa using hu))
  cases ex with
  | ret => exact key
  | normal => exact key
  | exit id => exact hex.elim
  | goto l => exact hex.elim
  | panic c => exact hex.elim
  | outgrown => exact hex.elim

mutual
/-- the objects that it names are among the first n -/
def AV.lt (n : Nat) : AV → Bool
  | .dead | .sc _ | .int _ _ | .bool _ | .str _ | .view _ _ | .viewx _ _ _ | .vptr _ _ => true
  | .own id _ _ _ => decide (id < n)
  | .optr id _ _ _ => decide (id < n)
  | .bptr id _ => decide (id < n)
  | .agg xs => AV.ltL n xs
  | .tup xs => AV.ltL n xs
  | .fn _ xs => AV.ltL n xs
  | .iface _ x => AV.lt n x
def AV.ltL (n : Nat) : List AV → Bool
  | [] => true
  | x :: r => AV.lt n x && AV.ltL n r
end
theorem AV.ltL_iff (n : Nat) : ∀ (xs : List AV), AV.ltL n xs = true ↔ ∀ (i : Nat) (x : AV), xs[i]? = some x → AV.lt n x = true
  | [] => by simp [AV.ltL]
  | y :: r => by
    simp only [AV.ltL, Bool.and_eq_true, AV.ltL_iff n r]
    exact ⟨fun ⟨h1, h2⟩ i x hx => match i, hx with
      | 0, hx => by simp at hx; exact hx ▸ h1
      | i + 1, hx => h2 i x (by simpa using hx), fun h => ⟨h 0 y rfl, fun i x hx => h (i + 1) x (by simpa using hx)⟩⟩
theorem R.lt {x : AV} {v : Value} (r : R w φ H x v) : AV.lt H.length x = true := by
  have all : ∀ (xs : List AV) (us : Array Value), us.size = xs.length → (∀ (i : Nat) (x : AV) (u : Value), xs[i]? = some x → us[i]? = some u → AV.lt H.length x = true) → AV.ltL H.length xs = true := fun xs us hs h =>
    (AV.ltL_iff _ _).2 fun i x hx => by
      have hi : i < us.size := by rw [hs]; exact (List.getElem?_eq_some_iff.1 hx).1
      exact h i x _ hx (Array.getElem?_eq_getElem hi)
  induction r with
  | own id ver off len v hid ho hv h => simpa [AV.lt] using hid
  | optr id ver i off v hid ho hv h => simpa [AV.lt] using hid
  | bptr id off v hid ho h => simpa [AV.lt] using hid
  | agg xs us hs hr ih => simp only [AV.lt]; exact all xs us hs ih
  | tup xs us hs hr ih => simp only [AV.lt]; exact all xs us hs ih
  | fn f xs us hs hr ih => simp only [AV.lt]; exact all xs us hs ih
  | iface t x u hr ih => simp only [AV.lt]; exact ih
  | _ => rfl
theorem NL.drop {T : List AO} {b : Nat} (h : NL φ (H ++ T) b) : NL φ H b := fun id o ho hl => h id o (by rw [List.getElem?_append_left (List.getElem?_eq_some_iff.1 ho).1]; exact ho) hl
mutual
theorem AV.lt_closed (n : Nat) : ∀ x : AV, x.closed = true → AV.lt n x = true
  | .dead, _ => rfl
  | .sc _, _ => rfl
  | .int _ _, _ => rfl
  | .bool _, _ => rfl
  | .str _, _ => rfl
  | .view _ _, _ => rfl
  | .viewx _ _ _, _ => rfl
  | .vptr _ _, _ => rfl
  | .own _ _ _ _, h => by simp [AV.closed] at h
  | .optr _ _ _ _, h => by simp [AV.closed] at h
  | .bptr _ _, h => by simp [AV.closed] at h
  | .agg xs, h => by simp only [AV.lt]; exact AV.ltL_closed n xs (by simpa [AV.closed] using h)
  | .tup xs, h => by simp only [AV.lt]; exact AV.ltL_closed n xs (by simpa [AV.closed] using h)
  | .fn _ xs, h => by simp only [AV.lt]; exact AV.ltL_closed n xs (by simpa [AV.closed] using h)
  | .iface _ x, h => by simp only [AV.lt]; exact AV.lt_closed n x (by simpa [AV.closed] using h)
theorem AV.ltL_closed (n : Nat) : ∀ xs : List AV, AV.closedL xs = true → AV.ltL n xs = true
  | [], _ => rfl
  | x :: r, h => by
    simp only [AV.closedL, Bool.and_eq_true] at h
    simp only [AV.ltL, Bool.and_eq_true]
    exact ⟨AV.lt_closed n x h.1, AV.ltL_closed n r h.2⟩
end
theorem R.drop {T : List AO} {x : AV} {v : Value} (r : R w φ (H ++ T) x v) (h : AV.lt H.length x = true) : R w φ H x v := by
  have hget : ∀ (id : Nat) (o : AO), H[id]? = some o → (H ++ T)[id]? = some o := fun id o ho => by rw [List.getElem?_append_left (List.getElem?_eq_some_iff.1 ho).1]; exact ho
  generalize hH2 : H ++ T = H2 at r hget
  have hnl : ∀ b, NL φ H2 b → NL φ H b := fun b hn id o ho hl => hn id o (hget id o ho) hl
  induction r with
  | dead v => exact .dead v
  | sc v => exact .sc v
  | int k n => exact .int k n
  | bool b => exact .bool b
  | str s => exact .str s
  | view0 s ad cap => exact .view0 s ad cap
  | view xs b off size cap u hcap hb hl hcl hs hc hr ih => exact .view xs b off size cap u hcap hb (hnl b hl) hcl hs hc (fun i x j c hi hj => ih i x j c hi hj (AV.lt_closed _ _ (AV.closed_cells (hcl i x hi) hj)))
  | viewx xs n b off size cap u hn hcap hb hl hcl hs hc hr ih => exact .viewx xs n b off size cap u hn hcap hb (hnl b hl) hcl hs hc (fun i x j c hi hj => ih i x j c hi hj (AV.lt_closed _ _ (AV.closed_cells (hcl i x hi) hj)))
  | own id ver off len v hid ho hv hh => exact .own id ver off len v (by simpa [AV.lt] using h) ho (fun v' E s xs e => hv v' E s xs (hget id _ e)) (fun E s xs e => hh E s xs (hget id _ e))
  | vptr x off b o u hcl hb hl hc hr ih => exact .vptr x off b o u hcl hb (hnl b hl) hc (fun j c hj => ih j c hj (AV.lt_closed _ _ (AV.closed_cells hcl hj)))
  | optr id ver i off v hid ho hv hh => exact .optr id ver i off v (by simpa [AV.lt] using h) ho (fun v' E s xs e => hv v' E s xs (hget id _ e)) (fun E s xs e => hh E s xs (hget id _ e))
  | bptr id off v hid ho hh => exact .bptr id off v (by simpa [AV.lt] using h) ho (fun o e hp => hh o (hget id _ e) hp)
  | agg xs us hs hr ih => exact .agg xs us hs (fun i x u hi hu => ih i x u hi hu ((AV.ltL_iff _ _).1 (by simpa [AV.lt] using h) i x hi))
  | tup xs us hs hr ih => exact .tup xs us hs (fun i x u hi hu => ih i x u hi hu ((AV.ltL_iff _ _).1 (by simpa [AV.lt] using h) i x hi))
  | fn f xs us hs hr ih => exact .fn f xs us hs (fun i x u hi hu => ih i x u hi hu ((AV.ltL_iff _ _).1 (by simpa [AV.lt] using h) i x hi))
  | iface t x u hr ih => exact .iface t x u (ih (by simpa [AV.lt] using h))
def AO.lt (n : Nat) : AO → Bool
  | .box _ cs => AV.ltL n cs
  | _ => true
theorem St.lt (st : St B X w0 w φ H) : ∀ o ∈ H, o.lt H.length = true := fun o ho => by
  obtain ⟨id, hid⟩ := List.mem_iff_getElem?.1 ho
  cases o with
  | slice _ _ _ _ => rfl
  | iter _ _ => rfl
  | gone => rfl
  | box T cs =>
    obtain ⟨g, arr, _, _, h3, h4⟩ := st.chunk id _ hid
    simp only [AO.lt]
    refine (AV.ltL_iff _ _).2 fun i x hx => ?_
    have hi : i < arr.size := by rw [h3]; exact (List.getElem?_eq_some_iff.1 hx).1
    exact (h4 i x _ hx (Array.getElem?_eq_getElem hi)).1.lt
theorem St.drop {T : List AO} (st : St B X w0 w φ (H ++ T)) (h : ∀ o ∈ H, o.lt H.length = true) : St B X w0 w φ H := by
  have hget : ∀ (id : Nat) (o : AO), H[id]? = some o → (H ++ T)[id]? = some o := fun id o ho => by rw [List.getElem?_append_left (List.getElem?_eq_some_iff.1 ho).1]; exact ho
  refine ⟨st.frame, st.base, st.glob, fun id o b ho hl hv => st.live id o b (hget id o ho) hl hv, fun id id' o o' b h1 h2 h3 h4 h5 h6 => st.inj id id' o o' b (hget id o h1) h2 (hget id' o' h3) h4 h5 h6, fun id o ho => ?_⟩
  have hc := st.chunk id o (hget id o ho)
  cases o with
  | iter s p => exact hc
  | gone => trivial
  | slice v E s xs =>
    obtain ⟨cs, c1, c2, c3, c4⟩ := hc
    exact ⟨cs, c1, c2, c3, fun i x j c u hx hj hu => (c4 i x j c u hx hj hu).drop (AV.lt_closed _ _ (AV.closed_cells (c3 i x hx).1 hj))⟩
  | box T' cs =>
    obtain ⟨g, arr, c1, c2, c3, c4⟩ := hc
    refine ⟨g, arr, c1, c2, c3, fun i c u hx hu => ⟨(c4 i c u hx hu).1.drop ?_, (c4 i c u hx hu).2⟩⟩
    exact (AV.ltL_iff _ _).1 (by simpa [AO.lt] using h _ (List.mem_of_getElem? ho)) i c hx

/-- a callee's slots (the first n), behind them its caller's -/
def argEnvG (n : Nat) (args : List AV) (E : Env) : Env := fun t => if t < n then args.getD t (.sc (.tuple #[])) else E (t - n)
mutual
theorem AV.lt_mono {n m : Nat} (h : n ≤ m) : ∀ x : AV, AV.lt n x = true → AV.lt m x = true
  | .dead, _ => rfl
  | .sc _, _ => rfl
  | .int _ _, _ => rfl
  | .bool _, _ => rfl
  | .str _, _ => rfl
  | .view _ _, _ => rfl
  | .viewx _ _ _, _ => rfl
  | .vptr _ _, _ => rfl
  | .own _ _ _ _, h' => by simp [AV.lt] at h' ⊢; omega
  | .optr _ _ _ _, h' => by simp [AV.lt] at h' ⊢; omega
  | .bptr _ _, h' => by simp [AV.lt] at h' ⊢; omega
  | .agg xs, h' => by simp only [AV.lt] at h' ⊢; exact AV.ltL_mono h xs h'
  | .tup xs, h' => by simp only [AV.lt] at h' ⊢; exact AV.ltL_mono h xs h'
  | .fn _ xs, h' => by simp only [AV.lt] at h' ⊢; exact AV.ltL_mono h xs h'
  | .iface _ x, h' => by simp only [AV.lt] at h' ⊢; exact AV.lt_mono h x h'
theorem AV.ltL_mono {n m : Nat} (h : n ≤ m) : ∀ xs : List AV, AV.ltL n xs = true → AV.ltL m xs = true
  | [], _ => rfl
  | x :: r, h' => by
    simp only [AV.ltL, Bool.and_eq_true] at h' ⊢
    exact ⟨AV.lt_mono h x h'.1, AV.ltL_mono h r h'.2⟩
end
theorem AO.lt_mono {n m : Nat} (h : n ≤ m) {o : AO} (ho : o.lt n = true) : o.lt m = true := by
  cases o with
  | box _ cs => exact AV.ltL_mono h cs ho
  | _ => rfl
/-- the objects of H' name objects of H' alone, if those of N do of N -/
def Kept (N H' : List AO) : Prop := N.length ≤ H'.length ∧ ((∀ o ∈ N, o.lt N.length = true) → ∀ o ∈ H', o.lt H'.length = true)
/-- the end of a call in place: the objects are H', and scratch behind them -/
def FinIn (P : Program) (n : Nat) (rs : List ResultVar) (N : List AO) (E : Env) (K : AV → Env → List AO → Prop) : Post := fun ex env H =>
  (match ex with
    | .ret | .normal => True
    | _ => False) ∧ (∀ t, env (t + n) = E t) ∧ resK P rs env H fun xs => ∃ H' T, H = H' ++ T ∧ Kept N H' ∧ AV.lt H'.length (oneOf xs) = true ∧ K (oneOf xs) E H'
theorem callIn_of {f : FuncId} {fn : Func} {args : List AV} {E : Env} {K : AV → Env → List AO → Prop} {n : Nat} {rs : List ResultVar} (hf : P.funcs[f]? = some fn) (hbs : fn.body.isSome = true) (hname : (fn.name == "runtime.NumGoroutine") = false) (hnt : fn.ntmps = n) (hrs : fn.results.toList = rs)
    (hlen : args.length ≤ n) (hres' : resOK n rs = true)
    (h : J P n (fn.body.getD .skip) (argEnvG n args E) H (FinIn P n rs H E K)) : CallIn P f args H E K := by
  subst hnt hrs
  have hres := hres'
  have hname : fn.name ≠ "runtime.NumGoroutine" := by simpa using hname
  obtain ⟨c, hb⟩ := Option.isSome_iff_exists.1 hbs
  rw [hb] at h
  simp only [Option.getD_some] at h
  refine ⟨⟨fn, hf, by simp [hb], hname⟩, fun B X w0 w φ vals g st hsz hr hg => ?_⟩
  refine calls_of_wp hf hb ?_
  have eo : EnvOK w φ H (argEnvG fn.ntmps args E) { tmps := vals ++ Array.replicate (fn.ntmps - vals.size) undef, defers := [] } fn.ntmps ⟨fun t => g (t - fn.ntmps), []⟩ := by
    refine ⟨by simp; omega, rfl, fun t ht => ?_, fun t ht => by unfold argEnvG; rw [if_neg (by omega)]; exact hg _⟩
    dsimp only
    unfold argEnvG
    rw [if_pos ht]
    rcases Nat.lt_or_ge t args.length with hlt | hge
    · have h1 : args[t]? = some args[t] := List.getElem?_eq_getElem hlt
      have h2 : vals[t]? = some vals[t] := Array.getElem?_eq_getElem (by omega)
      have e1 : args.getD t (.sc (.tuple #[])) = args[t] := by rw [List.getD_eq_getElem?_getD, h1]; rfl
      have e2 : (vals ++ Array.replicate (fn.ntmps - vals.size) undef).getD t undef = vals[t] := by
        rw [Array.getD_eq_getD_getElem?, Array.getElem?_append_left (by omega), h2]; rfl
      rw [e1, e2]
      exact hr t _ _ h1 h2
    · have e1 : args.getD t (.sc (.tuple #[])) = .sc (.tuple #[]) := by rw [List.getD_eq_getElem?_getD, List.getElem?_eq_none hge]; rfl
      have e2 : (vals ++ Array.replicate (fn.ntmps - vals.size) undef).getD t undef = undef := by
        rw [Array.getD_eq_getD_getElem?, Array.getElem?_append_right (by omega)]
        simp [Array.getElem?_replicate]
        split <;> rfl
      rw [e1, e2]
      exact .sc _
  refine wp_mono (h _ _ w0 w _ _ _ st eo) ?_
  rintro ex a w' ⟨env, H9, φ', ⟨hex, henv, hk⟩, st', eo'⟩
  have key : a.defers = [] ∧ ∃ v, (results fn a.tmps).run P w' = .ok v w' ∧ ∃ v2 ret E2 H2 φ2, Ending.returned v = .returned v2 ∧ K ret E2 H2 ∧ St B X w0 w' φ2 H2 ∧ R w' φ2 H2 ret v2 ∧ ∀ t, R w' φ2 H2 (E2 t) (g t) := by
    refine ⟨eo'.defers, ?_⟩
    obtain ⟨xs, vs, ⟨H', T, rfl, ⟨hle, hkept⟩, hlt, hk⟩, h2, h3, h4⟩ := resK_sound (P := P) st' eo' fn.results.toList hres hk
    have hrun : (results fn a.tmps).run P w' = .ok (if h : vs.toArray.size = 1 then vs.toArray[0] else .tuple vs.toArray) w' := by
      unfold results
      rw [← Array.toArray_toList (xs := fn.results), List.mapM_toArray]
      simp only [Sem.run_bind, Sem.run_map, Sem.run_pure]
      erw [h4]
      rfl
    refine ⟨_, hrun, _, _, _, _, _, rfl, hk, st'.drop (hkept st.lt), R.drop (T := T) ?_ hlt, fun t => ?_⟩
    · match xs, vs, h2, h3 with
      | [], [], _, h3 => exact .tup _ _ rfl (fun i x u hx => by simp at hx)
      | [x], [v], _, h3 => exact h3 0 x v rfl rfl
      | x :: y :: xs, v :: v' :: vs, h2, h3 =>
        have hne : ¬ ((v :: v' :: vs).toArray.size = 1) := by simp
        rw [dif_neg hne]
        exact .tup _ _ (by simpa using h2) (fun i x u hx hu => h3 i x u hx (by simpa using hu))
    · have := eo'.ghost (t + fn.ntmps) (by omega)
      dsimp only at this; rw [Nat.add_sub_cancel, henv] at this
      exact this.drop (AV.lt_mono hle _ (hg t).lt)
  cases ex with
  | ret => exact key
  | normal => exact key
  | exit id => exact hex.elim
  | goto l => exact hex.elim
  | panic c => exact hex.elim
  | outgrown => exact hex.elim
/-- the end of a call in place, as it is -/
def FinI (P : Program) (n : Nat) (rs : List ResultVar) (K : AV → Env → List AO → Prop) : Post := fun ex env H =>
  (match ex with
    | .ret | .normal => True
    | _ => False) ∧ resK P rs env H fun xs => K (oneOf xs) (fun t => env (t + n)) H
theorem callI_of {f : FuncId} {fn : Func} {args : List AV} {E : Env} {K : AV → Env → List AO → Prop} {n : Nat} {rs : List ResultVar} (hf : P.funcs[f]? = some fn) (hbs : fn.body.isSome = true) (hname : (fn.name == "runtime.NumGoroutine") = false) (hnt : fn.ntmps = n) (hrs : fn.results.toList = rs)
    (hlen : args.length ≤ n) (hres' : resOK n rs = true)
    (h : J P n (fn.body.getD .skip) (argEnvG n args E) H (FinI P n rs K)) : CallIn P f args H E K := by
  subst hnt hrs
  have hres := hres'
  have hname : fn.name ≠ "runtime.NumGoroutine" := by simpa using hname
  obtain ⟨c, hb⟩ := Option.isSome_iff_exists.1 hbs
  rw [hb] at h
  simp only [Option.getD_some] at h
  refine ⟨⟨fn, hf, by simp [hb], hname⟩, fun B X w0 w φ vals g st hsz hr hg => ?_⟩
  refine calls_of_wp hf hb ?_
  have eo : EnvOK w φ H (argEnvG fn.ntmps args E) { tmps := vals ++ Array.replicate (fn.ntmps - vals.size) undef, defers := [] } fn.ntmps ⟨fun t => g (t - fn.ntmps), []⟩ := by
    refine ⟨by simp; omega, rfl, fun t ht => ?_, fun t ht => by unfold argEnvG; rw [if_neg (by omega)]; exact hg _⟩
    dsimp only
    unfold argEnvG
    rw [if_pos ht]
    rcases Nat.lt_or_ge t args.length with hlt | hge
    · have h1 : args[t]? = some args[t] := List.getElem?_eq_getElem hlt
      have h2 : vals[t]? = some vals[t] := Array.getElem?_eq_getElem (by omega)
      have e1 : args.getD t (.sc (.tuple #[])) = args[t] := by rw [List.getD_eq_getElem?_getD, h1]; rfl
      have e2 : (vals ++ Array.replicate (fn.ntmps - vals.size) undef).getD t undef = vals[t] := by
        rw [Array.getD_eq_getD_getElem?, Array.getElem?_append_left (by omega), h2]; rfl
      rw [e1, e2]
      exact hr t _ _ h1 h2
    · have e1 : args.getD t (.sc (.tuple #[])) = .sc (.tuple #[]) := by rw [List.getD_eq_getElem?_getD, List.getElem?_eq_none hge]; rfl
      have e2 : (vals ++ Array.replicate (fn.ntmps - vals.size) undef).getD t undef = undef := by
        rw [Array.getD_eq_getD_getElem?, Array.getElem?_append_right (by omega)]
        simp [Array.getElem?_replicate]
        split <;> rfl
      rw [e1, e2]
      exact .sc _
  refine wp_mono (h _ _ w0 w _ _ _ st eo) ?_
  rintro ex a w' ⟨env, H9, φ', ⟨hex, hk⟩, st', eo'⟩
  have key : a.defers = [] ∧ ∃ v, (results fn a.tmps).run P w' = .ok v w' ∧ ∃ v2 ret E2 H2 φ2, Ending.returned v = .returned v2 ∧ K ret E2 H2 ∧ St B X w0 w' φ2 H2 ∧ R w' φ2 H2 ret v2 ∧ ∀ t, R w' φ2 H2 (E2 t) (g t) := by
    refine ⟨eo'.defers, ?_⟩
    obtain ⟨xs, vs, hk, h2, h3, h4⟩ := resK_sound (P := P) st' eo' fn.results.toList hres hk
    have hrun : (results fn a.tmps).run P w' = .ok (if h : vs.toArray.size = 1 then vs.toArray[0] else .tuple vs.toArray) w' := by
      unfold results
      rw [← Array.toArray_toList (xs := fn.results), List.mapM_toArray]
      simp only [Sem.run_bind, Sem.run_map, Sem.run_pure]
      erw [h4]
      rfl
    refine ⟨_, hrun, _, _, _, _, _, rfl, hk, st', ?_, fun t => ?_⟩
    · match xs, vs, h2, h3 with
      | [], [], _, h3 => exact .tup _ _ rfl (fun i x u hx => by simp at hx)
      | [x], [v], _, h3 => exact h3 0 x v rfl rfl
      | x :: y :: xs, v :: v' :: vs, h2, h3 =>
        have hne : ¬ ((v :: v' :: vs).toArray.size = 1) := by simp
        rw [dif_neg hne]
        exact .tup _ _ (by simpa using h2) (fun i x u hx hu => h3 i x u hx (by simpa using hu))
    · have := eo'.ghost (t + fn.ntmps) (by omega)
      dsimp only at this; rw [Nat.add_sub_cancel] at this
      exact this
  cases ex with
  | ret => exact key
  | normal => exact key
  | exit id => exact hex.elim
  | goto l => exact hex.elim
  | panic c => exact hex.elim
  | outgrown => exact hex.elim
/-- a call's objects may be told in another order, and fewer; the caller's slots too -/
theorem CallIn.sub {f : FuncId} {args args' : List AV} {H' : List AO} {E E' : Env} {K : AV → Env → List AO → Prop} (ids : List Nat) (nd : ids.Nodup) (hH : H' = renH ids H) (ha : args' = args.map (ren ids H)) (hE : ∀ t, E' t = .dead ∨ E' t = ren ids H (E t)) (h : CallIn P f args' H' E' K) : CallIn P f args H E K := by
  subst hH ha
  refine ⟨h.1, fun B X w0 w φ vals g st hsz hr hg => ?_⟩
  refine h.2 B X w0 w (renφ ids φ) vals g (st.ren nd) (by simpa using hsz) (fun i x v hx hv => ?_) (fun t => ?_)
  · simp only [List.getElem?_map, Option.map_eq_some_iff] at hx
    obtain ⟨y, hy, rfl⟩ := hx
    exact ren_R ids (hr i y v hy hv)
  · rcases hE t with e | e
    · rw [e]; exact .dead _
    · rw [e]; exact ren_R ids (hg t)

def condV (v : AV) [A : Ko Prop] [B : Ko Prop] : Prop := match v with
  | .bool b => (b = true → @Hold A) ∧ (b = false → @Hold B)
  | _ => False
theorem J_condV {env : Env} {K : Post} {c : Operand} {x y : Code} (hn : okO n c = true) (h : @condV (evO env c) ⟨J P n x env H K⟩ ⟨J P n y env H K⟩) : J P n (.cond c x y) env H K := by
  generalize hv : evO env c = v at h
  cases v <;> (try exact h.elim)
  rename_i b
  exact J_cond hn hv h.1 h.2
/-- a call by its contract -/
theorem call_ok {g : FuncId} {E : Env} {caps xs : List AV} {K : AV → Env → List AO → Prop} (args' : List AV) {ret : AV} {objs : List AO} (h : CallOK P g args' ret objs) (ha : argsR H (xs ++ caps) args') (k : K (sh H.length ret) E (H ++ objs.map (shO H.length))) : @callK P false H E (.fn g caps) xs ⟨K⟩ := .inl ⟨args', ret, objs, ha, h, k⟩
theorem call_okq {g : FuncId} {E : Env} {caps xs : List AV} {K : AV → Env → List AO → Prop} (args' : List AV) {ret : AV} (h : CallOK P g args' ret []) (ha : argsR H (xs ++ caps) args') (hf : ret.flatT = true) (k : K ret E H) : @callK P true H E (.fn g caps) xs ⟨K⟩ := ⟨args', ret, ha, h, hf, k⟩
theorem argR_m {x y : AV} (m : Bool) (h : arg m H x = y) : argR H x y := .inl (.inl ⟨m, h.symm⟩)
theorem argC_m {x y : AV} (m : Bool) (h : arg m H x = y) : argC H x y := .inl ⟨m, h.symm⟩
theorem argC_nil {s : Nat} : argC H (.sc (.slice none 0 0)) (.view s []) := .inr ⟨rfl, s, rfl⟩
theorem argR_agg {xs ys : List AV} (h : argsC H xs ys) : argR H (.agg xs) (.agg ys) := .inr (.inl ⟨xs, ys, rfl, rfl, h⟩)
theorem argR_box {id : Nat} {T : TypeId} {cs ys : List AV} (hH : H[id]? = some (.box T cs)) (h : argsC H cs ys) (hcl : AV.closedL ys = true := by rfl) : argR H (.bptr id 0) (.vptr (.agg ys) 0) := .inr (.inr ⟨id, T, cs, ys, rfl, hH, rfl, hcl, h⟩)
theorem argR_nil {s : Nat} : argR H (.sc (.slice none 0 0)) (.view s []) := .inl (.inr ⟨rfl, s, rfl⟩)
theorem call_in {g : FuncId} {E : Env} {caps xs : List AV} {K : AV → Env → List AO → Prop} (h : CallIn P g (xs ++ caps) H E K) : @callK P false H E (.fn g caps) xs ⟨K⟩ := .inr (.inl h)
theorem call_esc {g : FuncId} {E : Env} {x : AV} {K : AV → Env → List AO → Prop} (h : NoEsc P g) (k : K x E H) : @callK P false H E (.fn g []) [x] ⟨K⟩ := .inr (.inr ⟨h, x, rfl, k⟩)
theorem noEsc_of {f : FuncId} {fn : Func} (hf : P.funcs[f]? = some fn) (hname : (fn.name == "runtime.NumGoroutine") = false) (hb : fn.body.isNone = true) (hn : Extern.findNext fn = none) (he : Extern.find fn = some Extern.AbiNoEscape.same) : NoEsc P f := fun x w => by
  rw [run_callFunc_extern hf hname hb hn he, Lib.run_noEscape]
  rfl
theorem getK_map {α : Type} {f : α → AV} {l : List α} {i : Nat} {K : AV → Prop} (h : i < l.length) (k : K (f l[i])) : @GetK (l.map f) i ⟨K⟩ := ⟨f l[i], by simp [h], k⟩
theorem getK_some {α : Type} {f : α → AV} {l : List α} {i : Nat} {K : AV → Prop} {b : α} (h : l[i]? = some b) (k : K (f b)) : @GetK (l.map f) i ⟨K⟩ := ⟨f b, by simp [h], k⟩
theorem getB_some {l : List UInt8} {i : Nat} {K : UInt8 → Prop} {b : UInt8} (h : l[i]? = some b) (k : K b) : @GetB l i ⟨K⟩ := ⟨b, h, k⟩
theorem getB_at {l : List UInt8} {i : Nat} {K : UInt8 → Prop} (h : i < l.length) (k : K l[i]) : @GetB l i ⟨K⟩ := ⟨l[i], by simp [h], k⟩
theorem bytesK_map {l : List UInt8} {K : AV → Prop} (k : K (.str l)) : @BytesK (l.map encB) ⟨K⟩ := ⟨l, rfl, k⟩
theorem bytesK_of {xs : List AV} (l : List UInt8) {K : AV → Prop} (h : xs = l.map encB) (k : K (.str l)) : @BytesK xs ⟨K⟩ := ⟨l, h, k⟩
theorem imps2 {A B C D : Prop} (h1 : A → B) (h2 : C → D) : (A → B) ∧ (C → D) := ⟨h1, h2⟩
/-! what stands behind: one rule a shape -/
variable {env : Env} {K : Post} {y : Code}
theorem then_n (h : J P n y env H K) : Then P n y K .normal env H := h
theorem then_ret (h : K .ret env H) : Then P n y K .ret env H := h
theorem then_exit {id : Nat} (h : K (.exit id) env H) : Then P n y K (.exit id) env H := h
theorem block_n {id : Nat} (h : K .normal env H) : Block id K .normal env H := h
theorem block_ret {id : Nat} (h : K .ret env H) : Block id K .ret env H := h
theorem block_eq {id : Nat} (h : K .normal env H) : Block id K (.exit id) env H := by simpa [Block] using h
theorem block_ne {id id' : Nat} (hn : id' ≠ id) (h : K (.exit id') env H) : Block id K (.exit id') env H := by simpa [Block, hn] using h
theorem loop_ret {σ : Type} {E : σ → Env} {Hs : σ → List AO} {I : σ → Prop} {m : σ → Nat} {s : σ} (h : K .ret env H) : LoopK E Hs I m s K .ret env H := h
theorem loop_exit {σ : Type} {E : σ → Env} {Hs : σ → List AO} {I : σ → Prop} {m : σ → Nat} {s : σ} {id : Nat} (h : K (.exit id) env H) : LoopK E Hs I m s K (.exit id) env H := h
theorem loop_n {σ : Type} {E : σ → Env} {Hs : σ → List AO} {I : σ → Prop} {m : σ → Nat} {s : σ} (s' : σ) (h1 : I s') (h2 : m s' < m s) (h3 : Sub env H (E s') (Hs s')) : LoopK E Hs I m s K .normal env H := ⟨s', h1, h2, h3⟩
theorem fin_ret {rs : List ResultVar} {ret : AV} {objs : List AO} (h : resK P rs env H fun xs => ∃ ids : List Nat, ids.Nodup ∧ ret = ren ids H (oneOf xs) ∧ objs = renH ids H) : Fin P rs ret objs .ret env H := ⟨trivial, h⟩
theorem fin_n {rs : List ResultVar} {ret : AV} {objs : List AO} (h : resK P rs env H fun xs => ∃ ids : List Nat, ids.Nodup ∧ ret = ren ids H (oneOf xs) ∧ objs = renH ids H) : Fin P rs ret objs .normal env H := ⟨trivial, h⟩
theorem finIn_ret {rs : List ResultVar} {N : List AO} {E : Env} {K : AV → Env → List AO → Prop} (h : (∀ t, env (t + n) = E t) ∧ resK P rs env H fun xs => ∃ H' T, H = H' ++ T ∧ Kept N H' ∧ AV.lt H'.length (oneOf xs) = true ∧ K (oneOf xs) E H') : FinIn P n rs N E K .ret env H := ⟨trivial, h⟩
theorem finIn_n {rs : List ResultVar} {N : List AO} {E : Env} {K : AV → Env → List AO → Prop} (h : (∀ t, env (t + n) = E t) ∧ resK P rs env H fun xs => ∃ H' T, H = H' ++ T ∧ Kept N H' ∧ AV.lt H'.length (oneOf xs) = true ∧ K (oneOf xs) E H') : FinIn P n rs N E K .normal env H := ⟨trivial, h⟩
end
end Go.Av
namespace Go.Av
open Go.RowKit
set_option linter.unusedVariables false

section
variable {P : Program} {B : Nat} {X : Nat → Prop} {w0 w : World} {φ : Nat → Value} {H : List AO} {n : Nat}

theorem Ext.trans {a b c : World} (h : Ext a b) (k : Ext b c) : Ext a c := ⟨Nat.le_trans h.size k.size, fun i hi => (k.cells i (Nat.lt_of_lt_of_le hi h.size)).trans (h.cells i hi), fun i hi => (k.shape i (Nat.lt_of_lt_of_le hi h.size)).trans (h.shape i hi)⟩

/-- the class of worlds of a region: all that were there before are as they were -/
def Cls (w : World) (w' : World) : Prop := Gr w w'

theorem St.ext (st : St B X w0 w φ H) {w' : World} (g : Gr w w') : St B X w0 w' φ H ∧ Le w φ H w' φ H := by
  have hbase : B ≤ w.heap.size := Nat.le_trans st.base st.frame.size
  have le : Le w φ H w' φ H := ⟨g.size, fun b hb hn => ⟨hn, fun o => g.cell hb o⟩, Nat.le_refl _, fun id v E s xs _ h => ⟨v, E, s, xs, h, Nat.le_refl _⟩, fun _ _ _ _ xs' _ _ h => ⟨xs', h, rfl, rfl⟩, fun _ o _ h hp => ⟨o, h, hp, rfl⟩⟩
  refine ⟨⟨st.frame.trans ⟨g.os, g.tape, g.output, g.size, fun k hk _ => g.block k (by omega) (fun h => h)⟩, st.base, st.glob, fun id o b h hl hv => ?_, st.inj, fun id o h => ?_⟩, le⟩
  · have := st.live id o b h hl hv
    exact ⟨this.1, Nat.lt_of_lt_of_le this.2 g.size⟩
  · cases o with
    | iter s p => exact (st.chunk id _ h).keep le rfl fun b hv => g.block b (st.live id _ b h rfl hv).2 (fun h => h)
    | gone => trivial
    | slice v E s xs => exact (st.chunk id _ h).keep le rfl fun b hv => g.block b (st.live id _ b h rfl hv).2 (fun h => h)
    | box T cs => exact (st.chunk id _ h).keep le rfl fun b hv => g.block b (st.live id _ b h rfl hv).2 (fun h => h)

/-- a plain value is told by its description -/
def flatV : AV → Value
  | .sc v => v
  | .int k n => .int k n
  | .bool b => .bool b
  | .str s => .string ⟨s.toArray⟩
  | .tup xs => .tuple (xs.map fun | .sc v => v | .int k n => .int k n | .bool b => .bool b | .str s => .string ⟨s.toArray⟩ | _ => undef).toArray
  | _ => undef
theorem flat_eq {x : AV} {v : Value} (r : R w φ H x v) (h : x.flat = true) : v = flatV x := by
  cases x <;> simp [AV.flat] at h <;> (cases r; rfl)
theorem flatT_eq {x : AV} {v : Value} (r : R w φ H x v) (h : x.flatT = true) : v = flatV x := by
  cases x
  case tup xs =>
    cases r with
    | tup _ us hs hr =>
      simp only [AV.flatT] at h
      simp only [flatV]
      congr 1
      apply Array.ext (by simp [hs])
      intro i h1 h2
      have hx : xs[i]? = some (xs[i]'(by omega)) := List.getElem?_eq_getElem (by omega)
      have := flat_eq (hr i _ _ hx (Array.getElem?_eq_getElem h1)) (List.all_eq_true.1 h _ (List.getElem_mem _))
      rw [this]
      simp
      have hfl := List.all_eq_true.1 h (xs[i]'(by omega)) (List.getElem_mem _)
      generalize xs[i]'(by omega) = x at hfl
      cases x <;> simp [AV.flat] at hfl <;> rfl
  all_goals exact flat_eq r h
theorem flatT_R (w' : World) (φ' : Nat → Value) (H' : List AO) {x : AV} (h : x.flatT = true) : R w' φ' H' x (flatV x) := by
  have hf : ∀ y : AV, y.flat = true → R w' φ' H' y (flatV y) := fun y hy => by cases y <;> simp [AV.flat] at hy <;> constructor
  cases x
  case tup xs =>
    simp only [AV.flatT] at h
    refine .tup _ _ (by simp) fun i x u hi hu => ?_
    simp [hi] at hu
    have hfl := List.all_eq_true.1 h x (List.mem_of_getElem? hi)
    subst hu
    cases x <;> simp [AV.flat] at hfl <;> constructor
  all_goals exact hf _ h

/-- one operation, in every world of the class -/
theorem vOp_quiet (st : St B X w0 w φ H) {env : Env} {a : Act} {g : Gh} (eo : EnvOK w φ H env a n g) {o : Oper} (hn : opOK n o.op = true) {K : AV → Env → List AO → Prop} (h : vOp P true o.op o.type env H K)
    {next : Act → Prop} (hk : ∀ x v, K x env H → R w φ H x v → next (a.put o.dst v)) : o.quiet P a (Cls w) next := by
  have other : (if effOp P o.op env then true = false ∧ eOp P o.op o.type env H (fun x h => K x env h) else sOp P o.op env H fun x => K x env H) → o.quiet P a (Cls w) next := fun h => by
    by_cases he : effOp P o.op env = true
    · rw [if_pos he] at h; exact absurd h.1 (by simp)
    · rw [if_neg he] at h
      obtain ⟨x, v, h1, h2, h3⟩ := sOp_sound st eo hn h
      refine ⟨v, fun w' hw => ?_, hk x v h1 h2⟩
      unfold Oper.quietAt
      rw [h3 w' hw.ext]
      exact ⟨rfl, rfl⟩
  obtain ⟨dst, op, ty, pos, after, guard⟩ := o
  dsimp only at h other hk
  cases op
  case call c =>
    obtain ⟨callee, args, argTypes⟩ := c
    cases callee
    case value f =>
      simp only [vOp, callK] at h
      have ev : ∀ x, x ∈ (Op.call { callee := .value f, args := args, argTypes := argTypes }).operands.toList → R w φ H (evO env x) (a.eval x) := fun x hx => evO_R eo x (List.all_eq_true.1 hn x hx)
      have rf := ev f (by simp [Op.operands, Call.operands])
      generalize hfe : a.eval f = vf at rf
      generalize evO env f = ef at h rf
      cases ef <;> (try exact h.elim)
      rename_i g caps
      cases rf with
      | fn _ _ us hs hr =>
        simp only [callV, if_true] at h
        obtain ⟨args', ret, har, ⟨hpf, hrv, hov, hc⟩, hfl, hk'⟩ := h
        refine ⟨flatV ret, fun w' hw => ?_, hk ret _ hk' (flatT_R w φ H hfl)⟩
        obtain ⟨st', le⟩ := st.ext hw
        have hargs := hc w' (args.map a.eval ++ us) st'.gw (by rw [(argsR_get har).1]; simp [hs]) (fun i x v hx hv => by
          obtain ⟨y, hy, hxy⟩ := (argsR_get har).2 i x hx
          refine argR_R st' ?_ hxy
          rcases Nat.lt_or_ge i args.size with hlt | hge
          · rw [List.getElem?_append_left (by simpa using hlt), List.getElem?_map, Option.map_eq_some_iff] at hy
            obtain ⟨z, hz, rfl⟩ := hy
            rw [Array.getElem?_append_left (by simpa using hlt), Array.getElem?_map, Option.map_eq_some_iff] at hv
            obtain ⟨z', hz', rfl⟩ := hv
            simp at hz
            rw [hz] at hz'
            simp at hz'
            subst hz'
            exact (ev z (by simp [Op.operands, Call.operands]; exact .inr (Array.mem_of_getElem? hz))).le le
          · rw [List.getElem?_append_right (by simpa using hge)] at hy
            rw [Array.getElem?_append_right (by simpa using hge)] at hv
            simp at hy hv
            exact (hr _ y v hy hv).le le)
        have hrun : (execOp a.eval { dst := dst, op := Op.call { callee := .value f, args := args, argTypes := argTypes }, type := ty, pos := pos, after := after, guard := guard }).run P w' = .ok (.enter g (args.map a.eval ++ us)) w' := by
          simp [execOp, resolve, hfe, Deferred.ofValue, invoke, run_callFunc hpf]
        unfold Oper.quietAt
        rw [hrun]
        refine ⟨rfl, hargs.mono fun e w'' ⟨v, φc, he, hg, hh, hret⟩ => ?_⟩
        exact ⟨by rw [he, flatT_eq hret hfl], Gr.trans hw hg⟩
    case invoke r m => exact absurd h vOp_inv_q
    case builtin b => exact other h
  case build T parts =>
    obtain ⟨x, v, h1, h2, h3⟩ := build_sound (ρ := a.eval) (fun p hp => evO_R eo p.2 (List.all_eq_true.1 hn _ (by simp only [Op.operands]; exact List.mem_map.2 ⟨p, hp, rfl⟩))) (by first | exact h | (simp only [vOp] at h; exact h) | (simp only [fOp] at h; exact h))
    refine ⟨v, fun w' hw => ?_, hk x v h1 h2⟩
    unfold Oper.quietAt
    rw [show (execOp a.eval { dst := dst, op := Op.build T parts, type := ty, pos := pos, after := after, guard := guard }).run P w' = .ok (.value v) w' by simp only [execOp, Sem.run_bind, h3, Result.andThen_ok, Sem.run_pure]]
    exact ⟨rfl, rfl⟩
  all_goals exact other h

theorem VO_quiet {g : Gh} {ops : Array Oper} {Q : Act → Prop} {K : Env → List AO → Prop} (st : St B X w0 w φ H) (hq : ∀ env a, K env H → EnvOK w φ H env a n g → Q a) :
    ∀ (l : List Oper), (∀ o ∈ l, o ∈ ops.toList) → regOK n ops = true → ∀ (env : Env) (a : Act), VO P true ops l env H K → (∀ o ∈ l, True) → EnvOK w φ H env a n g → wpQuiet P ops (Cls w) Q l a
  | [], _, _, env, a, h, _, eo => hq env a h eo
  | o :: rest, hmem, hok, env, a, h, ht, eo => by
    have hon := List.all_eq_true.1 hok o (hmem o (by simp))
    simp only [Bool.and_eq_true] at hon
    have step : ∀ env, EnvOK w φ H env a n g → vOp P true o.op o.type env H (fun x e h => VO P true ops rest (put e o.dst x) h K) → o.quiet P a (Cls w) (wpQuiet P ops (Cls w) Q rest) := fun env eo h =>
      vOp_quiet st eo hon.1.1 h fun x v hk r => VO_quiet st hq rest (fun o ho => hmem o (by simp [ho])) hok _ _ hk (fun _ _ => trivial) (eo.put o.dst hon.1.2 r)
    unfold wpQuiet
    unfold VO at h
    rcases hg : o.guard with _ | ⟨j, want⟩
    · rw [hg] at h
      rw [if_pos (by simp [Region.wanted, hg])]
      exact step env eo h
    · rw [hg] at h
      dsimp only at h
      rcases hd : (ops[j]?).bind (·.dst) with _ | d
      · rw [hd] at h; exact h.elim
      · rw [hd] at h
        dsimp only at h
        have hdn : d < n := by
          have := hon.2
          rw [hg] at this
          dsimp only at this
          rw [hd] at this
          simpa using this
        have hy : ∀ v, a.tmps.getD d undef = v → yielded ops a.tmps j = (match v with | .bool b => some b | _ => none) := fun v hv => by
          have hlt : d < a.tmps.size := by rw [eo.size]; exact hdn
          unfold yielded
          rw [hd]
          have : a.tmps[d]? = some v := by rw [← hv, Array.getD_eq_getD_getElem?, Array.getElem?_eq_getElem hlt]; rfl
          simp only [Option.bind_some, this]
          cases v <;> rfl
        have hr := eo.slot d hdn
        have skip : ∀ env', EnvOK w φ H env' a n g → VO P true ops rest (put env' o.dst (.sc (.tuple #[]))) H K → wpQuiet P ops (Cls w) Q rest (a.put o.dst undef) := fun env' eo' h' =>
          VO_quiet st hq rest (fun o ho => hmem o (by simp [ho])) hok _ _ h' (fun _ _ => trivial) (put_dead eo' o.dst hon.1.2)
        generalize hed : env d = ed at h hr
        cases ed <;> (try exact h.elim)
        case bool b =>
          dsimp only at h
          have hv : a.tmps.getD d undef = .bool b := by generalize a.tmps.getD d undef = v at hr; cases hr; rfl
          have hyb := hy _ hv
          dsimp only at hyb
          by_cases hb : b = want
          · rw [if_pos (by simp [Region.wanted, hg, hyb, hb])]
            refine step _ (eo.say d hdn ?_) (h.1 hb)
            rw [hv, hb]; exact .bool _
          · rw [if_neg (by simp [Region.wanted, hg, hyb, hb])]
            have hb' : b = !want := by cases b <;> cases want <;> simp_all
            refine skip _ (eo.say d hdn ?_) (h.2 hb')
            rw [hv, hb']; exact .bool _
        case sc u =>
          cases u <;> (try exact h.elim)
          rename_i us
          have hv : a.tmps.getD d undef = .tuple us := by generalize a.tmps.getD d undef = v at hr; cases hr; rfl
          have hyb := hy _ hv
          dsimp only at hyb
          rw [if_neg (by simp [Region.wanted, hg, hyb])]
          exact skip _ eo h

theorem J_regionq {id : Nat} {ops : Array Oper} {env : Env} {K : Post} (hm : P.follows .mixedOrders = true) (hB : Region.lexB .any ops = true) (hok : regOK n ops = true) (h : VO P true ops ops.toList env H fun e h => @Hold2 e h ⟨fun e h => K .normal e h⟩) : J P n (.region id ops true) env H K := by
  intro B X w0 w φ a g st eo
  refine wp_region_quiet (C := Cls w) hm hB (Gr.drew w) ?_
  refine VO_quiet (g := g) (K := fun e h => K .normal e h) st (fun env a k eo w' hw => ?_) ops.toList (fun o ho => ho) hok env a h (fun _ _ => trivial) eo
  obtain ⟨st', le⟩ := st.ext hw
  exact ⟨env, H, φ, k, st', eo.le le⟩
/-- the same, held against 'wpStill' -/
theorem vOp_still (st : St B X w0 w φ H) {env : Env} {a : Act} {g : Gh} (eo : EnvOK w φ H env a n g) {o : Oper} (hn : opOK n o.op = true) (hc : (match o.op with
    | .call { callee := .value _, args := _, argTypes := _ } => false
    | _ => true) = true) {K : AV → Env → List AO → Prop} (h : vOp P true o.op o.type env H K) : ∃ x v, K x env H ∧ R w φ H x v ∧ (execOp a.eval o).run P w = .ok (.value v) w := by
  have other : (if effOp P o.op env then true = false ∧ eOp P o.op o.type env H (fun x h => K x env h) else sOp P o.op env H fun x => K x env H) → ∃ x v, K x env H ∧ R w φ H x v ∧ (execOp a.eval o).run P w = .ok (.value v) w := fun h => by
    by_cases he : effOp P o.op env = true
    · rw [if_pos he] at h; exact absurd h.1 (by simp)
    · rw [if_neg he] at h
      obtain ⟨x, v, h1, h2, h3⟩ := sOp_sound st eo hn h
      exact ⟨x, v, h1, h2, h3 w (Ext.refl w)⟩
  obtain ⟨dst, op, ty, pos, after, guard⟩ := o
  dsimp only at h other hc
  cases op
  case call c =>
    obtain ⟨callee, args, argTypes⟩ := c
    cases callee
    case value f => simp at hc
    case invoke r m => exact absurd h vOp_inv_q
    case builtin b => exact other h
  case build T parts =>
    obtain ⟨x, v, h1, h2, h3⟩ := build_sound (ρ := a.eval) (fun p hp => evO_R eo p.2 (List.all_eq_true.1 hn _ (by simp only [Op.operands]; exact List.mem_map.2 ⟨p, hp, rfl⟩))) (by first | exact h | (simp only [vOp] at h; exact h) | (simp only [fOp] at h; exact h))
    exact ⟨x, v, h1, h2, by simp only [execOp, Sem.run_bind, h3, Result.andThen_ok, Sem.run_pure]⟩
  all_goals exact other h

def noCall (o : Oper) : Bool := match o.op with
  | .call { callee := .value _, args := _, argTypes := _ } => false
  | _ => true
theorem VO_still {g : Gh} {ops : Array Oper} {Q : Act → Prop} {K : Env → List AO → Prop} (st : St B X w0 w φ H) (hq : ∀ env a, K env H → EnvOK w φ H env a n g → Q a) :
    ∀ (l : List Oper), (∀ o ∈ l, o ∈ ops.toList) → regOK n ops = true → l.all noCall = true → ∀ (env : Env) (a : Act), VO P true ops l env H K → EnvOK w φ H env a n g → wpStill P ops w Q l a
  | [], _, _, _, env, a, h, eo => hq env a h eo
  | o :: rest, hmem, hok, hnc, env, a, h, eo => by
    have hon := List.all_eq_true.1 hok o (hmem o (by simp))
    simp only [Bool.and_eq_true] at hon
    simp only [List.all_cons, Bool.and_eq_true] at hnc
    have step : ∀ env, EnvOK w φ H env a n g → vOp P true o.op o.type env H (fun x e h => VO P true ops rest (put e o.dst x) h K) → o.still P a w (wpStill P ops w Q rest) := fun env eo h => by
      obtain ⟨x, v, hk, r, hrun⟩ := vOp_still st eo hon.1.1 hnc.1 h
      unfold Oper.still
      rw [hrun, Oper.stillUpon_value]
      exact VO_still st hq rest (fun o ho => hmem o (by simp [ho])) hok hnc.2 _ _ hk (eo.put o.dst hon.1.2 r)
    unfold wpStill
    unfold VO at h
    rcases hg : o.guard with _ | ⟨j, want⟩
    · rw [hg] at h
      rw [if_pos (by simp [Region.wanted, hg])]
      exact step env eo h
    · rw [hg] at h
      dsimp only at h
      rcases hd : (ops[j]?).bind (·.dst) with _ | d
      · rw [hd] at h; exact h.elim
      · rw [hd] at h
        dsimp only at h
        have hdn : d < n := by
          have := hon.2
          rw [hg] at this
          dsimp only at this
          rw [hd] at this
          simpa using this
        have hy : ∀ v, a.tmps.getD d undef = v → yielded ops a.tmps j = (match v with | .bool b => some b | _ => none) := fun v hv => by
          have hlt : d < a.tmps.size := by rw [eo.size]; exact hdn
          unfold yielded
          rw [hd]
          have : a.tmps[d]? = some v := by rw [← hv, Array.getD_eq_getD_getElem?, Array.getElem?_eq_getElem hlt]; rfl
          simp only [Option.bind_some, this]
          cases v <;> rfl
        have hr := eo.slot d hdn
        have skip : ∀ env', EnvOK w φ H env' a n g → VO P true ops rest (put env' o.dst (.sc (.tuple #[]))) H K → wpStill P ops w Q rest (a.put o.dst undef) := fun env' eo' h' =>
          VO_still st hq rest (fun o ho => hmem o (by simp [ho])) hok hnc.2 _ _ h' (put_dead eo' o.dst hon.1.2)
        generalize hed : env d = ed at h hr
        cases ed <;> (try exact h.elim)
        case bool b =>
          dsimp only at h
          have hv : a.tmps.getD d undef = .bool b := by generalize a.tmps.getD d undef = v at hr; cases hr; rfl
          have hyb := hy _ hv
          dsimp only at hyb
          by_cases hb : b = want
          · rw [if_pos (by simp [Region.wanted, hg, hyb, hb])]
            refine step _ (eo.say d hdn ?_) (h.1 hb)
            rw [hv, hb]; exact .bool _
          · rw [if_neg (by simp [Region.wanted, hg, hyb, hb])]
            have hb' : b = !want := by cases b <;> cases want <;> simp_all
            refine skip _ (eo.say d hdn ?_) (h.2 hb')
            rw [hv, hb']; exact .bool _
        case sc u =>
          cases u <;> (try exact h.elim)
          rename_i us
          have hv : a.tmps.getD d undef = .tuple us := by generalize a.tmps.getD d undef = v at hr; cases hr; rfl
          have hyb := hy _ hv
          dsimp only at hyb
          rw [if_neg (by simp [Region.wanted, hg, hyb])]
          exact skip _ eo h

/-- a region that draws its order: the first m operations leave the memory alone and call nothing, the others come behind them in their order -/
theorem J_regiont {id : Nat} {ops : Array Oper} {env : Env} {K : Post} (m : Nat) (hm : P.follows .mixedOrders = true) (hB : Region.lexTailB .any ops m = true) (hok : regOK n ops = true) (hnc : (ops.toList.take m).all noCall = true)
    (h : VO P true ops (ops.toList.take m) env H fun e h => VO P false ops (ops.toList.drop m) e h fun e h => @Hold2 e h ⟨fun e h => K .normal e h⟩) : J P n (.region id ops true) env H K := by
  intro B X w0 w φ a g st eo
  obtain ⟨l⟩ := ops
  refine wp_region_still_tail m hm hB ?_
  obtain ⟨st', le⟩ := st.ext (Gr.drew w)
  refine VO_still (g := g) (K := fun e h => VO P false l.toArray (l.drop m) e h fun e h => K .normal e h) st' (fun env a k eo => ?_) (l.take m) (fun o ho => List.mem_of_mem_take ho) hok hnc env a h (eo.le le)
  exact VO_sound (g := g) (K := fun e h => K .normal e h) (fun env H φ w a k st eo => ⟨env, H, φ, k, st, eo⟩) (l.drop m) (fun o ho => List.mem_of_mem_drop ho) hok env H _ φ a k st' eo
end
end Go.Av
namespace Go.Av
theorem upd_at (e : Env) (d t : Nat) (v : AV) : upd e d v t = if t = d then v else e t := rfl
theorem argEnv_at (args : List AV) (t : Nat) : argEnv args t = args.getD t (.sc (.tuple #[])) := rfl
theorem argEnvG_at (n : Nat) (args : List AV) (E : Env) (t : Nat) : argEnvG n args E t = if t < n then args.getD t (.sc (.tuple #[])) else E (t - n) := rfl
theorem argEnvG_up (n : Nat) (args : List AV) (E : Env) (t : Nat) : argEnvG n args E (t + n) = E t := by
  unfold argEnvG
  rw [if_neg (by omega), Nat.add_sub_cancel]
theorem getD_zero {α : Type} (x d : α) (l : List α) : (x :: l).getD 0 d = x := rfl
@[congr] theorem ldV_congr {P : Program} {T : TypeId} {cs cs' : List AV} {K : AV → Prop} (h2 : cs = cs') : ldV P T cs K = ldV P T cs' K := by subst_vars; rfl
@[congr] theorem binI_congr {op : BinOp} {k : IntKind} {a a' : Int} {b b' : Int} {K : AV → Prop} (h2 : a = a') (h3 : b = b') : binI op k a b K = binI op k a' b' K := by subst_vars; rfl
@[congr] theorem shiftI_congr {op : BinOp} {k : IntKind} {a a' : Int} {b b' : Int} {K : AV → Prop} (h2 : a = a') (h3 : b = b') : shiftI op k a b K = shiftI op k a' b' K := by subst_vars; rfl
@[congr] theorem binS_congr {op : BinOp} {a a' : List UInt8} {b b' : List UInt8} {K : AV → Prop} (h1 : a = a') (h2 : b = b') : binS op a b K = binS op a' b' K := by subst_vars; rfl
@[congr] theorem binB_congr {op : BinOp} {a a' : Bool} {b b' : Bool} {K : AV → Prop} (h1 : a = a') (h2 : b = b') : binB op a b K = binB op a' b' K := by subst_vars; rfl
@[congr] theorem slV_congr {P : Program} {T : TypeId} {H H' : List AO} {x x' : AV} {lo lo' : Option AV} {hi hi' : Option AV} {K : AV → Prop} (h2 : H = H') (h3 : x = x') (h4 : lo = lo') (h5 : hi = hi') : slV P T H x lo hi K = slV P T H' x' lo' hi' K := by subst_vars; rfl
@[congr] theorem bytesV_congr {P : Program} {src : TypeId} {dst : TypeId} {H H' : List AO} {x x' : AV} {K : AV → Prop} (h3 : H = H') (h4 : x = x') : bytesV P src dst H x K = bytesV P src dst H' x' K := by subst_vars; rfl
@[congr] theorem convV_congr {P : Program} {src : TypeId} {dst : TypeId} {H H' : List AO} {x x' : AV} {K : AV → Prop} (h3 : H = H') (h4 : x = x') : convV P src dst H x K = convV P src dst H' x' K := by subst_vars; rfl
@[congr] theorem ixV_congr {P : Program} {T : TypeId} {H H' : List AO} {x x' : AV} {i i' : AV} {K : AV → Prop} (h2 : H = H') (h3 : x = x') (h4 : i = i') : ixV P T H x i K = ixV P T H' x' i' K := by subst_vars; rfl
@[congr] theorem paV_congr {p p' : AV} {d d' : Nat} {K : AV → Prop} (h0 : p = p') (h1 : d = d') : paV p d K = paV p' d' K := by subst_vars; rfl
@[congr] theorem faV_congr {P : Program} {H H' : List AO} {T : TypeId} {p p' : AV} {i i' : Nat} {K : AV → Prop} (h1 : H = H') (h3 : p = p') (h4 : i = i') : faV P H T p i K = faV P H' T p' i' K := by subst_vars; rfl
@[congr] theorem lenV_congr {P : Program} {t : TypeId} {H H' : List AO} {x x' : AV} {K : AV → Prop} (h2 : H = H') (h3 : x = x') : lenV P t H x K = lenV P t H' x' K := by subst_vars; rfl
@[congr] theorem eqB_congr {op : BinOp} {b b' : Bool} {K : AV → Prop} (h1 : b = b') : eqB op b K = eqB op b' K := by subst_vars; rfl
@[congr] theorem binP_congr {P : Program} {H H' : List AO} {op : BinOp} {T : TypeId} {x x' : AV} {y y' : AV} {K : AV → Prop} (h1 : H = H') (h4 : x = x') (h5 : y = y') : binP P H op T x y K = binP P H' op T x' y' K := by subst_vars; rfl
@[congr] theorem binV_congr {P : Program} {H H' : List AO} {op : BinOp} {T : TypeId} {x x' : AV} {y y' : AV} {K : AV → Prop} (h1 : H = H') (h4 : x = x') (h5 : y = y') : binV P H op T x y K = binV P H' op T x' y' K := by subst_vars; rfl
@[congr] theorem unV_congr {op : UnOp} {x x' : AV} {K : AV → Prop} (h1 : x = x') : unV op x K = unV op x' K := by subst_vars; rfl
@[congr] theorem ncV_congr {H H' : List AO} {x x' : AV} {K : AV → Prop} (h0 : H = H') (h1 : x = x') : ncV H x K = ncV H' x' K := by subst_vars; rfl
@[congr] theorem usdV_congr {H H' : List AO} {x x' : AV} {K : AV → Prop} (h0 : H = H') (h1 : x = x') : usdV H x K = usdV H' x' K := by subst_vars; rfl
@[congr] theorem sOp_congr {P : Program} {op op' : Op} {env env' : Env} {H H' : List AO} {K : AV → Prop} (h1 : op = op') (h2 : env = env') (h3 : H = H') : sOp P op env H K = sOp P op' env' H' K := by subst_vars; rfl
@[congr] theorem appN_congr {E : TypeId} {s s' : Nat} {H H' : List AO} {ys ys' : List AV} {K : AV → List AO → Prop} (h1 : s = s') (h2 : H = H') (h3 : ys = ys') : appN E s H ys K = appN E s' H' ys' K := by subst_vars; rfl
@[congr] theorem appV_congr {P : Program} {t : TypeId} {t2 : TypeId} {H H' : List AO} {x x' : AV} {y y' : AV} {K : AV → List AO → Prop} (h3 : H = H') (h4 : x = x') (h5 : y = y') : appV P t t2 H x y K = appV P t t2 H' x' y' K := by subst_vars; rfl
@[congr] theorem usV_congr {P : Program} {pt : TypeId} {H H' : List AO} {p p' : AV} {n n' : AV} {K : AV → List AO → Prop} (h2 : H = H') (h3 : p = p') (h4 : n = n') : usV P pt H p n K = usV P pt H' p' n' K := by subst_vars; rfl
@[congr] theorem stoV_congr {P : Program} {T : TypeId} {H H' : List AO} {p p' : AV} {x x' : AV} {K : AV → List AO → Prop} (h2 : H = H') (h3 : p = p') (h4 : x = x') : stoV P T H p x K = stoV P T H' p' x' K := by subst_vars; rfl
@[congr] theorem eOp_congr {P : Program} {op op' : Op} {ty : TypeId} {env env' : Env} {H H' : List AO} {K : AV → List AO → Prop} (h1 : op = op') (h3 : env = env') (h4 : H = H') : eOp P op ty env H K = eOp P op' ty env' H' K := by subst_vars; rfl
@[congr] theorem vOp_congr {P : Program} {q : Bool} {op op' : Op} {ty : TypeId} {env env' : Env} {H H' : List AO} {K : AV → Env → List AO → Prop} (h2 : op = op') (h4 : env = env') (h5 : H = H') : vOp P q op ty env H K = vOp P q op' ty env' H' K := by subst_vars; rfl
@[congr] theorem VO_congr {P : Program} {q : Bool} {ops : Array Oper} {l l' : List Oper} {env env' : Env} {H H' : List AO} {K : Env → List AO → Prop} (h0 : l = l') (h1 : env = env') (h2 : H = H') : VO P q ops l env H K = VO P q ops l' env' H' K := by subst_vars; rfl
@[congr] theorem resK_congr {P : Program} {l : List ResultVar} {env env' : Env} {H H' : List AO} {K : List AV → Prop} (h1 : env = env') (h2 : H = H') : resK P l env H K = resK P l env' H' K := by subst_vars; rfl
@[congr] theorem J_congr {P : Program} {n : Nat} {c : Code} {env env' : Env} {H H' : List AO} {K : Post} (h1 : env = env') (h2 : H = H') : J P n c env H K = J P n c env' H' K := by rw [h1, h2]
@[congr] theorem Then_congr {P : Program} {n : Nat} {c : Code} {ex : Exit} {env env' : Env} {H H' : List AO} {K : Post} (h1 : env = env') (h2 : H = H') : Then P n c K ex env H = Then P n c K ex env' H' := by rw [h1, h2]
@[congr] theorem Block_congr {id : Nat} {ex : Exit} {env env' : Env} {H H' : List AO} {K : Post} (h1 : env = env') (h2 : H = H') : Block id K ex env H = Block id K ex env' H' := by rw [h1, h2]
@[congr] theorem LoopK_congr {σ : Type} {E : σ → Env} {Hs : σ → List AO} {I : σ → Prop} {m : σ → Nat} {s : σ} {ex : Exit} {env env' : Env} {H H' : List AO} {K : Post} (h1 : env = env') (h2 : H = H') : LoopK E Hs I m s K ex env H = LoopK E Hs I m s K ex env' H' := by rw [h1, h2]
@[congr] theorem Fin_congr {P : Program} {rs : List ResultVar} {ret : AV} {objs : List AO} {ex : Exit} {env env' : Env} {H H' : List AO} (h1 : env = env') (h2 : H = H') : Fin P rs ret objs ex env H = Fin P rs ret objs ex env' H' := by rw [h1, h2]
theorem envL_nil (t : Nat) : envL [] t = .dead := rfl
theorem envL_cons (k : Nat) (v : AV) (l : List (Nat × AV)) (t : Nat) : envL ((k, v) :: l) t = if t = k then v else envL l t := by
  unfold envL
  rw [List.lookup_cons]
  by_cases h : t = k
  · subst h; simp
  · have : (t == k) = false := by simpa using h
    simp [this, h]
attribute [go_sem] envL_nil envL_cons
attribute [go_sem] fillA placeA splice elsB List.all_cons List.all_nil AV.one List.range_succ List.range_zero List.take_zero List.take_succ_cons AV.flatT AV.flat beq_self_eq_true
theorem one_nilS : (Value.slice none 0 0).oneCell' = true := rfl
theorem one_nilP : (Value.pointer none).oneCell' = true := rfl
theorem one_nilI : Value.nilIface.oneCell' = true := rfl
theorem one_nilF : Value.nilFunc.oneCell' = true := rfl
theorem one_nilM : (Value.map none).oneCell' = true := rfl
attribute [go_sem] one_nilS one_nilP one_nilI one_nilF one_nilM List.set_cons_zero List.set_cons_succ Nat.le_refl
theorem take_map_len {α β : Type} (f : α → β) (l : List α) : (l.map f).take l.length = l.map f := List.take_of_length_le (Nat.le_of_eq (List.length_map ..))
attribute [go_sem high] argEnvG_up
attribute [go_sem] take_map_len
attribute [go_sem] eqA eqK Bool.and_true Option.map_some binP nilP somP sameP liveB eqB usdV usV Bool.and_false Bool.false_and List.cons_ne_nil guardK_tt guardK_ff guardK_tf guardK_ft intC_u8 intC_i8 intC_i16 intC_i32 intC_i64 intC_u16 intC_u32 intC_u64 constA
attribute [go_sem ↓] VO vOp sOp eOp
attribute [go_sem] nilV_nil nilV_iface isNilC effOp binV binI shiftI binS binB unV ldP ldV ixV paV faV lenV slV arV convV bytesV elemsV stoV ncV nextV iv ivl evO put upd_at AV.cells
  argEnv_at argEnvG_at List.getElem?_toArray List.toList_toArray resK oneOf sh sh2 sh1 shO Bool.false_eq_true Bool.true_eq_false if_false if_true true_and and_true List.getD_cons_zero List.getD_cons_succ Option.bind_some Option.map_some Option.map_none List.map_cons List.map_nil List.append_nil List.nil_append AV.closed AV.closedL Bool.and_true Bool.true_and Bool.not_true Bool.not_false List.getElem?_cons_zero List.getElem?_cons_succ List.drop_zero List.drop_succ_cons List.length_cons List.length_nil Option.isSome_some Option.getD_some List.length_map List.cons_append Nat.zero_add Nat.add_zero
/-! bytes -/
theorem iadd_b (a b : UInt8) : iadd .u8 (b2i a) (b2i b) = b2i (a + b) := by
  simp only [iadd, b2i, UInt8.toNat_add]; show (((a.toNat : Int) + b.toNat) % 256 : Int) = _; omega
theorem isub_b (a b : UInt8) : isub .u8 (b2i a) (b2i b) = b2i (a - b) := by
  have ha := a.toNat_lt; have hb := b.toNat_lt
  simp only [isub, b2i, UInt8.toNat_sub]; show (((a.toNat : Int) - b.toNat) % 256 : Int) = _; omega
def toB (n : Int) : UInt8 := UInt8.ofNat (n % 256).toNat
theorem icv_toB (k : IntKind) (n : Int) : icv k .u8 n = b2i (toB n) := by
  simp only [icv, b2i, toB, UInt8.toNat_ofNat']; show (n % 256 : Int) = _; omega
theorem icv_b64 (b : UInt8) : icv .u8 .i64 (b2i b) = b2i b := by
  have hb := b.toNat_lt
  have : inR .i64 (b2i b) := by simp only [inR, b2i]; omega
  exact wrap_inR this
theorem icv_b32 (b : UInt8) : icv .u8 .i32 (b2i b) = b2i b := by
  have hb := b.toNat_lt
  have : inR .i32 (b2i b) := by simp only [inR, b2i]; omega
  exact wrap_inR this
theorem icv_bu32 (b : UInt8) : icv .u8 .u32 (b2i b) = b2i b := by
  have hb := b.toNat_lt
  have : inR .u32 (b2i b) := by simp only [inR, b2i]; omega
  exact wrap_inR this
theorem icv_bu64 (b : UInt8) : icv .u8 .u64 (b2i b) = b2i b := by
  have hb := b.toNat_lt
  have : inR .u64 (b2i b) := by simp only [inR, b2i]; omega
  exact wrap_inR this
def iand (k : IntKind) (a b : Int) : Int := bitsI .and k a b
def ior (k : IntKind) (a b : Int) : Int := bitsI .or k a b
def ixor (k : IntKind) (a b : Int) : Int := bitsI .xor k a b
def iandn (k : IntKind) (a b : Int) : Int := bitsI .andNot k a b
theorem bitsI_and (k : IntKind) (a b : Int) : bitsI .and k a b = iand k a b := rfl
theorem bitsI_or (k : IntKind) (a b : Int) : bitsI .or k a b = ior k a b := rfl
theorem bitsI_xor (k : IntKind) (a b : Int) : bitsI .xor k a b = ixor k a b := rfl
theorem bitsI_andn (k : IntKind) (a b : Int) : bitsI .andNot k a b = iandn k a b := rfl
theorem ofInt_b (a : UInt8) : BitVec.ofInt IntKind.u8.bits (b2i a) = a.toBitVec := by
  apply BitVec.eq_of_toNat_eq
  have ha := a.toNat_lt
  simp only [b2i, BitVec.toNat_ofInt, IntKind.bits, UInt8.toNat_toBitVec]
  omega
theorem wrapNat_b (n : Nat) (h : n < 256) : IntKind.u8.wrap (n : Int) = n := by show ((n : Int) % 256 : Int) = _; omega
theorem iand_b (a b : UInt8) : iand .u8 (b2i a) (b2i b) = b2i (a &&& b) := by
  simp only [iand, bitsI, ofInt_b]
  exact wrapNat_b _ (BitVec.isLt _)
theorem ior_b (a b : UInt8) : ior .u8 (b2i a) (b2i b) = b2i (a ||| b) := by
  simp only [ior, bitsI, ofInt_b]
  exact wrapNat_b _ (BitVec.isLt _)
theorem ixor_b (a b : UInt8) : ixor .u8 (b2i a) (b2i b) = b2i (a ^^^ b) := by
  simp only [ixor, bitsI, ofInt_b]
  exact wrapNat_b _ (BitVec.isLt _)
theorem encB_b (b : UInt8) : encB b = .int .u8 (b2i b) := rfl
/-! how an element stands in a list -/
def encI (k : IntKind) (n : Int) : AV := .int k n
def encS (s : List UInt8) : AV := .str s
def encO (b : Bool) : AV := .bool b
/-- a slice as an element -/
def encL {α : Type} (s : Nat) (f : α → AV) (l : List α) : AV := .view s (l.map f)
theorem encI_i (k : IntKind) (n : Int) : encI k n = .int k n := rfl
theorem encS_s (s : List UInt8) : encS s = .str s := rfl
theorem encO_o (b : Bool) : encO b = .bool b := rfl
theorem encL_l {α : Type} (s : Nat) (f : α → AV) (l : List α) : encL s f l = .view s (l.map f) := rfl
attribute [go_sem] iadd_b isub_b icv_toB icv_b64 icv_b32 icv_bu32 icv_bu64 bitsI_and bitsI_or bitsI_xor bitsI_andn iand_b ior_b ixor_b encB_b encI_i encS_s encO_o encL_l
end Go.Av
namespace Go.Av
open Go.RowKit
set_option linter.unusedVariables false

section
variable {P : Program} {n : Nat} {env : Env} {H : List AO} {K : Post}
theorem condV_tt {A B : Prop} : @condV (.bool true) ⟨A⟩ ⟨B⟩ = A := by simp [condV, Hold]
theorem condV_ff {A B : Prop} : @condV (.bool false) ⟨A⟩ ⟨B⟩ = B := by simp [condV, Hold]
theorem condV_t {b : Bool} {A B : Prop} (h : b = true) (k : A) : @condV (.bool b) ⟨A⟩ ⟨B⟩ := ⟨fun _ => k, fun e => by subst h; simp at e⟩
theorem condV_f {b : Bool} {A B : Prop} (h : b = false) (k : B) : @condV (.bool b) ⟨A⟩ ⟨B⟩ := ⟨fun e => by subst h; simp at e, fun _ => k⟩
theorem condV_split {b : Bool} {A B : Prop} (h1 : b = true → A) (h2 : b = false → B) : @condV (.bool b) ⟨A⟩ ⟨B⟩ := ⟨h1, h2⟩
theorem guard_split {b : Bool} {A B : Prop} (h1 : b = true → A) (h2 : b = false → B) : @guardK b true ⟨A⟩ ⟨B⟩ := ⟨h1, h2⟩
attribute [go_sem] condV_tt condV_ff

/-! what the pure functions are made of -/
/-- there is room -/
def szC (n : Nat) : Option Unit := if n ≤ 140737488355328 then some () else none
/-- a condition -/
def chk (b : Bool) : Option Unit := if b then some () else none
theorem szC_le {n : Nat} {u : Unit} (h : szC n = some u) : n ≤ 140737488355328 := by
  unfold szC at h; split at h
  · assumption
  · simp at h
theorem szC_63 {n : Nat} {u : Unit} (h : szC n = some u) : n ≤ 9223372036854775807 := Nat.le_trans (szC_le h) (by decide)
/-- so many places may be made -/
def mkC (n : Int) : Option Unit := if 0 ≤ n ∧ n ≤ 1099511627776 then some () else none
theorem mkC_prop {n : Int} {u : Unit} (h : mkC n = some u) : 0 ≤ n ∧ n ≤ 1099511627776 := by
  unfold mkC at h; split at h
  · assumption
  · simp at h
theorem mk_of {n : Int} {b : Nat} {u : Unit} {K : Prop} (h : mkC n = some u) (hb : b ≤ 128) (k : K) : @MkK n b ⟨K⟩ := by
  obtain ⟨h0, h1⟩ := mkC_prop h
  have h2 : n.toNat ≤ 1099511627776 := by omega
  exact ⟨h0, Nat.le_trans (Nat.mul_le_mul h2 hb) (by decide), h2, k⟩
theorem repl_b (n : Nat) : List.replicate n (AV.int .u8 0) = List.map encB (List.replicate n (bC 0)) := by rw [List.map_replicate]; rfl
theorem repl_32 (n : Nat) : List.replicate n (AV.int .i32 0) = List.map (encI .i32) (List.replicate n 0) := by rw [List.map_replicate]; rfl
theorem repl_64 (n : Nat) : List.replicate n (AV.int .i64 0) = List.map (encI .i64) (List.replicate n 0) := by rw [List.map_replicate]; rfl
attribute [go_sem] repl_b repl_32 repl_64
theorem chk_true {b : Bool} {u : Unit} (h : chk b = some u) : b = true := by
  unfold chk at h; split at h
  · assumption
  · simp at h
theorem chk_prop {p : Prop} [Decidable p] {u : Unit} (h : chk (decide p) = some u) : p := of_decide_eq_true (chk_true h)
theorem bind_cases {α β : Type} {o : Option α} {f : α → Option β} {r : β} (h : o.bind f = some r) : ∃ x, o = some x ∧ f x = some r := by
  cases o with
  | none => simp at h
  | some x => exact ⟨x, rfl, h⟩
theorem map_cases {α β : Type} {o : Option α} {f : α → β} {r : β} (h : Option.map f o = some r) : ∃ q, o = some q ∧ r = f q := by
  cases o with
  | none => simp at h
  | some x => exact ⟨x, rfl, by simpa using h.symm⟩
theorem ite_cases {b : Bool} {α : Type} {x y : Option α} {r : α} (h : (if b = true then x else y) = some r) : (b = true ∧ x = some r) ∨ (b = false ∧ y = some r) := by
  cases b
  · exact .inr ⟨rfl, by simpa using h⟩
  · exact .inl ⟨rfl, by simpa using h⟩

/-! where ways meet -/
def JoinK {σ : Type} (E : σ → Env) (Hs : σ → List AO) (I : σ → Prop) (K : Post) : Post := fun ex e h => match ex with
  | .normal => ∃ s, I s ∧ Sub e h (E s) (Hs s)
  | ex => K ex e h
theorem J_join {σ : Type} {x y : Code} (E : σ → Env) (Hs : σ → List AO) (I : σ → Prop) (h1 : J P n x env H (JoinK E Hs I K)) (h2 : ∀ s, I s → J P n y (E s) (Hs s) K) : J P n (.seq x y) env H K := by
  intro B X w0 w φ a g st eo
  refine wp_seq (wp_mono (h1 B X w0 w φ a g st eo) ?_)
  rintro ex a w ⟨e, H, φ, k, st, eo⟩
  cases ex with
  | normal =>
    obtain ⟨s, hs, hsub⟩ := k
    obtain ⟨φ', st', eo'⟩ := hsub.st st eo
    exact h2 s hs B X w0 w φ' a g st' eo'
  | _ => exact ⟨e, H, φ, k, st, eo⟩
theorem join_n {σ : Type} {E : σ → Env} {Hs : σ → List AO} {I : σ → Prop} (s : σ) (h1 : I s) (h3 : Sub env H (E s) (Hs s)) : JoinK E Hs I K .normal env H := ⟨s, h1, h3⟩
theorem join_ret {σ : Type} {E : σ → Env} {Hs : σ → List AO} {I : σ → Prop} (h : K .ret env H) : JoinK E Hs I K .ret env H := h
theorem join_exit {σ : Type} {E : σ → Env} {Hs : σ → List AO} {I : σ → Prop} {id : Nat} (h : K (.exit id) env H) : JoinK E Hs I K (.exit id) env H := h
/-- K takes a state told otherwise -/
def SubC (K : Post) : Prop := ∀ e h e' h', Sub e h e' h' → K .normal e' h' → K .normal e h
theorem subC_then {y : Code} {K : Post} : SubC (Then P n y K) := fun _ _ _ _ s k => J.sub s k
theorem subC_block {id : Nat} {K : Post} (h : SubC K) : SubC (Block id K) := fun _ _ _ _ s k => h _ _ _ _ s k
theorem J_joinK {σ : Type} {x : Code} (E : σ → Env) (Hs : σ → List AO) (I : σ → Prop) (hc : SubC K) (h1 : J P n x env H (JoinK E Hs I K)) (h2 : ∀ s, I s → K .normal (E s) (Hs s)) : J P n x env H K :=
  h1.mono fun ex e h k => by
    cases ex with
    | normal =>
      obtain ⟨s, hs, hsub⟩ := k
      exact hc _ _ _ _ hsub (h2 s hs)
    | _ => exact k
theorem finI_ret {rs : List ResultVar} {K : AV → Env → List AO → Prop} (h : resK P rs env H fun xs => K (oneOf xs) (fun t => env (t + n)) H) : FinI P n rs K .ret env H := ⟨trivial, h⟩
theorem finI_n {rs : List ResultVar} {K : AV → Env → List AO → Prop} (h : resK P rs env H fun xs => K (oneOf xs) (fun t => env (t + n)) H) : FinI P n rs K .normal env H := ⟨trivial, h⟩
theorem fin_of {xs : AV} {ret : AV} {objs : List AO} (ids : List Nat) (h0 : ids.Nodup) (h1 : ret = ren ids H xs) (h2 : objs = renH ids H) : ∃ ids : List Nat, ids.Nodup ∧ ret = ren ids H xs ∧ objs = renH ids H := ⟨ids, h0, h1, h2⟩
/-- the state told otherwise -/
theorem J_as {c : Code} (l : List (Nat × AV)) (H' : List AO) (ids : List Nat) (nd : ids.Nodup) (hH : H' = renH ids H) (hl : ∀ p ∈ l, p.2 = Av.ren ids H (env p.1)) (h : J P n c (envL l) H' K) : J P n c env H K := J.sub (Sub.of l H' ids nd hH hl) h
/-- a nil slice in a variable is a slice of our own, of no places -/
theorem J_prom {c : Code} (E : TypeId) (s : Nat) (hs : 0 < s) (id i : Nat) (T : TypeId) (cs : List AV) (hH : H[id]? = some (.box T cs)) (hc : cs[i]? = some (.sc (.slice none 0 0)))
    (h : J P n c env (H.set id (.box T (cs.set i (.own H.length 0 0 0))) ++ [.slice 0 E s []]) K) : J P n c env H K := by
  intro B X w0 w φ a g st eo
  have hid : id < H.length := (List.getElem?_eq_some_iff.1 hH).1
  have le1 : Le w φ H w (updφ φ H.length (.slice none 0 0)) (H ++ [.slice 0 E s []]) := Le_new (Gr.refl w) _ _ (fun b hb => by simp [vblk] at hb)
  have st1 : St B X w0 w (updφ φ H.length (.slice none 0 0)) (H ++ [.slice 0 E s []]) := St.new st (Gr.refl w) (.slice none 0 0) (.slice 0 E s []) (fun b hb => by simp [vblk] at hb)
    ⟨[], ⟨by simp, by simp, .inl ⟨by rw [updφ_same], rfl⟩⟩, hs, fun i x hx => by simp at hx, fun i x j c u hx => by simp at hx⟩
  generalize hφ : updφ φ H.length (.slice none 0 0) = φ1 at *
  have hH1 : (H ++ [AO.slice 0 E s []])[id]? = some (.box T cs) := by rw [List.getElem?_append_left hid]; exact hH
  have hlive : AO.live (.box T cs) = true := rfl
  have e0 : (H ++ [AO.slice 0 E s []]).set id (.box T (cs.set i (.own H.length 0 0 0))) = H.set id (.box T (cs.set i (.own H.length 0 0 0))) ++ [.slice 0 E s []] := by rw [List.set_append_left _ _ hid]
  obtain ⟨gg, arr, c1, c2, c3, c4⟩ := st1.chunk id _ hH1
  have le2 : Le w φ1 (H ++ [AO.slice 0 E s []]) w (updφ φ1 id (φ1 id)) ((H ++ [AO.slice 0 E s []]).set id (.box T (cs.set i (.own H.length 0 0 0)))) :=
    Le_upd st1 hH1 hlive (Nat.le_refl _) (fun k _ _ => rfl) (φ1 id) (fun b hb => .inl hb) ⟨rfl, rfl⟩
  have st2 : St B X w0 w (updφ φ1 id (φ1 id)) ((H ++ [AO.slice 0 E s []]).set id (.box T (cs.set i (.own H.length 0 0 0)))) :=
    St.upd st1 hH1 hlive rfl rfl rfl (Nat.le_refl _) (fun k _ _ => rfl) (φ1 id) (fun b hb => ⟨.inl hb, (st1.live id _ b hH1 hlive hb).2⟩) ⟨rfl, rfl⟩ (by
      refine ⟨gg, arr, by rw [updφ_same]; exact c1, c2, by rw [List.length_set]; exact c3, fun k c u hk hu => ?_⟩
      by_cases e : k = i
      · subst e
        have hik : k < cs.length := (List.getElem?_eq_some_iff.1 hc).1
        rw [List.getElem?_set_self hik] at hk
        simp only [Option.some.injEq] at hk
        subst hk
        have hv := (c4 k _ u hc hu)
        have hu0 : u = .slice none 0 0 := by
          have := hv.1
          generalize u = z at this
          cases this
          rfl
        subst hu0
        refine ⟨.own _ _ _ _ _ (by simp) rfl (fun _ _ _ _ _ => Nat.zero_le _) fun E' s' xs' hx => ?_, rfl⟩
        have hne : H.length ≠ id := by omega
        rw [List.getElem?_set_ne (Ne.symm hne)] at hx
        simp at hx
        obtain ⟨rfl, rfl, rfl⟩ := hx
        refine ⟨by simp, .inl ⟨?_, rfl, rfl⟩⟩
        rw [updφ_ne _ _ _ _ hne, ← hφ, updφ_same]
      · rw [List.getElem?_set_ne (Ne.symm e)] at hk
        exact ⟨(c4 k c u hk hu).1.le le2, (c4 k c u hk hu).2⟩)
  rw [e0] at st2 le2
  exact h B X w0 w _ a g st2 ((eo.le le1).le le2)
/-- a slot that holds nil, or a struct with nil in its place i -/
inductive Prom (m : Nat) : AV → AV → Prop
  | nil : Prom m (.sc (.slice none 0 0)) (.own m 0 0 0)
  | agg (i : Nat) (xs : List AV) (h : xs[i]? = some (.sc (.slice none 0 0))) : Prom m (.agg xs) (.agg (xs.set i (.own m 0 0 0)))
theorem J_promV {c : Code} (E : TypeId) (s : Nat) (hs : 0 < s) (t : Nat) (x' : AV) (hx : Prom H.length (env t) x') (h : J P n c (upd env t x') (H ++ [.slice 0 E s []]) K) : J P n c env H K := by
  intro B X w0 w φ a g st eo
  have le1 : Le w φ H w (updφ φ H.length (.slice none 0 0)) (H ++ [.slice 0 E s []]) := Le_new (Gr.refl w) _ _ (fun b hb => by simp [vblk] at hb)
  have st1 : St B X w0 w (updφ φ H.length (.slice none 0 0)) (H ++ [.slice 0 E s []]) := St.new st (Gr.refl w) (.slice none 0 0) (.slice 0 E s []) (fun b hb => by simp [vblk] at hb)
    ⟨[], ⟨by simp, by simp, .inl ⟨by rw [updφ_same], rfl⟩⟩, hs, fun i x hx => by simp at hx, fun i x j c u hx => by simp at hx⟩
  have own : R w (updφ φ H.length (.slice none 0 0)) (H ++ [.slice 0 E s []]) (.own H.length 0 0 0) (.slice none 0 0) :=
    .own _ _ _ _ _ (by simp) rfl (fun _ _ _ _ _ => Nat.zero_le _) fun E' s' xs' hx => by
      simp at hx
      obtain ⟨rfl, rfl, rfl⟩ := hx
      exact ⟨by simp, .inl ⟨by rw [updφ_same], rfl, rfl⟩⟩
  have key : ∀ v, R w φ H (env t) v → R w (updφ φ H.length (.slice none 0 0)) (H ++ [.slice 0 E s []]) x' v := fun v r => by
    generalize env t = y at hx r
    cases hx with
    | nil => cases r; exact own
    | agg i xs hi =>
      cases r with
      | agg _ us hsz hr =>
        refine .agg _ us (by simpa using hsz) fun k x u hk hu => ?_
        by_cases e : k = i
        · subst e
          rw [List.getElem?_set_self (List.getElem?_eq_some_iff.1 hi).1] at hk
          simp only [Option.some.injEq] at hk
          subst hk
          have := hr k _ u hi hu
          generalize u = z at this
          cases this
          exact own
        · rw [List.getElem?_set_ne (Ne.symm e)] at hk
          exact (hr k x u hk hu).le le1
  refine h B X w0 w _ a g st1 ⟨eo.size, eo.defers, fun k hk => ?_, fun k hk => ?_⟩
  · by_cases e : k = t
    · subst e; simp only [upd, if_true]; exact key _ (eo.slot k hk)
    · simp only [upd, if_neg e]; exact (eo.slot k hk).le le1
  · by_cases e : k = t
    · subst e; simp only [upd, if_true]; exact key _ (eo.ghost k hk)
    · simp only [upd, if_neg e]; exact (eo.ghost k hk).le le1
end

/-! a call in place, told anew behind it -/
def ToldK (ret : AV) (e : Env) (h : List AO) [K : Ko (AV → Env → List AO → Prop)] : Prop := K.k ret e h
theorem told_of {ret : AV} {e : Env} {h : List AO} {K : AV → Env → List AO → Prop} (k : K ret e h) : @ToldK ret e h ⟨K⟩ := k
theorem call_join {P : Program} {σ : Type} {g : FuncId} {caps xs : List AV} {H : List AO} {E0 : Env} {K : AV → Env → List AO → Prop} (RV : σ → AV) (E : σ → Env) (Hs : σ → List AO) (I : σ → Prop)
    (h : CallIn P g (xs ++ caps) H E0 fun ret e h => @ToldK ret e h ⟨fun ret e h => ∃ s, I s ∧ ∃ ids : List Nat, ids.Nodup ∧ Hs s = renH ids h ∧ RV s = ren ids h ret ∧ ∀ t, E s t = .dead ∨ E s t = ren ids h (e t)⟩) (k : ∀ s, I s → K (RV s) (E s) (Hs s)) :
    @callK P false H E0 (.fn g caps) xs ⟨K⟩ := by
  refine call_in ⟨h.1, fun B X w0 w φ vals gg st hs hr hg => (h.2 B X w0 w φ vals gg st hs hr hg).mono ?_⟩
  rintro e w' ⟨v, ret, E', H', φ', he, ⟨s, hs, ids, nd, e1, e2, e3⟩, st', hv, hE⟩
  refine ⟨v, RV s, E s, Hs s, renφ ids φ', he, k s hs, by rw [e1]; exact st'.ren nd, by rw [e1, e2]; exact ren_R ids hv, fun t => ?_⟩
  rw [e1]
  rcases e3 t with h3 | h3
  · rw [h3]; exact .dead _
  · rw [h3]; exact ren_R ids (hE t)
theorem subR_of {H : List AO} {e : Env} {ret : AV} (l : List (Nat × AV)) (H' : List AO) (rv : AV) (ids : List Nat) (nd : ids.Nodup) (hH : H' = renH ids H) (hr : rv = ren ids H ret) (hl : ∀ p ∈ l, p.2 = Av.ren ids H (e p.1)) :
    ∃ ids : List Nat, ids.Nodup ∧ H' = renH ids H ∧ rv = ren ids H ret ∧ ∀ t, envL l t = .dead ∨ envL l t = ren ids H (e t) := by
  obtain ⟨ids', nd', _, h'⟩ : ∃ ids' : List Nat, ids' = ids ∧ True ∧ ∀ t, envL l t = .dead ∨ envL l t = ren ids H (e t) := ⟨ids, rfl, trivial, fun t => by
    unfold envL
    induction l with
    | nil => exact .inl rfl
    | cons p l ih =>
      obtain ⟨k, v⟩ := p
      rw [List.lookup_cons]
      by_cases hk : t = k
      · subst hk
        have := hl (t, v) (by simp)
        right; simpa using this
      · have : (t == k) = false := by simpa using hk
        rw [this]
        exact ih fun p hp => hl p (List.mem_cons_of_mem _ hp)⟩
  exact ⟨ids, nd, hH, hr, h'⟩

/-! places and pieces -/
section
variable {α : Type} {f : α → AV}
theorem ixL_map {xs : List α} {i : Int} {x : α} (h : ixL xs i = some x) : ixL (xs.map f) i = some (f x) := by
  unfold ixL at h ⊢
  split at h
  · rw [List.getElem?_map, h, if_pos ‹_›]; rfl
  · simp at h
theorem ixV_of {xs : List α} {i : Int} {x : α} {K : AV → Prop} (h : ixL xs i = some x) (k : K (f x)) : @IxV (xs.map f) i ⟨K⟩ := ⟨_, ixL_map h, k⟩
theorem ixS_of {s : List UInt8} {i : Int} {c : UInt8} {K : UInt8 → Prop} (h : ixL s i = some c) (k : K c) : @IxS s i ⟨K⟩ := ⟨_, h, k⟩
theorem ixL_lt {xs : List α} {i : Int} {x : α} (h : ixL xs i = some x) : 0 ≤ i ∧ i < xs.length := by
  obtain ⟨h0, h1⟩ := ixL_some h
  have := (List.getElem?_eq_some_iff.1 h1).1
  omega
theorem ixO_of {xs : List α} {i : Int} {x : α} {K : Prop} (h : ixL xs i = some x) (k : K) : @IxO xs.length i ⟨K⟩ := ⟨(ixL_lt h).1, (ixL_lt h).2, k⟩
theorem ixO_at {len : Nat} {xs : List α} {i : Int} {x : α} {K : Prop} (hl : len = xs.length) (h : ixL xs i = some x) (k : K) : @IxO len i ⟨K⟩ := hl ▸ ixO_of h k
theorem own_take {xs : List α} {n : Nat} (h : n = xs.length) : List.take n (List.map f xs) = List.map f xs := by rw [h, take_map_len]
theorem getK_of {xs : List α} {i : Int} {x : α} {K : AV → Prop} (h : ixL xs i = some x) (k : K (f x)) : @GetK (xs.map f) i.toNat ⟨K⟩ := ⟨f x, by rw [List.getElem?_map, (ixL_some h).2]; rfl, k⟩
theorem slL_map {xs r : List α} {l h : Int} (e : slL xs l h = some r) : slL (xs.map f) l h = some (r.map f) := by
  unfold slL at e ⊢
  rw [List.length_map]
  split at e
  · rw [if_pos ‹_›]
    simp only [Option.some.injEq] at e
    subst e
    simp [List.map_take, List.map_drop]
  · simp at e
theorem slS_of {s r : List UInt8} {l h : Int} {K : AV → Prop} (e : slL s l h = some r) (k : K (.str r)) : @SlS s l h ⟨K⟩ := ⟨r, e, k⟩
theorem slV_of {sz : Nat} {xs r : List α} {l h : Int} {K : AV → Prop} (e : slL xs l h = some r) (k : K (.view sz (r.map f))) : @SlV sz (xs.map f) l h ⟨K⟩ := ⟨_, slL_map e, k⟩
theorem slL_prop {xs r : List α} {l h : Int} (e : slL xs l h = some r) : 0 ≤ l ∧ l ≤ h ∧ h ≤ xs.length ∧ r = (xs.take h.toNat).drop l.toNat := by
  unfold slL at e
  split at e
  · rename_i hh
    simp only [Option.some.injEq] at e
    exact ⟨hh.1, hh.2.1, hh.2.2, e.symm⟩
  · simp at e
theorem slO_of {xs r : List α} {l h : Int} {K : Nat → Nat → Prop} (e : slL xs l h = some r) (k : K (0 + l.toNat) (h - l).toNat) : @SlO xs.length 0 l h ⟨K⟩ := by
  obtain ⟨h0, h1, h2, _⟩ := slL_prop e
  exact ⟨h0, h1, by omega, k⟩
theorem own_cut {xs r : List α} {l h : Int} (e : slL xs l h = some r) : List.take (h - l).toNat (List.drop l.toNat (List.map f xs)) = List.map f r := by
  obtain ⟨h0, h1, h2, rfl⟩ := slL_prop e
  rw [← List.map_drop, ← List.map_take]
  congr 1
  rw [List.drop_take]
  congr 1
  omega
theorem own_cut0 {xs r : List α} {h : Int} (e : slL xs 0 h = some r) : List.take (h - 0).toNat (List.map f xs) = List.map f r := by
  have := own_cut (f := f) e
  rwa [Int.toNat_zero, List.drop_zero] at this
theorem slL_len {xs r : List α} {l h : Int} (e : slL xs l h = some r) : (h - l).toNat = r.length := by
  obtain ⟨h0, h1, h2, rfl⟩ := slL_prop e
  simp; omega
theorem cut_ix {xs r : List α} {h i : Int} {x : α} (e : slL xs 0 h = some r) (hx : ixL r i = some x) : ixL xs i = some x := by
  obtain ⟨h0, h1, h2, rfl⟩ := slL_prop e
  obtain ⟨i0, hi⟩ := ixL_some hx
  rw [Int.toNat_zero, List.drop_zero, List.getElem?_take] at hi
  split at hi
  · unfold ixL; rw [if_pos i0]; exact hi
  · simp at hi
theorem ixO_cut {xs r : List α} {h i : Int} {x : α} {K : Prop} (e : slL xs 0 h = some r) (hx : ixL r i = some x) (k : K) : @IxO (h - 0).toNat i ⟨K⟩ := by
  have h3 := ixL_lt hx
  rw [← slL_len e] at h3
  exact ⟨h3.1, h3.2, k⟩
/-- a piece of a piece: told by the whole, and the place where it begins -/
theorem own_len (xs : List α) : List.take xs.length (List.drop 0 (List.map f xs)) = List.map f xs := by rw [List.drop_zero, take_map_len]

/-! append -/
variable {P : Program} {H : List AO} {K : AV → List AO → Prop} {E t t2 : TypeId} {s b ver id : Nat} {u : Unit}
theorem room_le {n b : Nat} (h : n ≤ 140737488355328) (hb : b ≤ 1) : n * b ≤ 140737488355328 := Nat.le_trans (Nat.mul_le_mul h hb) (by decide)
theorem app_own (xs zs : List α) {y : AV} (hH : H[id]? = some (.slice ver E s (xs.map f))) (ht : tyS P t = some (E, s, b)) (hb : b ≤ 1) (hy : elemsV H y fun sy ys => sy = s ∧ ys = zs.map f) (hsz : szC (xs ++ zs).length = some u)
    (k : K (.own id (ver + 1) 0 (xs ++ zs).length) (H.set id (.slice (ver + 1) E s ((xs ++ zs).map f)))) : @appK P t t H (.own id ver 0 xs.length) y ⟨K⟩ := by
  have h2 := szC_le hsz
  rw [List.length_append] at h2
  have h3 := room_le h2 hb
  unfold appK appV
  simp only [ht, hH, true_and]
  have key : t = t ∧ elemsV H y fun sy ys => sy = s ∧ (xs.length + ys.length) * b ≤ 140737488355328 ∧ xs.length + ys.length ≤ 9223372036854775807 ∧ K (.own id (ver + 1) 0 (xs.length + ys.length)) (H.set id (.slice (ver + 1) E s ((xs.map f).take xs.length ++ ys))) := by
    refine ⟨rfl, ?_⟩
    have hk : ∀ sy ys, (sy = s ∧ ys = zs.map f) → sy = s ∧ (xs.length + ys.length) * b ≤ 140737488355328 ∧ xs.length + ys.length ≤ 9223372036854775807 ∧ K (.own id (ver + 1) 0 (xs.length + ys.length)) (H.set id (.slice (ver + 1) E s ((xs.map f).take xs.length ++ ys))) := by
      rintro sy ys ⟨rfl, rfl⟩
      rw [take_map_len, List.length_map, ← List.map_append, ← List.length_append]
      rw [List.length_append]
      exact ⟨rfl, h3, by omega, by rw [← List.length_append]; exact k⟩
    unfold elemsV at hy ⊢
    split at hy
    · exact hk _ _ hy
    · exact hk _ _ hy
    · split at hy
      · exact ⟨hy.1, hk _ _ hy.2⟩
      · exact hy.elim
    · exact hy.elim
  cases y <;> first | exact key | exact key.2 | exact ⟨trivial, key.2⟩ | (simp only [elemsV] at hy)
theorem app_str (xs bs : List UInt8) (hH : H[id]? = some (.slice ver E 1 (xs.map encB))) (ht : tyS P t = some (E, 1, b)) (hb : b ≤ 1) (h2 : isStr P t2 = true) (hsz : szC (xs ++ bs).length = some u)
    (k : K (.own id (ver + 1) 0 (xs ++ bs).length) (H.set id (.slice (ver + 1) E 1 ((xs ++ bs).map encB)))) : @appK P t t2 H (.own id ver 0 xs.length) (.str bs) ⟨K⟩ := by
  have h4 := szC_le hsz
  rw [List.length_append] at h4
  have h3 := room_le h4 hb
  unfold appK appV
  simp only [ht, hH, true_and]
  refine ⟨h2, h3, by omega, ?_⟩
  rw [take_map_len, ← List.map_append, ← List.length_append]
  exact k
theorem app_nil (zs : List α) {y : AV} (ht : tyS P t = some (E, s, b)) (hb : b ≤ 1) (hy : elemsV H y fun sy ys => sy = s ∧ ys = zs.map f) (hsz : szC zs.length = some u)
    (k : K (.own H.length 0 0 zs.length) (H ++ [.slice 0 E s (zs.map f)])) : @appK P t t H (.sc (.slice none 0 0)) y ⟨K⟩ := by
  have h2 := szC_le hsz
  have h3 := room_le h2 hb
  unfold appK appV
  simp only [ht]
  have key : t = t ∧ elemsV H y fun sy ys => sy = s ∧ ys.length * b ≤ 140737488355328 ∧ ys.length ≤ 9223372036854775807 ∧ appN E s H ys K := by
    refine ⟨rfl, ?_⟩
    have hk : ∀ sy ys, (sy = s ∧ ys = zs.map f) → sy = s ∧ ys.length * b ≤ 140737488355328 ∧ ys.length ≤ 9223372036854775807 ∧ appN E s H ys K := by
      rintro sy ys ⟨rfl, rfl⟩
      rw [List.length_map]
      refine ⟨rfl, h3, by omega, ?_⟩
      unfold appN
      rw [List.length_map]
      exact k
    unfold elemsV at hy ⊢
    split at hy
    · exact hk _ _ hy
    · exact hk _ _ hy
    · split at hy
      · exact ⟨hy.1, hk _ _ hy.2⟩
      · exact hy.elim
    · exact hy.elim
  cases y <;> first | exact key | exact key.2 | exact ⟨trivial, key.2⟩ | (simp only [elemsV] at hy)
theorem app_nilstr (bs : List UInt8) (ht : tyS P t = some (E, 1, b)) (hb : b ≤ 1) (h2 : isStr P t2 = true) (hsz : szC bs.length = some u)
    (k : K (.own H.length 0 0 bs.length) (H ++ [.slice 0 E 1 (bs.map encB)])) : @appK P t t2 H (.sc (.slice none 0 0)) (.str bs) ⟨K⟩ := by
  have h4 := szC_le hsz
  have h3 := room_le h4 hb
  unfold appK appV
  simp only [ht, true_and]
  refine ⟨h2, h3, by omega, ?_⟩
  unfold appN
  rw [List.length_map]
  exact k
/-- the same of elements of more than one byte: the room is counted in bytes -/
theorem app_ownW {c : Nat} (xs zs : List α) {y : AV} (hH : H[id]? = some (.slice ver E s (xs.map f))) (ht : tyS P t = some (E, s, b)) (hb : b ≤ c ∧ 1 ≤ c) (hy : elemsV H y fun sy ys => sy = s ∧ ys = zs.map f) (hsz : szC (c * (xs ++ zs).length) = some u)
    (k : K (.own id (ver + 1) 0 (xs ++ zs).length) (H.set id (.slice (ver + 1) E s ((xs ++ zs).map f)))) : @appK P t t H (.own id ver 0 xs.length) y ⟨K⟩ := by
  have h2 := szC_le hsz
  have h2b : (xs ++ zs).length * b ≤ c * (xs ++ zs).length := by rw [Nat.mul_comm]; exact Nat.mul_le_mul_right _ hb.1
  have h2c : 1 * (xs ++ zs).length ≤ c * (xs ++ zs).length := Nat.mul_le_mul_right _ hb.2
  rw [Nat.one_mul] at h2c
  rw [List.length_append] at h2 h2b h2c
  have h3 := Nat.le_trans h2b h2
  unfold appK appV
  simp only [ht, hH, true_and]
  have key : t = t ∧ elemsV H y fun sy ys => sy = s ∧ (xs.length + ys.length) * b ≤ 140737488355328 ∧ xs.length + ys.length ≤ 9223372036854775807 ∧ K (.own id (ver + 1) 0 (xs.length + ys.length)) (H.set id (.slice (ver + 1) E s ((xs.map f).take xs.length ++ ys))) := by
    refine ⟨rfl, ?_⟩
    have hk : ∀ sy ys, (sy = s ∧ ys = zs.map f) → sy = s ∧ (xs.length + ys.length) * b ≤ 140737488355328 ∧ xs.length + ys.length ≤ 9223372036854775807 ∧ K (.own id (ver + 1) 0 (xs.length + ys.length)) (H.set id (.slice (ver + 1) E s ((xs.map f).take xs.length ++ ys))) := by
      rintro sy ys ⟨rfl, rfl⟩
      rw [take_map_len, List.length_map, ← List.map_append, ← List.length_append]
      rw [List.length_append]
      exact ⟨rfl, h3, by omega, by rw [← List.length_append]; exact k⟩
    unfold elemsV at hy ⊢
    split at hy
    · exact hk _ _ hy
    · exact hk _ _ hy
    · split at hy
      · exact ⟨hy.1, hk _ _ hy.2⟩
      · exact hy.elim
    · exact hy.elim
  cases y <;> first | exact key | exact key.2 | exact ⟨trivial, key.2⟩ | (simp only [elemsV] at hy)
theorem app_nilW {c : Nat} (zs : List α) {y : AV} (ht : tyS P t = some (E, s, b)) (hb : b ≤ c ∧ 1 ≤ c) (hy : elemsV H y fun sy ys => sy = s ∧ ys = zs.map f) (hsz : szC (c * zs.length) = some u)
    (k : K (.own H.length 0 0 zs.length) (H ++ [.slice 0 E s (zs.map f)])) : @appK P t t H (.sc (.slice none 0 0)) y ⟨K⟩ := by
  have h2 := szC_le hsz
  have h3 : zs.length * b ≤ 140737488355328 := Nat.le_trans (by rw [Nat.mul_comm]; exact Nat.mul_le_mul_right _ hb.1) h2
  have h2c : 1 * zs.length ≤ c * zs.length := Nat.mul_le_mul_right _ hb.2
  rw [Nat.one_mul] at h2c
  unfold appK appV
  simp only [ht]
  have key : t = t ∧ elemsV H y fun sy ys => sy = s ∧ ys.length * b ≤ 140737488355328 ∧ ys.length ≤ 9223372036854775807 ∧ appN E s H ys K := by
    refine ⟨rfl, ?_⟩
    have hk : ∀ sy ys, (sy = s ∧ ys = zs.map f) → sy = s ∧ ys.length * b ≤ 140737488355328 ∧ ys.length ≤ 9223372036854775807 ∧ appN E s H ys K := by
      rintro sy ys ⟨rfl, rfl⟩
      rw [List.length_map]
      refine ⟨rfl, h3, by omega, ?_⟩
      unfold appN
      rw [List.length_map]
      exact k
    unfold elemsV at hy ⊢
    split at hy
    · exact hk _ _ hy
    · exact hk _ _ hy
    · split at hy
      · exact ⟨hy.1, hk _ _ hy.2⟩
      · exact hy.elim
    · exact hy.elim
  cases y <;> first | exact key | exact key.2 | exact ⟨trivial, key.2⟩ | (simp only [elemsV] at hy)
end

/-! an object that is wanted no more; objects behind the others -/
theorem St.kill {B : Nat} {X : Nat → Prop} {w0 w : World} {φ : Nat → Value} {H : List AO} (st : St B X w0 w φ H) {j : Nat} {o : AO} (hj : H[j]? = some o) (hl : o.live = true) : St B X w0 w (updφ φ j (φ j)) (H.set j .gone) ∧ Le w φ H w (updφ φ j (φ j)) (H.set j .gone) := by
  have hle : LeO o .gone (φ j) (φ j) := by cases o <;> simp_all [LeO, AO.live]
  exact ⟨St.upd st hj hl rfl rfl rfl (Nat.le_refl _) (fun _ _ _ => rfl) (φ j) (fun b hb => ⟨.inl hb, (st.live j o b hj hl hb).2⟩) hle trivial,
    Le_upd st hj hl (Nat.le_refl _) (fun _ _ _ => rfl) (φ j) (fun b hb => .inl hb) hle⟩
theorem set_same {α : Type} {H : List α} {i : Nat} {o : α} (h : H[i]? = some o) : H.set i o = H := by
  obtain ⟨hlt, he⟩ := List.getElem?_eq_some_iff.1 h
  rw [← he, List.set_getElem_self]
theorem set_get {α : Type} {H : List α} {i : Nat} {o p : α} (h : H[i]? = some o) : (H.set i p)[i]? = some p := List.getElem?_set_self (List.getElem?_eq_some_iff.1 h).1
theorem app_get {α : Type} {H T : List α} {i : Nat} {o : α} (h : H[i]? = some o) : (H ++ T)[i]? = some o := by rw [List.getElem?_append_left (List.getElem?_eq_some_iff.1 h).1]; exact h
theorem app_set {α : Type} {H T : List α} {i : Nat} {o p : α} (h : H[i]? = some o) : (H ++ T).set i p = H.set i p ++ T := List.set_append_left _ _ (List.getElem?_eq_some_iff.1 h).1
theorem new_get {α : Type} {H : List α} {o : α} : (H ++ [o])[H.length]? = some o := by simp
theorem Kept.slice {H : List AO} {j v E s : Nat} {xs : List AV} : Kept H (H.set j (.slice v E s xs)) := by
  refine ⟨by simp, fun hN o ho => ?_⟩
  rw [List.length_set]
  rcases List.mem_or_eq_of_mem_set ho with h | rfl
  · exact hN o h
  · rfl

/-- a strings.Builder's first word: nil, or itself -/
def selfC (u : Bool) (i : Nat) : AV := if u then .bptr i 0 else .sc (.pointer none)
theorem selfC_t (i : Nat) : selfC true i = .bptr i 0 := rfl
theorem selfC_f (i : Nat) : selfC false i = .sc (.pointer none) := rfl
attribute [go_sem] selfC_t selfC_f

/-! stores into lists -/
theorem set_encB (xs : List UInt8) (i : Nat) (b : UInt8) : (xs.map encB).set i (.int .u8 (b2i b)) = (xs.set i b).map encB := by rw [List.map_set]; rfl
theorem set_encI (k : IntKind) (xs : List Int) (i : Nat) (b : Int) : (xs.map (encI k)).set i (.int k b) = (xs.set i b).map (encI k) := by rw [List.map_set]; rfl
theorem set_encS (xs : List (List UInt8)) (i : Nat) (b : List UInt8) : (xs.map encS).set i (.str b) = (xs.set i b).map encS := by rw [List.map_set]; rfl
theorem set_encO (xs : List Bool) (i : Nat) (b : Bool) : (xs.map encO).set i (.bool b) = (xs.set i b).map encO := by rw [List.map_set]; rfl
attribute [go_sem] set_encB set_encI set_encS set_encO putEl
end Go.Av
