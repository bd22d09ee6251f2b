/- Av: an error told with what it points to: as a call hands it back (a box of its own), and as it is kept (a pointer into what is no more written). -/
import Derived.Test.YtbcmngnmfneeaaaGreatDoorAvY
import Derived.Test.YtbcmngnmfneeaaaGreatDoorAvPa
namespace Go.Av
open Go.RowKit
set_option linter.unusedVariables false
set_option linter.unusedSimpArgs false
def errR (T : TypeId) (k : Nat) : Option (Int × Int) → AV
  | none => .sc .nilIface
  | some _ => .iface T (.bptr k 0)
def errO (B : TypeId) : Option (Int × Int) → List AO
  | none => []
  | some p => [.box B [.int .i64 p.1, .int .i64 p.2]]
def errF (T : TypeId) : Option (Int × Int) → AV
  | none => .sc .nilIface
  | some p => .iface T (.vptr (.agg [.int .i64 p.1, .int .i64 p.2]) 0)
theorem errF_n (T : TypeId) : errF T none = .sc .nilIface := rfl
theorem errF_s (T : TypeId) (p : Int × Int) : errF T (some p) = .iface T (.vptr (.agg [.int .i64 p.1, .int .i64 p.2]) 0) := rfl
theorem ren_errF (ids : List Nat) (H : List AO) (T : TypeId) (o : Option (Int × Int)) : ren ids H (errF T o) = errF T o := by cases o <;> rfl
theorem ren2_errF (ids : List Nat) (H : List AO) (T : TypeId) (o : Option (Int × Int)) : ren2 ids H (errF T o) = errF T o := by cases o <;> rfl
theorem ren1_errF (ids : List Nat) (H : List AO) (T : TypeId) (o : Option (Int × Int)) : ren1 ids H (errF T o) = errF T o := by cases o <;> rfl
theorem sh2_errF (n : Nat) (T : TypeId) (o : Option (Int × Int)) : sh2 n (errF T o) = errF T o := by cases o <;> rfl
theorem sh1_errF (n : Nat) (T : TypeId) (o : Option (Int × Int)) : sh1 n (errF T o) = errF T o := by cases o <;> rfl
theorem nilV_errF (P : Program) (H : List AO) (op : BinOp) (T' T : TypeId) (o : Option (Int × Int)) (K : AV → Prop) : nilV P H op T' (errF T o) (.sc .nilIface) K = (isIf P T' = true ∧ eqB op o.isNone K) := by
  cases o <;> rfl
attribute [go_sem ↓] ren_errF ren2_errF ren1_errF sh2_errF sh1_errF nilV_errF
theorem mv3_errF (ids : List Nat) (n : Nat) (E1 : Env) (T : TypeId) (o : Option (Int × Int)) : mv3 ids n E1 (errF T o) = errF T o := by cases o <;> rfl
theorem mv2_errF (ids : List Nat) (n : Nat) (E1 : Env) (T : TypeId) (o : Option (Int × Int)) : mv2 ids n E1 (errF T o) = errF T o := by cases o <;> rfl
theorem mv1_errF (ids : List Nat) (n : Nat) (E1 : Env) (T : TypeId) (o : Option (Int × Int)) : mv1 ids n E1 (errF T o) = errF T o := by cases o <;> rfl
theorem sp3_errF (k : Nat) (T : TypeId) (o : Option (Int × Int)) : sp3 k (errF T o) = errF T o := by cases o <;> rfl
theorem sp2_errF (k : Nat) (T : TypeId) (o : Option (Int × Int)) : sp2 k (errF T o) = errF T o := by cases o <;> rfl
theorem sp1_errF (k : Nat) (T : TypeId) (o : Option (Int × Int)) : sp1 k (errF T o) = errF T o := by cases o <;> rfl
attribute [go_sem ↓] mv3_errF mv2_errF mv1_errF sp3_errF sp2_errF sp1_errF
theorem argR_errF {H : List AO} {T : TypeId} {o : Option (Int × Int)} : argR H (errF T o) (errF T o) := .inl (.inl ⟨false, by cases o <;> rfl⟩)
section
variable {P : Program} {B : Nat} {X : Nat → Prop} {w0 w : World} {φ : Nat → Value} {H : List AO}
/-- an object more, of which nothing is told -/
theorem St.gone (st : St B X w0 w φ H) : St B X w0 w (joinφ H.length φ φ) (H ++ [.gone]) ∧ Le w φ H w (joinφ H.length φ φ) (H ++ [.gone]) := by
  have hp : HeapOK w w.heap.size φ [.gone] := by
    refine ⟨fun id o b h hl _ => ?_, fun id id' o o' b h hl _ _ _ _ => ?_, fun id o h => ?_⟩ <;> match id, h with
    | 0, h => simp at h; subst h; first | trivial | (exact absurd hl (by simp [AO.live]))
    | k + 1, h => simp at h
  exact st.join (Gr.refl w) (objs := [.gone]) (fun o ho => by simp at ho; subst ho; trivial) hp
/-- a box that is written no more -/
theorem froz_box (st : St B X w0 w φ H) {id : Nat} {T : TypeId} {cs : List AV} (hH : H[id]? = some (.box T cs)) (hcl : AV.closedL cs = true) :
    St B X w0 w (updφ φ id (φ id)) (H.set id .gone) ∧ Le w φ H w (updφ φ id (φ id)) (H.set id .gone) ∧ ∀ v, R w φ H (.bptr id 0) v → R w (updφ φ id (φ id)) (H.set id .gone) (.vptr (.agg cs) 0) v := by
  have hid : id < H.length := (List.getElem?_eq_some_iff.1 hH).1
  have le : Le w φ H w (updφ φ id (φ id)) (H.set id .gone) := Le_upd st hH rfl (Nat.le_refl _) (fun k _ _ => rfl) (φ id) (fun b hb => .inl hb) trivial
  have st' : St B X w0 w (updφ φ id (φ id)) (H.set id .gone) :=
    St.upd st hH rfl rfl rfl rfl (Nat.le_refl _) (fun k _ _ => rfl) (φ id) (fun b hb => ⟨.inl hb, (st.live id _ b hH rfl hb).2⟩) trivial trivial
  obtain ⟨gg, arr, c1, c2, c3, c4⟩ := st.chunk id _ hH
  refine ⟨st', le, fun v r => ?_⟩
  cases r with
  | bptr _ _ _ _ _ hh =>
    obtain ⟨g', d1, rfl⟩ := hh _ hH rfl
    rw [c1] at d1
    simp at d1
    subst d1
    have hb : gg < w.heap.size := (Array.getElem?_eq_some_iff.1 c2).1
    have hget : ∀ (j : Nat) (c : AV), cs[j]? = some c → ∃ u, arr[j]? = some u ∧ w.cell? ⟨gg, 0 + j, none⟩ = some u := fun j c hj => by
      have hlt : j < arr.size := by rw [c3]; exact (List.getElem?_eq_some_iff.1 hj).1
      exact ⟨arr[j], Array.getElem?_eq_getElem hlt, by rw [cell_of_row w gg _ arr T _ c2, Nat.zero_add]; exact Array.getElem?_eq_getElem hlt⟩
    refine .vptr (.agg cs) 0 gg 0 (fun j => (arr[j]?).getD undef) (by simpa [AV.closed] using hcl) hb (fun k o hk hlv hbk => ?_) (fun j c hj => ?_) (fun j c hj => ?_)
    · by_cases e : k = id
      · subst e; rw [List.getElem?_set_self hid] at hk; cases hk; simp [AO.live] at hlv
      · rw [List.getElem?_set_ne (Ne.symm e)] at hk
        rw [updφ_ne _ _ _ _ e] at hbk
        exact e (st.inj k id o _ gg hk hlv hH rfl hbk (by rw [c1]; rfl))
    · simp only [AV.cells, Nat.zero_add] at hj
      obtain ⟨u, e2, e3⟩ := hget j c hj
      rw [e3, e2]
      exact ⟨rfl, (c4 j c u hj e2).2⟩
    · simp only [AV.cells, Nat.zero_add] at hj
      obtain ⟨u, e2, e3⟩ := hget j c hj
      rw [e2]
      exact ((c4 j c u hj e2).1).le le
end
/-- a call that hands back an error of its own making, told with what it points to -/
theorem call_inF {P : Program} {g : FuncId} {H : List AO} {E : Env} {caps xs : List AV} {K : AV → Env → List AO → Prop} (args' : List AV) {x : AV} {T Tb : TypeId} {k : Nat} {o : Option (Int × Int)} {objs : List AO}
    (h : CallOK P g args' (.tup [x, errR T k o]) (objs ++ errO Tb o)) (ha : argsR H (xs ++ caps) args') (hk : objs.length = k) (hx : x.vf = true)
    (k' : K (.tup [sh2 H.length x, errF T o]) E ((H ++ objs.map (shO H.length)) ++ [.gone])) : @callK P false H E (.fn g caps) xs ⟨K⟩ := by
  refine .inr (.inl ?_)
  obtain ⟨hpf, hrv, hov, hc⟩ := h
  refine ⟨hpf, fun B X w0 w φ vals gv st hsz hargs hE => ?_⟩
  have hcall := hc w vals st.gw (by rw [(argsR_get ha).1, hsz]) (fun i x v hx hv => by
    obtain ⟨y, hy, hxy⟩ := (argsR_get ha).2 i x hx
    exact argR_R st (hargs i y v hy hv) hxy)
  refine hcall.mono fun e w' ⟨v, φc, he, hg, hh, hret⟩ => ?_
  subst he
  obtain ⟨s1, s2⟩ := st.join hg hov hh
  cases hret with
  | tup _ us hs hr =>
    have hl : us.size = 2 := by simpa using hs
    have r0 : R w' φc (objs ++ errO Tb o) x us[0] := hr 0 x us[0] rfl (Array.getElem?_eq_getElem (by omega))
    have r1 : R w' φc (objs ++ errO Tb o) (errR T k o) us[1] := hr 1 _ us[1] rfl (Array.getElem?_eq_getElem (by omega))
    have q0 := sh2_R (φ := φ) (H := H) r0 hx
    have mk : ∀ (φ' : Nat → Value) (H' : List AO) (a b : AV), R w' φ' H' a us[0] → R w' φ' H' b us[1] → R w' φ' H' (.tup [a, b]) (.tuple us) := fun φ' H' a b ra rb => by
      refine .tup _ us (by simp [hl]) fun i y u hi hu => ?_
      match i, hi, hu with
      | 0, hi, hu =>
        simp at hi; subst hi
        rw [Array.getElem?_eq_getElem (by omega)] at hu
        cases hu; exact ra
      | 1, hi, hu =>
        simp at hi; subst hi
        rw [Array.getElem?_eq_getElem (by omega)] at hu
        cases hu; exact rb
      | i + 2, hi, hu => simp at hi
    cases o with
    | none =>
      obtain ⟨t1, t2⟩ := s1.gone
      have eH : (objs ++ errO Tb none) = objs := List.append_nil _
      rw [eH] at t1 t2 s2 q0 r1
      refine ⟨_, _, E, _, _, rfl, k', t1, mk _ _ _ _ (q0.le t2) ?_, fun t => ((hE t).le s2).le t2⟩
      have rr : ∀ (φ' : Nat → Value) (H' : List AO) (u : Value), R w' φc objs (.sc .nilIface) u → R w' φ' H' (.sc .nilIface) u := fun φ' H' u r => by
        cases r
        exact .sc _
      exact rr _ _ _ r1
    | some p =>
      have eH : (H ++ (objs ++ errO Tb (some p)).map (shO H.length)) = (H ++ objs.map (shO H.length)) ++ [.box Tb [.int .i64 p.1, .int .i64 p.2]] := by
        rw [List.map_append, List.append_assoc]; rfl
      rw [eH] at s1 s2 q0
      have hn : (H ++ objs.map (shO H.length)).length = H.length + k := by rw [List.length_append, List.length_map, hk]
      have hH : ((H ++ objs.map (shO H.length)) ++ [AO.box Tb [.int .i64 p.1, .int .i64 p.2]])[H.length + k]? = some (.box Tb [.int .i64 p.1, .int .i64 p.2]) := by
        rw [← hn]; exact List.getElem?_concat_length
      obtain ⟨t1, t2, t3⟩ := froz_box s1 hH rfl
      have eS : ((H ++ objs.map (shO H.length)) ++ [AO.box Tb [.int .i64 p.1, .int .i64 p.2]]).set (H.length + k) .gone = (H ++ objs.map (shO H.length)) ++ [.gone] := by
        rw [← hn, List.set_append_right _ _ (Nat.le_refl _), Nat.sub_self]; rfl
      rw [eS] at t1 t2 t3
      refine ⟨_, _, E, _, _, rfl, k', t1, mk _ _ _ _ (q0.le t2) ?_, fun t => ((hE t).le s2).le t2⟩
      have rr : ∀ (u : Value), R w' φc (objs ++ errO Tb (some p)) (.iface T (.bptr k 0)) u → R w' (updφ (joinφ H.length φ φc) (H.length + k) (joinφ H.length φ φc (H.length + k))) ((H ++ objs.map (shO H.length)) ++ [.gone]) (errF T (some p)) u := fun u r => by
        cases r with
        | iface _ _ u' hr' =>
          have := sh1_R (φ := φ) (H := H) hr' rfl
          rw [eH] at this
          refine .iface _ _ _ (t3 _ ?_)
          rw [Nat.add_comm]
          exact this
      exact rr _ r1
end Go.Av
