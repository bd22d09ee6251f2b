/- A fault out of an error (errors.As, by its contracts), told as a contract of Av. -/
import Derived.Test.YtbcmngnmfneeaaaGreatDoorEAs
import Derived.Test.YtbcmngnmfneeaaaGreatDoorAvEr
namespace Go.Proofs.YtbcmngnmfneeaaaGreatDoor
open Go.Av Go.RowKit Go.Extern.Stop Go.Stop Go.Extern
set_option linter.unusedVariables false
def faultX (o : Option (Int × Int)) : Option (Int × Int) := match o with
  | none => some (-1, 0)
  | some p => some p
theorem two_cells {w : World} {b : Nat} {u v : Value} (h0 : w.cell? ⟨b, 0, none⟩ = some u) (h1 : w.cell? ⟨b, 1, none⟩ = some v) : (loadCells ⟨b, 0, none⟩ 2).run Tryz.prog w = .ok #[u, v] w :=
  run_loadCells_list (P := Tryz.prog) (w := w) ⟨b, 0, none⟩ [u, v] (fun j x hx => by
    match j, hx with
    | 0, hx => cases hx; exact h0
    | 1, hx => cases hx; exact h1
    | j + 2, hx => simp at hx)
set_option maxRecDepth 100000 in
set_option maxHeartbeats 40000000 in
theorem fault_nil (w : World) : Calls Tryz.prog 12 #[.nilIface] w fun e w' => e = .returned (.agg #[.int .i64 (-1), .int .i64 0]) ∧ Gr w w' := by
  go_enter Tryz.func12, Tryz.ntmps12
  go_wp2_with (go_at_call 37; refine (as_nil _ _).mono ?_; rintro e w' ⟨rfl, rfl⟩)
  have hr : Tryz.f12.results = #[.cell 2 40] := rfl
  refine bodyPost_ret (v := .agg #[.int .i64 (-1), .int .i64 0]) ?_ rfl ⟨rfl, (Gr.alloc _ _).trans (Gr.alloc _ _)⟩
  have hl := two_cells (w := (w.alloc (.cells #[.int .i64 (-1), .int .i64 0] 40)).alloc (.cells #[.pointer none] 74)) (b := w.heap.size) (u := .int .i64 (-1)) (v := .int .i64 0) (by simp) (by simp)
  simp [results, asAddr, loadVar, isAgg, underlying, Tryz.underlying40, Result.andThen, hl]
set_option maxRecDepth 100000 in
set_option maxHeartbeats 40000000 in
theorem fault_hit (w : World) (b o : Nat) (x y : Int) (hG : GWe w) (h0 : w.cell? ⟨b, o, none⟩ = some (.int .i64 x)) (h1 : w.cell? ⟨b, o + 1, none⟩ = some (.int .i64 y)) :
    Calls Tryz.prog 12 #[.iface 74 (.pointer (some ⟨b, o, none⟩))] w fun e w' => e = .returned (.agg #[.int .i64 x, .int .i64 y]) ∧ Gr w w' := by
  have hg : w.cell? ⟨0, 0, none⟩ = some (.iface 125 (.agg #[.pointer (some ⟨8, 27, none⟩)])) := hG
  have hlt : 0 < w.heap.size := by
    rcases Nat.eq_zero_or_pos w.heap.size with h0 | h
    · simp [World.cell?, h0] at hg
    · exact h
  have hb : b < w.heap.size := by
    rcases Nat.lt_or_ge b w.heap.size with h | h
    · exact h
    · simp [World.cell?, Array.getElem?_eq_none h] at h0
  have hgA : ((w.alloc (.cells #[.int .i64 0, .int .i64 0] 40)).alloc (.cells #[.pointer none] 74)).cell? ⟨0, 0, none⟩ = some (.iface 125 (.agg #[.pointer (some ⟨8, 27, none⟩)])) := by
    rw [World.cell?_alloc_lt _ _ ⟨0, 0, none⟩ (by simp), World.cell?_alloc_lt _ _ ⟨0, 0, none⟩ hlt]; exact hg
  have htA : ((w.alloc (.cells #[.int .i64 0, .int .i64 0] 40)).alloc (.cells #[.pointer none] 74)).cell? ⟨w.heap.size + 1, 0, none⟩ = some (.pointer none) := by simp
  have hfA : ((w.alloc (.cells #[.int .i64 0, .int .i64 0] 40)).alloc (.cells #[.pointer none] 74)).frozen? ⟨w.heap.size + 1, 0, none⟩ = false := by simp
  have hcell : ∀ (k : Nat), ((((((w.alloc (.cells #[.int .i64 0, .int .i64 0] 40)).alloc (.cells #[.pointer (some ⟨b, o, none⟩)] 74)).alloc (.cells #[.pointer (some ⟨w.heap.size + 1, 0, none⟩)] 76)).alloc
      (.cells #[.pointer (some ⟨8, 76, none⟩), .pointer (some ⟨w.heap.size + 1 + 1, 0, none⟩), .int .u64 150] 98)).alloc (.cells #[.pointer (some ⟨8, 76, none⟩), .pointer (some ⟨w.heap.size + 1 + 1, 0, none⟩), .int .u64 150] 98)).alloc
      (.cells #[.pointer (some ⟨b, o, none⟩)] 74)).cell? ⟨b, k, none⟩ = w.cell? ⟨b, k, none⟩ := fun k => by
    rw [World.cell?_alloc_lt _ _ ⟨b, k, none⟩ (by simp; omega), World.cell?_alloc_lt _ _ ⟨b, k, none⟩ (by simp; omega), World.cell?_alloc_lt _ _ ⟨b, k, none⟩ (by simp; omega), World.cell?_alloc_lt _ _ ⟨b, k, none⟩ (by simp; omega), World.cell?_alloc_lt _ _ ⟨b, k, none⟩ (by simp; omega), World.cell?_alloc_lt _ _ ⟨b, k, none⟩ hb]
  have hc0 := (hcell o).trans h0
  have hc1 := (hcell (o + 1)).trans h1
  go_enter Tryz.func12, Tryz.ntmps12
  go_wp2_with (go_at_call 37; refine (as_hit _ _ (.pointer none) _ hgA htA hfA).mono ?_; rintro e w' ⟨rfl, rfl⟩)
  refine bodyPost_ret (v := .agg #[.int .i64 x, .int .i64 y]) ?_ rfl ⟨rfl, ?_⟩
  · have hn : ∀ (k : Nat), ((((((w.alloc (.cells #[.int .i64 x, .int .i64 y] 40)).alloc (.cells #[.pointer (some ⟨b, o, none⟩)] 74)).alloc (.cells #[.pointer (some ⟨w.heap.size + 1, 0, none⟩)] 76)).alloc
      (.cells #[.pointer (some ⟨8, 76, none⟩), .pointer (some ⟨w.heap.size + 1 + 1, 0, none⟩), .int .u64 150] 98)).alloc (.cells #[.pointer (some ⟨8, 76, none⟩), .pointer (some ⟨w.heap.size + 1 + 1, 0, none⟩), .int .u64 150] 98)).alloc
      (.cells #[.pointer (some ⟨b, o, none⟩)] 74)).cell? ⟨w.heap.size, k, none⟩ = (w.alloc (.cells #[.int .i64 x, .int .i64 y] 40)).cell? ⟨w.heap.size, k, none⟩ := fun k => by
      rw [World.cell?_alloc_lt _ _ ⟨w.heap.size, k, none⟩ (by simp; omega), World.cell?_alloc_lt _ _ ⟨w.heap.size, k, none⟩ (by simp; omega), World.cell?_alloc_lt _ _ ⟨w.heap.size, k, none⟩ (by simp; omega), World.cell?_alloc_lt _ _ ⟨w.heap.size, k, none⟩ (by simp; omega), World.cell?_alloc_lt _ _ ⟨w.heap.size, k, none⟩ (by simp)]
    have hl := two_cells ((hn 0).trans (by simp : _ = some (.int .i64 x))) ((hn 1).trans (by simp : _ = some (.int .i64 y)))
    simp [results, asAddr, loadVar, isAgg, underlying, Tryz.underlying40, Result.andThen, hl]
  · exact (((((Gr.alloc _ _).trans (Gr.alloc _ _)).trans (Gr.alloc _ _)).trans (Gr.alloc _ _)).trans (Gr.alloc _ _)).trans (Gr.alloc _ _)
theorem faultX_ok {o : Option (Int × Int)} {r : Int × Int} (h : faultX o = some r) : CallOK Tryz.prog 12 [errF 74 o] (.agg [.int .i64 r.1, .int .i64 r.2]) [] := by
  refine ⟨⟨_, Tryz.func12, rfl, by decide⟩, rfl, fun o ho => by simp at ho, fun w vals hG hs hv => ?_⟩
  have hs1 : vals.size = 1 := hs
  obtain ⟨v, rfl⟩ : ∃ v, vals = #[v] := by
    obtain ⟨l⟩ := vals
    match l, hs1 with
    | [v], _ => exact ⟨v, rfl⟩
  have hr : R w (fun _ => .tuple #[]) [] (errF 74 o) v := hv 0 _ v rfl rfl
  have fin : ∀ (w' : World), Gr w w' → ∃ v' φ, Ending.returned (Value.agg #[.int .i64 r.1, .int .i64 r.2]) = .returned v' ∧ Gr w w' ∧ HeapOK w' w.heap.size φ [] ∧ R w' φ [] (.agg [.int .i64 r.1, .int .i64 r.2]) v' := fun w' hg =>
    ⟨_, fun _ => undef, rfl, hg, ⟨fun id o b h => by simp at h, fun id id' o o' b h => by simp at h, fun id o h => by simp at h⟩, .agg _ _ (by simp) fun i x u hx hu => by
      match i, hx, hu with
      | 0, hx, hu => simp at hx hu; subst hx hu; exact .int _ _
      | 1, hx, hu => simp at hx hu; subst hx hu; exact .int _ _
      | i + 2, hx, hu => simp at hx⟩
  cases o with
  | none =>
    obtain rfl := Option.some.inj h
    cases hr
    exact (fault_nil w).mono fun e w' ⟨he, hg⟩ => by subst he; exact fin w' hg
  | some p =>
    obtain rfl : p = r := Option.some.inj h
    have key : ∀ u, R w (fun _ => .tuple #[]) [] (.iface 74 (.vptr (.agg [.int .i64 p.1, .int .i64 p.2]) 0)) u → ∃ b o, u = .iface 74 (.pointer (some ⟨b, o, none⟩)) ∧ w.cell? ⟨b, o, none⟩ = some (.int .i64 p.1) ∧ w.cell? ⟨b, o + 1, none⟩ = some (.int .i64 p.2) := fun u r => by
      cases r with
      | iface _ _ u' hr' =>
        cases hr' with
        | vptr _ _ b o q hcl hb hl hc hr2 =>
          have g0 := hc 0 (.int .i64 p.1) rfl
          have g1 := hc 1 (.int .i64 p.2) rfl
          have r0 := hr2 0 (.int .i64 p.1) rfl
          have r1 := hr2 1 (.int .i64 p.2) rfl
          have e : ∀ (n : Int) (x : Value), R w (fun _ => .tuple #[]) [] (.int .i64 n) x → x = .int .i64 n := fun n x r => by cases r; rfl
          exact ⟨b, o, rfl, by rw [← e _ _ r0]; exact g0.1, by rw [← e _ _ r1]; exact g1.1⟩
    obtain ⟨b, o, rfl, c0, c1⟩ := key v hr
    exact (fault_hit w b o p.1 p.2 hG.2.2.2 c0 c1).mono fun e w' ⟨he, hg⟩ => by subst he; exact fin w' hg
end Go.Proofs.YtbcmngnmfneeaaaGreatDoor
