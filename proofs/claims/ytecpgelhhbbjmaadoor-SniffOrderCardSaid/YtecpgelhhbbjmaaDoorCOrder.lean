/- SniffOrder: the statement of the plain form, out of the plain law. -/
import Derived.Test.YtecpgelhhbbjmaaDoorGw
import Derived.Test.YtecpgelhhbbjmaaDoorCards
import Derived.Test.YtecpgelhhbbjmaaDoorTie
import Derived.Deep.DeepHandedRow
import Derived.Lay
import Derived.Deep.DeepWitnessRowRef
import Derived.Test.YtecpgelhhbbjmaaDoorP11Order
import Derived.Test.YtecpgelhhbbjmaaDoorRow
namespace Go.Proofs.YtecpgelhhbbjmaaDoor.sniffOrderAll
open Go.Av Go.ChangeShapes Go.WideShapes Go.ChangeAt Go.RowKit
set_option linter.unusedVariables false
set_option maxRecDepth 100000 in
theorem contract (H : Type) (enc : TypeId × Value → H) (W : World) (base : Nat) (args : Array Value) (ds gs : List (DataW H)) (before : List MemPlace)
    (hval : ∀ (j : Nat) t v, Tryd.f6.params[j]? = some t → args[j]? = some v → Value.okWide Tryd.prog W .any base t v)
    (hW : DataW.Whole enc Tryd.prog Tryd.f6.params.toList Rows.sniffOrderSpec.vars false W args.toList ds gs before) (hZ : Wok (DataW.weightsEach Tryd.prog (Tryd.f6.params.toList ++ (OpenSpec.ofChange Rows.sniffOrderSpec).bare.plain.varTypes Tryd.prog) (ds ++ gs))) (hL : laidMetH Tryd.prog Rows.sniffOrderRow.laid W) (hS : W.ShapedOpen Tryd.prog) :
    Calls Tryd.prog 6 args W fun e W' => ∃ v, e = .returned v ∧ Rows.sniffOrderSpec.post enc Tryd.prog Tryd.f6 false true false false W args v W' := by
  have hW' := hW
  obtain ⟨p, q, hA, hV, rfl, hfz, hnd⟩ := hW
  rw [Tryd.params6] at hA hval hZ
  obtain ⟨v0, vs0, d0, ds0, p0, q0, hargs, rfl, rfl, h0, r0⟩ := trodAll_cons hA
  obtain ⟨v1, vs1, d1, ds1, p1, q1, rfl, rfl, rfl, h1, r1⟩ := trodAll_cons r0
  obtain ⟨rfl, rfl, rfl⟩ := trodAll_nil r1
  obtain rfl : args = #[v0, v1] := by cases args; simp_all
  obtain ⟨rfl, rfl⟩ := trodVars_none hV
  have hZ0 := hZ
  have hZ1 := (wt_cons hZ0).2
  obtain ⟨x0, V0, S0, R0⟩ := arg_of_rd (rd_str Tryd.underlying9 (by kernel_rfl)) (by kernel_rfl) (fun _ => rfl) (hval 0 9 v0 rfl rfl) h0 (wt_cons hZ0).1
  obtain ⟨x1, V1, S1, R1⟩ := arg_of_rd (rd_slice Tryd.underlying22 (by kernel_rfl) (by decide +kernel) (rd_u8 Tryd.underlying5 (by kernel_rfl)) (bs := 1) (by kernel_rfl)) (by kernel_rfl) (fun _ => rfl) (hval 1 22 v1 rfl rfl) h1 (wt_cons hZ1).1
  refine (step_of (law11_SniffOrder_ok (law_SniffOrder_all x0 x1 V0 V1 S0 S1)) (gw_of hL (by kernel_rfl) (by kernel_rfl) hS) rfl (fun i x v hx hv => ?_)).mono fun e W' ⟨he, hg⟩ => ?_
  · match i, hx, hv with
    | 0, hx, hv => simp at hx hv; subst hx hv; exact R0
    | 1, hx, hv => simp at hx hv; subst hx hv; exact R1
    | i + 2, hx, hv => simp at hx
  · subst he
    exact ⟨_, rfl, post_of_gr rfl (by rw [Tryd.params6]; intro t ht; simp at ht; first | (rcases ht with rfl | rfl <;> exact ⟨by kernel_rfl, by decide +kernel⟩) | (rcases ht with rfl <;> exact ⟨by kernel_rfl, by decide +kernel⟩)) hW' hg ⟨rfl, rfl⟩ (fun _ _ _ => trodAll_cons_mk (shut_bool Tryd.underlying4 _) trodAll_mk0) (ok_one (by kernel_rfl) rfl (okWide_bool_mk Tryd.underlying4 _))⟩
theorem own : ownKnob Tryd.prog.godebug = none := by kernel_rfl
noncomputable def laidWorld (os : Os) : World := World.laidAll Tryd.prog os Rows.sniffOrderRow.laid
set_option maxRecDepth 100000 in
theorem laid_met (os : Os) : laidMet Tryd.prog Rows.sniffOrderRow.laid ((laidWorld os).forCall (fun _ _ => 0) ⟨#[], #[.string .empty, .slice none 0 0], []⟩).memory :=
  laidMet_laidAll _ (by kernel_rfl) (by kernel_rfl)
theorem reads (os : Os) {H : Type} (enc : TypeId × Value → H) : ∃ places, DataW.whole enc Tryd.prog ((laidWorld os).forCall (fun _ _ => 0) ⟨#[], #[.string .empty, .slice none 0 0], []⟩).memory Tryd.f6.params.toList Rows.sniffOrderSpec.vars false (#[.string .empty, .slice none 0 0] : Array Value).toList 8 = some ([.lit (.string []), .nil], [], places) :=
  ⟨[], by kernel_rfl⟩
set_option maxRecDepth 100000 in
theorem lifted (os : Os) (started : os.Started) (H : Type) (enc : TypeId × Value → H) (F : Stop.Interp) :
    ReturnsInHanded {} Tryd.checked os 6 .any ((OpenSpec.ofChange Rows.sniffOrderSpec).preRow enc Tryd.prog Tryd.f6 Rows.sniffOrderRow.domain false Rows.sniffOrderRow.laid) (((OpenSpec.ofChange Rows.sniffOrderSpec).at F).post enc Tryd.prog Tryd.f6 false true false false) := by
  obtain ⟨places, hx⟩ := reads os enc
  refine returnsInHanded_of_row (C := Tryd.checked) (s := OpenSpec.ofChange Rows.sniffOrderSpec) own started (by kernel_rfl) Tryd.func6
    (witness_row_atRef (enc := enc) (C := Tryd.checked) false (laidWorld os) #[.string .empty, .slice none 0 0] (World.laidAll_os _ _ _) (by kernel_rfl) (by kernel_rfl) (by kernel_rfl)
      (OpenSpec.preRow_of_cond 8 hx (by kernel_rfl) (fun k hk => by cases hk) (by kernel_rfl) (laid_met os))) ?_
  intro W base args ds gs before hval hW _ hcond hZ hL hS _
  exact contract H enc W base args ds gs before hval hW hZ hL hS
theorem saidUpto : Rows.SniffOrderSaid :=
  OpenClaim.holds_of_cond 6 Tryd.f6 rfl rfl rfl rfl rfl rfl rfl ⟨rfl, rfl, rfl, rfl, rfl⟩ rfl rfl rfl rfl rfl (by kernel_rfl) Tryd.func6 (by kernel_rfl)
    (of_decide_eq_true (by kernel_rfl)) (by unfold Func.isWrapper; first | (rw [if_pos (by decide +kernel)]; kernel_rfl) | (rw [if_neg (by decide +kernel)]; exact ⟨rfl, rfl⟩))
    (fun os started H enc _ F => by rw [OpenClaim.pre_eq_preRow]; exact lifted os started H enc F)
theorem plain (f : FuncId) (fn : Func) (hf : Tryd.pinned.checked.prog.funcNamed Rows.sniffOrderRow.func = some f) (hfn : Tryd.pinned.checked.prog.funcs[f]? = some fn) :
    true = Tryd.pinned.checked.prog.looks [] ∧ ∀ (j : Nat) t, fn.params[j]? = some t → Tryd.pinned.checked.prog.wantsStandIn t = false := by
  obtain rfl : f = 6 := Option.some.inj ((show Tryd.prog.funcNamed Rows.sniffOrderRow.func = some 6 by kernel_rfl).symm.trans hf) |>.symm
  obtain rfl : fn = Tryd.f6 := (Option.some.inj (Tryd.func6.symm.trans hfn)).symm
  refine ⟨by kernel_rfl, fun j t ht => ?_⟩
  rw [Tryd.params6] at ht
  have hm := Array.mem_toList_iff.2 (Array.mem_of_getElem? ht)
  have hall : (([9, 22] : List TypeId).all fun t => !Tryd.prog.wantsStandIn t) = true := by kernel_rfl
  have := List.all_eq_true.1 hall t hm
  exact (show Tryd.prog.wantsStandIn t = false by simpa using this)
theorem proved : Rows.SniffOrderCardSaid :=
  Claim7.holds_tied_plain_at .later [] _ _ _ _ saidUpto (fun _ h => by cases h) (by kernel_rfl) (fun _ h => by cases h) sniffOrder_row_tie rfl ⟨rfl, rfl⟩ (by kernel_rfl) rfl plain (by kernel_rfl)
end Go.Proofs.YtecpgelhhbbjmaaDoor.sniffOrderAll
