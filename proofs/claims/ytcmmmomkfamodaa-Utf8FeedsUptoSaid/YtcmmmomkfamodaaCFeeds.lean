/- Utf8Feeds: the statement of the bounded form, out of the plain law. -/
import Derived.Test.YtcmmmomkfamodaaGw
import Derived.Test.YtcmmmomkfamodaaPFeeds
import Derived.Test.YtcmmmomkfamodaaRow
namespace Go.Proofs.Ytcmmmomkfamodaa.utf8Feeds
open Go.Av Go.ChangeShapes Go.WideShapes Go.ChangeAt Go.RowKit
set_option linter.unusedVariables false
set_option maxRecDepth 100000 in
theorem contract (H : Type) (enc : TypeId × Value → H) (W : World) (base : Nat) (args : Array Value) (ds gs : List (DataW H)) (before : List MemPlace)
    (hval : ∀ (j : Nat) t v, Try.f9.params[j]? = some t → args[j]? = some v → Value.okWide Try.prog W .any base t v)
    (hW : DataW.Whole enc Try.prog Try.f9.params.toList Rows.utf8FeedsSpec.vars false W args.toList ds gs before) (hk : Rows.uptoSmall H (ds ++ gs) = true) :
    Calls Try.prog 9 args W fun e W' => ∃ v, e = .returned v ∧ Rows.utf8FeedsSpec.post enc Try.prog Try.f9 false true false false W args v W' := by
  have hW' := hW
  obtain ⟨p, q, hA, hV, rfl, hfz, hnd⟩ := hW
  rw [Try.params9] at hA hval
  obtain ⟨v0, vs0, d0, ds0, p0, q0, hargs, rfl, rfl, h0, r0⟩ := trodAll_cons hA
  obtain ⟨v1, vs1, d1, ds1, p1, q1, rfl, rfl, rfl, h1, r1⟩ := trodAll_cons r0
  obtain ⟨rfl, rfl, rfl⟩ := trodAll_nil r1
  obtain rfl : args = #[v0, v1] := by cases args; simp_all
  obtain ⟨rfl, rfl⟩ := trodVars_none hV
  obtain ⟨x0, V0, m0, R0⟩ := arg_of_rd (rd_slice Try.underlying36 (by kernel_rfl) (by decide +kernel) (rd_slice Try.underlying22 (by kernel_rfl) (by decide +kernel) (rd_u8 Try.underlying5 (by kernel_rfl)))) (by kernel_rfl) (fun _ => rfl) (hval 0 36 v0 rfl rfl) h0
  obtain ⟨x1, V1, m1, R1⟩ := arg_of_rd (rd_slice Try.underlying37 (by kernel_rfl) (by decide +kernel) (rd_int Try.underlying3 (by kernel_rfl))) (by kernel_rfl) (fun _ => rfl) (hval 1 37 v1 rfl rfl) h1
  have hb := bulk_all hk
  simp only [List.append_nil, Rows.uptoBulkAll] at hb
  refine (step_of (law08_Utf8Feeds_ok (law_Utf8Feeds x0 x1 V0 V1 (by omega))) ⟨trivial, trivial, trivial⟩ rfl (fun i x v hx hv => ?_)).mono fun e W' ⟨he, hg⟩ => ?_
  · match i, hx, hv with
    | 0, hx, hv => simp at hx hv; subst hx hv; exact R0
    | 1, hx, hv => simp at hx hv; subst hx hv; exact R1
    | i + 2, hx, hv => simp at hx
  · subst he
    exact ⟨_, rfl, post_of_gr rfl (by rw [Try.params9]; intro t ht; simp at ht; first | (rcases ht with rfl | rfl <;> exact ⟨by kernel_rfl, by decide +kernel⟩) | (rcases ht with rfl <;> exact ⟨by kernel_rfl, by decide +kernel⟩)) hW' hg ⟨rfl, rfl⟩ (fun _ _ _ => trodAll_cons_mk (shut_bool Try.underlying4 _) trodAll_mk0) (ok_one (by kernel_rfl) rfl (okWide_bool_mk Try.underlying4 _))⟩
set_option maxRecDepth 100000 in
theorem lifted (os : Os) (started : os.Started) (H : Type) (enc : TypeId × Value → H) (F : Stop.Interp) :
    ReturnsInHanded {} Try.checked os 9 .any ((Rows.OpenSpec.upto Rows.utf8FeedsSpec).pre6 enc Try.prog Try.f9 Rows.utf8FeedsUptoRow.domain false) (((Rows.OpenSpec.upto Rows.utf8FeedsSpec).at F).post enc Try.prog Try.f9 false true false false) := by
  refine returnsInHanded_of_cond (C := Try.checked) (s := Rows.OpenSpec.upto Rows.utf8FeedsSpec) (k := Rows.uptoSmall) rfl ownKnob_none started (by kernel_rfl) Try.func9
    (OpenSpec.witness (enc := enc) (C := Try.checked) (s := Rows.OpenSpec.upto Rows.utf8FeedsSpec) (k := Rows.uptoSmall) rfl false ⟨#[], #[.slice none 0 0, .slice none 0 0], []⟩ 8 (by kernel_rfl) (by kernel_rfl) (by kernel_rfl)
      (x := ([.nil, .nil], [], [])) (by kernel_rfl) rfl (by kernel_rfl)) ?_
  intro W base args ds gs before hval hW _ hk _
  exact contract H enc W base args ds gs before hval hW hk
theorem proved : Rows.Utf8FeedsUptoSaid :=
  OpenClaim.holds_of_cond 9 Try.f9 rfl rfl rfl rfl rfl rfl rfl ⟨rfl, rfl, rfl, rfl, rfl⟩ rfl rfl rfl rfl rfl (by kernel_rfl) Try.func9 (by kernel_rfl)
    (of_decide_eq_true (by kernel_rfl)) (by unfold Func.isWrapper; first | (rw [if_pos (by decide +kernel)]; kernel_rfl) | (rw [if_neg (by decide +kernel)]; exact ⟨rfl, rfl⟩))
    (fun os started H enc _ F => lifted os started H enc F)
end Go.Proofs.Ytcmmmomkfamodaa.utf8Feeds
