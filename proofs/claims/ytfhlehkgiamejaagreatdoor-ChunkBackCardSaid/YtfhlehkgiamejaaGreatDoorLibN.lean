/- What the library's number formatting leans on, told as contracts of Av. -/
import Derived.Test.YtfhlehkgiamejaaGreatDoorLibL
import Derived.Lib.Walk
import Derived.Lib.BitFns
namespace Go.Proofs.YtfhlehkgiamejaaGreatDoor
open Go.Av Go.RowKit Go.Lib
/-- of sixteen alone -/
def tzX (n : Int) : Option Int := if n = 16 then some 4 else none
set_option maxRecDepth 100000 in
set_option maxHeartbeats 2000000 in
theorem tz64 (w : World) (h : TabB w 2 .u8 dbTab) : Calls Tryz.prog 33 #[.int .u64 16] w fun e w' => e = .returned (.int .i64 4) ∧ w' = w := by
  have hcell : w.cell? ⟨2, 15, none⟩ = some (.int .u8 4) := by
    obtain ⟨t, fz, h⟩ := h
    simp [World.cell?, h, dbTab]
  have e15 : IntKind.u64.wrap (bits BinOp.and IntKind.u64 16 (IntKind.u64.wrap (-16)) * 285870213051353865) / 288230376151711744 = 15 := by decide +kernel
  have mixed : Tryz.prog.follows .mixedOrders = true := by kernel_rfl
  have t1 := Tryz.underlying58; have a1 := Tryz.isAgg58; have z1 := Tryz.sizeOf58; have v1 := Tryz.zeroValue58
  have t2 := Tryz.underlying73; have a2 := Tryz.isAgg73; have z2 := Tryz.sizeOf73; have v2 := Tryz.zeroValue73
  have t3 := Tryz.underlying3; have a3 := Tryz.isAgg3; have z3 := Tryz.sizeOf3; have v3 := Tryz.zeroValue3
  have t4 := Tryz.underlying4; have a4 := Tryz.isAgg4; have z4 := Tryz.sizeOf4; have v4 := Tryz.zeroValue4
  have t5 := Tryz.underlying5; have a5 := Tryz.isAgg5; have z5 := Tryz.sizeOf5; have v5 := Tryz.zeroValue5
  have t6 := Tryz.underlying69; have a6 := Tryz.isAgg69; have z6 := Tryz.sizeOf69; have v6 := Tryz.zeroValue69
  go_enter Tryz.func33, Tryz.ntmps33
  go_wp2
  all_goals go_ret
  all_goals exact ⟨rfl, rfl⟩
theorem tzX_ok {n r : Int} (hP : tzX n = some r) : CallOK Tryz.prog 33 [.int .u64 n] (.int .i64 r) [] := by
  unfold tzX at hP
  split at hP
  · rename_i hc
    subst hc
    obtain rfl := Option.some.inj hP
    refine callOK_flat ⟨_, Tryz.func33, rfl, by decide⟩ rfl rfl fun w hw => ?_
    exact (tz64 w hw.2.2).mono fun e w' ⟨he, hb⟩ => ⟨by rw [he]; rfl, by rw [hb]; exact Gr.refl w⟩
  · cases hP
end Go.Proofs.YtfhlehkgiamejaaGreatDoor
