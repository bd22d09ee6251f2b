/- strings.IndexRune: a character above ASCII does not stand in CR LF. Out of the library's own text. -/
import Derived.Test.YtecpgelhhbbjmaaDoorGN
import Derived.Shelf.Strings.Runes
import Derived.Shelf.Small.Utf8
import Derived.WalkMore
namespace Go.Proofs
open Go.Shelf Go.RowKit Go.Lib
section
variable {P : Program} {ρ : Ren}
theorem ib_hi {c : UInt8} (hc : 128 ≤ c.toNat) {l : List UInt8} (h : (l.all fun b => decide (b.toNat < 128)) = true) : Lib.indexByte l c = -1 := by
  rcases hr : Lib.indexByte l c with n | n
  · have := (Lib.indexByte_some (o := n) (by simpa using hr)).1
    have hm := List.mem_of_getElem? this
    have := List.all_eq_true.1 h c hm
    simp at this
    omega
  · have := Lib.indexByte_ge l c
    rw [hr] at this
    have e : n = 0 := by
      have : (-1 : Int) ≤ Int.negSucc n := this
      omega
    rw [e]; rfl
theorem idx_hi (L : Lays.n152 P ρ) (s : ByteArray) (c : UInt8) (w : World) (hc : 128 ≤ c.toNat) (hs : (s.data.toList.all fun b => decide (b.toNat < 128)) = true) :
    Calls P (ρ.f 137) #[.string s, .int .u8 (c.toNat : Int)] w fun e w' => e = .returned (.int .i64 (-1)) ∧ w' = w := by
  refine (Any.strings_IndexByte { L with } s (c.toNat : Int) w).mono fun e w' ⟨he, hw⟩ => ⟨?_, hw⟩
  rw [he]
  simp only [Int.toNat_natCast, UInt8.ofNat_toNat]
  rw [ib_hi hc hs]
set_option maxHeartbeats 8000000 in
set_option maxRecDepth 1000000 in
theorem irune_hi6 (L : Lays.n152 P ρ) (r : Int) (w : World) (h1 : 128 ≤ r) (h2 : ¬ (r = 65533)) :
    Calls P (ρ.f 152) #[.string ⟨#[9, 10, 12, 13, 32, 59]⟩, .int .i32 r] w fun e w' => e = .returned (.int .i64 (-1)) ∧ (w' = w ∨ w' = w.drew.drew) := by
  have hl : ¬ (r < 128) := by omega
  have h0 : 0 ≤ r := by omega
  have t3 := L.t3; have a3 := L.a3; have z3 := L.z3; have v3 := L.v3
  have t4 := L.t4; have a4 := L.a4; have z4 := L.z4; have v4 := L.v4
  have t5 := L.t5; have a5 := L.a5; have z5 := L.z5; have v5 := L.v5
  have t9 := L.t9; have a9 := L.a9; have z9 := L.z9; have v9 := L.v9
  have t21 := L.t21; have a21 := L.a21; have z21 := L.z21; have v21 := L.v21
  have mixed := L.mixed
  have e137 : ∀ args w, (callFunc (ρ.f 137) args).run P w = .ok (.enter (ρ.f 137) args) w := enters_of L.f137 (by kernel_rfl) rfl
  have e119 : ∀ args w, (callFunc (ρ.f 119) args).run P w = .ok (.enter (ρ.f 119) args) w := enters_of L.f119 (by kernel_rfl) rfl
  go_enter L.f152, Body.n152_ntmps ρ
  go_wp2_with (go_at_fn (ρ.f 119); refine (Any.utf8_ValidRune { L with } _ _).mono ?_; rintro e w' ⟨rfl, hw⟩; rw [hw])
  · go_ret
    exact ⟨rfl, .inl rfl⟩
  · apply wp_scope_straight
    go_wp2
    have henc : (∃ b0 b1, Utf8.encode r = ⟨#[b0, b1]⟩ ∧ 128 ≤ b1.toNat) ∨ (∃ b0 b1 b2, Utf8.encode r = ⟨#[b0, b1, b2]⟩ ∧ 128 ≤ b2.toNat) ∨ (∃ b0 b1 b2 b3, Utf8.encode r = ⟨#[b0, b1, b2, b3]⟩ ∧ 128 ≤ b3.toNat) := by
      unfold Utf8.encode
      dsimp only
      have hc : 128 ≤ (if Utf8.valid r then r.toNat else Utf8.runeError) := by
        split
        · omega
        · decide
      generalize (if Utf8.valid r then r.toNat else Utf8.runeError) = c at hc
      rw [if_neg (by omega)]
      split
      · refine .inl ⟨_, _, rfl, ?_⟩
        simp [UInt8.toNat_ofNat]
        omega
      · split
        · refine .inr (.inl ⟨_, _, _, rfl, ?_⟩)
          simp [UInt8.toNat_ofNat]
          omega
        · refine .inr (.inr ⟨_, _, _, _, rfl, ?_⟩)
          simp [UInt8.toNat_ofNat]
          omega
    rcases henc with ⟨b0, b1, he, hb⟩ | ⟨b0, b1, b2, he, hb⟩ | ⟨b0, b1, b2, b3, he, hb⟩
    · have hz0 : ((Utf8.encode r).size : Int) = 2 := by rw [he]; rfl
      have hz : wrap64 (2 - 1) = 1 := by decide +kernel
      simp only [hz0]; simp only [hz, he]
      apply wp_loop_once
      have hb' : ¬ ((10 : Int) = (b1.toNat : Int)) := by omega
      go_wp2
      apply wp_scope_straight
      go_wp2
      go_region_o
      go_wp2
      · go_region_with_o (refine (idx_hi L _ _ _ hb (by kernel_rfl)).mono ?_; rintro e w' ⟨rfl, hw⟩; rw [hw])
        go_wp2
        all_goals (change bodyPost P (Body.n152 ρ) (fun e w' => e = Ending.returned (Value.int IntKind.i64 (-1)) ∧ (w' = w ∨ w' = w.drew.drew)) Exit.ret _ _; go_ret; exact ⟨rfl, .inr rfl⟩)
      · exfalso
        have hx : (((({ data := #[9, 10, 12, 13, 32, 59] } : ByteArray)[1]'(by decide)).toNat : Int) != ((({ data := #[b0, b1] } : ByteArray)[1]'(by show 1 < 2; decide)).toNat : Int)) = false := by assumption
        have hx' : ((10 : Int) != (b1.toNat : Int)) = false := hx
        simp at hx'
        omega
    · have hz0 : ((Utf8.encode r).size : Int) = 3 := by rw [he]; rfl
      have hz : wrap64 (3 - 1) = 2 := by decide +kernel
      simp only [hz0]; simp only [hz, he]
      apply wp_loop_once
      have hb' : ¬ ((12 : Int) = (b2.toNat : Int)) := by omega
      go_wp2
      apply wp_scope_straight
      go_wp2
      go_region_o
      go_wp2
      · go_region_with_o (refine (idx_hi L _ _ _ hb (by kernel_rfl)).mono ?_; rintro e w' ⟨rfl, hw⟩; rw [hw])
        go_wp2
        all_goals (change bodyPost P (Body.n152 ρ) (fun e w' => e = Ending.returned (Value.int IntKind.i64 (-1)) ∧ (w' = w ∨ w' = w.drew.drew)) Exit.ret _ _; go_ret; exact ⟨rfl, .inr rfl⟩)
      · exfalso
        have hx : (((({ data := #[9, 10, 12, 13, 32, 59] } : ByteArray)[2]'(by decide)).toNat : Int) != ((({ data := #[b0, b1, b2] } : ByteArray)[2]'(by show 2 < 3; decide)).toNat : Int)) = false := by assumption
        have hx' : ((12 : Int) != (b2.toNat : Int)) = false := hx
        simp at hx'
        omega
    · have hz0 : ((Utf8.encode r).size : Int) = 4 := by rw [he]; rfl
      have hz : wrap64 (4 - 1) = 3 := by decide +kernel
      simp only [hz0]; simp only [hz, he]
      apply wp_loop_once
      have hb' : ¬ ((13 : Int) = (b3.toNat : Int)) := by omega
      go_wp2
      apply wp_scope_straight
      go_wp2
      go_region_o
      go_wp2
      · go_region_with_o (refine (idx_hi L _ _ _ hb (by kernel_rfl)).mono ?_; rintro e w' ⟨rfl, hw⟩; rw [hw])
        go_wp2
        all_goals (change bodyPost P (Body.n152 ρ) (fun e w' => e = Ending.returned (Value.int IntKind.i64 (-1)) ∧ (w' = w ∨ w' = w.drew.drew)) Exit.ret _ _; go_ret; exact ⟨rfl, .inr rfl⟩)
      · exfalso
        have hx : (((({ data := #[9, 10, 12, 13, 32, 59] } : ByteArray)[3]'(by decide)).toNat : Int) != ((({ data := #[b0, b1, b2, b3] } : ByteArray)[3]'(by show 3 < 4; decide)).toNat : Int)) = false := by assumption
        have hx' : ((13 : Int) != (b3.toNat : Int)) = false := hx
        simp at hx'
        omega
end
end Go.Proofs
namespace Go.Proofs.YtecpgelhhbbjmaaDoor
open Go.Av Go.RowKit
def iruneX (s : List UInt8) (r : Int) : Option Int := if s = [9, 10, 12, 13, 32, 59] ∧ 128 ≤ r ∧ r ≠ 65533 then some (-1) else strings_IndexRune s r
theorem iruneX_ok {s : List UInt8} {r n : Int} (hP : iruneX s r = some n) : CallOK Tryd.prog 59 [.str s, .int .i32 r] (.int .i64 n) [] := by
  unfold iruneX at hP
  split at hP
  · rename_i hc
    obtain ⟨rfl, h1, h2⟩ := hc
    obtain rfl := Option.some.inj hP
    refine callOK_flat ⟨_, Tryd.func59, rfl, by decide⟩ rfl rfl fun w _ => ?_
    refine (irune_hi6 (ρ := Tryd.lays153_ren) { Tryd.lays153 with } r w h1 h2).mono ?_
    rintro e w' ⟨rfl, hw⟩
    refine ⟨rfl, ?_⟩
    rcases hw with rfl | rfl
    · exact Gr.refl _
    · exact (Gr.drew w).trans (Gr.drew _)
  · exact strings_IndexRune_ok hP
end Go.Proofs.YtecpgelhhbbjmaaDoor
