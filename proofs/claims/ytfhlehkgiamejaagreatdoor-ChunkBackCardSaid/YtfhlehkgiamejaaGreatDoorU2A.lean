/- Numbers: what digits tell, and a number's text; the program's and the reference's reading and writing. -/
import Derived.Test.YtfhlehkgiamejaaGreatDoorU4A
import Derived.Test.YtfhlehkgiamejaaGreatDoorGN
import Derived.Test.YtfhlehkgiamejaaGreatDoorLibM
import Derived.Test.YtfhlehkgiamejaaGreatDoorAvPj
namespace Go.Proofs.YtfhlehkgiamejaaGreatDoor
open Go.Av
set_option linter.unusedVariables false
set_option linter.unusedSimpArgs false
/-- of base sixteen; 16: it is none -/
def hexV (c : UInt8) : Nat := if 48 ≤ c.toNat ∧ c.toNat ≤ 57 then c.toNat - 48 else if 97 ≤ c.toNat ∧ c.toNat ≤ 102 then c.toNat - 87 else if 65 ≤ c.toNat ∧ c.toNat ≤ 70 then c.toNat - 55 else 16
def valF (b : Nat) : Nat → List UInt8 → Nat
  | n, [] => n
  | n, c :: r => valF b (n * b + hexV c) r
def MX : Nat := 9223372036854775807
/-- the number that digits of a base tell -/
def numS (b : Nat) (s : List UInt8) : Int × Int :=
  if s = [] ∨ s.any (fun c => decide (b ≤ hexV c)) = true then (0, 2) else if valF b 0 s ≤ MX then ((valF b 0 s : Nat), 0) else (0, 3)
theorem valF_ge (b : Nat) (hb : 1 ≤ b) : ∀ (s : List UInt8) (n : Nat), n ≤ valF b n s
  | [], n => Nat.le_refl _
  | c :: r, n => by
    have h := valF_ge b hb r (n * b + hexV c)
    have : n * 1 ≤ n * b := Nat.mul_le_mul_left n hb
    simp only [valF]; omega
theorem valF_app (b : Nat) : ∀ (s t : List UInt8) (n : Nat), valF b n (s ++ t) = valF b (valF b n s) t
  | [], t, n => rfl
  | c :: r, t, n => by simp only [List.cons_append, valF]; exact valF_app b r t _
theorem over_iff {b n d : Nat} (hb : b = 10 ∨ b = 16) (hd : d < b) : (MX - d) / b < n ↔ MX < n * b + d := by
  unfold MX
  rcases hb with rfl | rfl <;> omega
theorem quo_over {b n d : Nat} (hb : b = 10 ∨ b = 16) (hd : d < b) : decide (iquo .i64 (isub .i64 9223372036854775807 (d : Int)) (b : Int) < (n : Int)) = decide (MX < n * b + d) := by
  have h1 : isub .i64 9223372036854775807 (d : Int) = ((MX - d : Nat) : Int) := by
    rw [isub64 (by rcases hb with rfl | rfl <;> omega) (by omega)]; unfold MX; rcases hb with rfl | rfl <;> omega
  rw [h1, iquo64 (by omega) (by unfold MX; omega) (by rcases hb with rfl | rfl <;> omega)]
  have h2 : ((MX - d : Nat) : Int) / (b : Int) = (((MX - d) / b : Nat) : Int) := by simp
  rw [h2]
  have := over_iff (n := n) hb hd
  by_cases h : MX < n * b + d
  · simp only [h, decide_true, decide_eq_true_eq]; have := this.2 h; omega
  · have h3 : ¬ (MX - d) / b < n := fun h4 => h (this.1 h4)
    simp only [h, decide_false, decide_eq_false_iff_not]; omega
theorem step_in {b n d : Nat} (h : ¬ MX < n * b + d) : iadd .i64 (imul .i64 (n : Int) (b : Int)) (d : Int) = ((n * b + d : Nat) : Int) := by
  unfold MX at h
  have e : (n : Int) * (b : Int) = ((n * b : Nat) : Int) := by simp
  rw [imul64 (by rw [e]; omega) (by rw [e]; omega), iadd64 (by rw [e]; omega) (by rw [e]; omega), e]
  omega
theorem over_val {b : Nat} (hb : 1 ≤ b) {n : Nat} {c : UInt8} {r : List UInt8} (h : MX < n * b + hexV c) : MX < valF b n (c :: r) := by
  have := valF_ge b hb r (n * b + hexV c)
  simp only [valF]; omega
/-! the program's -/
def digD : List UInt8 := [48, 49, 50, 51, 52, 53, 54, 55, 56, 57]
def digH : List UInt8 := [48, 49, 50, 51, 52, 53, 54, 55, 56, 57, 97, 98, 99, 100, 101, 102, 65, 66, 67, 68, 69, 70]
theorem digD_in (c : UInt8) : digD.contains c = decide (hexV c < 10) := by
  have : ∀ n : _root_.Fin 256, digD.contains (UInt8.ofNat n.val) = decide (hexV (UInt8.ofNat n.val) < 10) := by decide +kernel
  have := this ⟨c.toNat, c.toNat_lt⟩
  simpa using this
theorem digH_in (c : UInt8) : digH.contains c = decide (hexV c < 16) := by
  have : ∀ n : _root_.Fin 256, digH.contains (UInt8.ofNat n.val) = decide (hexV (UInt8.ofNat n.val) < 16) := by decide +kernel
  have := this ⟨c.toNat, c.toNat_lt⟩
  simpa using this
theorem low_dig (c : UInt8) (h : hexV c < 16) : (Lib.lowerB c).toNat < 128 ∧ Lib.indexByte digH (Lib.lowerB c) = hexV c ∧ (hexV c < 10 → Lib.indexByte digD (Lib.lowerB c) = hexV c) ∧ c.toNat < 128 := by
  have : ∀ n : _root_.Fin 256, hexV (UInt8.ofNat n.val) < 16 → (Lib.lowerB (UInt8.ofNat n.val)).toNat < 128 ∧ Lib.indexByte digH (Lib.lowerB (UInt8.ofNat n.val)) = hexV (UInt8.ofNat n.val) ∧ (hexV (UInt8.ofNat n.val) < 10 → Lib.indexByte digD (Lib.lowerB (UInt8.ofNat n.val)) = hexV (UInt8.ofNat n.val)) ∧ (UInt8.ofNat n.val).toNat < 128 := by decide +kernel
  have := this ⟨c.toNat, c.toNat_lt⟩
  simp only [UInt8.ofNat_toNat] at this
  exact this h
theorem dropWhile_nil {p : UInt8 → Bool} : ∀ {l : List UInt8}, l.dropWhile p = [] ↔ l.all p = true
  | [] => by simp
  | c :: r => by
    rw [List.dropWhile_cons]
    by_cases h : p c = true
    · rw [if_pos h, dropWhile_nil, List.all_cons, h, Bool.true_and]
    · rw [if_neg h]; simp [h]
theorem trimS_nil {s cut : List UInt8} : Lib.trimS s cut = [] ↔ s.all (cut.contains ·) = true := by
  unfold Lib.trimS Lib.trimLeftS Lib.trimRightS
  rw [dropWhile_nil]
  constructor
  · intro h
    -- what is left of the tail is all of the set; then all of it is
    by_cases hd : s.reverse.dropWhile (cut.contains ·) = []
    · have := dropWhile_nil.1 hd
      simpa using this
    · exfalso
      have hne := hd
      have hh := List.head?_dropWhile_not (cut.contains ·) s.reverse
      rw [List.head?_eq_some_head hd] at hh
      have hm : (s.reverse.dropWhile (cut.contains ·)).head hd ∈ (s.reverse.dropWhile (cut.contains ·)).reverse := by simp
      have := List.all_eq_true.1 h _ hm
      simp only [this] at hh
      simp at hh
  · intro h
    have : s.reverse.dropWhile (cut.contains ·) = [] := dropWhile_nil.2 (by simpa using h)
    rw [this]; rfl
theorem irune {ds : List UInt8} {c : UInt8} (h : c.toNat < 128) : strings_IndexRune ds ((c.toNat : Nat) : Int) = some (Lib.indexByte ds c) := by
  have e : toB ((c.toNat : Nat) : Int) = c := by
    have := toB_b2i c
    unfold b2i at this
    exact this
  unfold strings_IndexRune indexByteX
  rw [show decide (0 ≤ ((c.toNat : Nat) : Int)) = true from by simp, show decide (((c.toNat : Nat) : Int) < 128) = true from by simp; omega, e]
  rfl
theorem read_loop (b : Nat) (ds : List UInt8) (hb : b = 10 ∧ ds = digD ∨ b = 16 ∧ ds = digH) (s : List UInt8) (hs : ∀ c ∈ s, hexV c < b) (hsz : s.length < 140737488355328) : ∀ (j k n : Nat), j ≤ s.length → s.length - j < k → n ≤ MX →
    num_read_L20 (s.map Lib.lowerB) ds (b : Int) k (n : Int) j = some (if valF b n (s.drop j) ≤ MX then Sum.inr ((valF b n (s.drop j) : Nat) : Int) else Sum.inl ((0 : Int), (3 : Int))) := by
  intro j k
  induction k generalizing j with
  | zero => intro n _ h; omega
  | succ k ih =>
    intro n hj hk hn
    have hb' : b = 10 ∨ b = 16 := by rcases hb with ⟨h, _⟩ | ⟨h, _⟩ <;> simp [h]
    simp only [num_read_L20]
    by_cases hlt : j < s.length
    · rw [if_pos (decide_eq_true (by simpa using hlt))]
      have hc := hs s[j] (List.getElem_mem hlt)
      have hc16 : hexV s[j] < 16 := by rcases hb' with rfl | rfl <;> omega
      obtain ⟨l1, l2, l3, l4⟩ := low_dig s[j] hc16
      have hd : decR (s.map Lib.lowerB) j = ((Lib.lowerB s[j]).toNat, 1) := by
        have h1 : j < (s.map Lib.lowerB).length := by simpa using hlt
        have h2 : (s.map Lib.lowerB)[j] = Lib.lowerB s[j] := by simp
        rw [decR_lo h1 (by rw [h2]; exact l1), h2]
      rw [hd]
      dsimp only
      rw [irune l1]
      have hix : Lib.indexByte ds (Lib.lowerB s[j]) = (hexV s[j] : Int) := by
        rcases hb with ⟨rfl, rfl⟩ | ⟨rfl, rfl⟩
        · exact l3 hc
        · exact l2
      simp only [Option.bind_some, hix]
      rw [chk_ok (decide_eq_true (by rcases hb' with rfl | rfl <;> decide))]
      simp only [Option.bind_some]
      rw [quo_over hb' hc]
      have hdr : s.drop j = s[j] :: s.drop (j + 1) := List.drop_eq_getElem_cons hlt
      by_cases ho : MX < n * b + hexV s[j]
      · rw [if_pos (decide_eq_true ho), hdr, if_neg (by have := over_val (b := b) (by rcases hb' with rfl | rfl <;> decide) (r := s.drop (j + 1)) ho; omega)]
      · rw [if_neg (by simpa using ho), step_in ho, ih (j + 1) (n * b + hexV s[j]) hlt (by omega) (by omega), hdr]
        rfl
    · rw [if_neg (by simpa using hlt)]
      have : s.drop j = [] := List.drop_eq_nil_of_le (by omega)
      rw [this, show valF b n [] = n from rfl, if_pos hn]
theorem read_eq (b : Nat) (ds : List UInt8) (hb : b = 10 ∧ ds = digD ∨ b = 16 ∧ ds = digH) (s : List UInt8) (hsz : s.length < 140737488355328) : num_read s ds (b : Int) = some (numS b s) := by
  have hb' : b = 10 ∨ b = 16 := by rcases hb with ⟨h, _⟩ | ⟨h, _⟩ <;> simp [h]
  have hin : ∀ c, ds.contains c = decide (hexV c < b) := by
    rcases hb with ⟨rfl, rfl⟩ | ⟨rfl, rfl⟩
    · exact digD_in
    · exact digH_in
  have hds : asciiB ds = true ∧ ds.length < 4294967281 := by
    rcases hb with ⟨rfl, rfl⟩ | ⟨rfl, rfl⟩ <;> exact ⟨by decide +kernel, by decide⟩
  unfold num_read numS
  by_cases h0 : s = []
  · subst h0; simp
  · rw [show decide (s = []) = false from by simpa using h0]
    simp only [Bool.false_eq_true, if_false, h0, false_or]
    unfold trimX
    rw [if_pos ⟨hds.1, hds.2, by omega⟩]
    simp only [Option.bind_some]
    by_cases ha : s.any (fun c => decide (b ≤ hexV c)) = true
    · have hn : ¬ Lib.trimS s ds = [] := by
        rw [trimS_nil]
        intro hall
        obtain ⟨c, hc, hc2⟩ := List.any_eq_true.1 ha
        have := List.all_eq_true.1 hall c hc
        rw [hin c] at this
        simp at this hc2
        omega
      simp [hn, ha]
    · have hall : ∀ c ∈ s, hexV c < b := fun c hc => by
        have : s.any (fun c => decide (b ≤ hexV c)) = false := by simpa using ha
        have := List.any_eq_false.1 this c hc
        simp at this
        omega
      have hn : Lib.trimS s ds = [] := by
        rw [trimS_nil, List.all_eq_true]
        intro c hc
        rw [hin c]
        exact decide_eq_true (hall c hc)
      rw [if_neg ha]
      simp only [hn, decide_true, Bool.not_true, Bool.false_eq_true, if_false]
      unfold lowerX
      rw [if_pos ⟨by
        unfold asciiB
        rw [List.all_eq_true]
        intro c hc
        have hc16 : hexV c < 16 := by have := hall c hc; rcases hb' with rfl | rfl <;> omega
        exact decide_eq_true (low_dig c hc16).2.2.2, by omega⟩]
      simp only [Option.bind_some, Lib.toLowerA]
      have := read_loop b ds hb s hall hsz 0 141836999983104 0 (by omega) (by omega) (by unfold MX; omega)
      rw [List.drop_zero] at this
      rw [show ((0 : Nat) : Int) = 0 from rfl] at this
      rw [this]
      split <;> rfl
theorem hex_eq (s : List UInt8) (hsz : s.length < 140737488355328) : num_Hex s = some (numS 16 s) := by
  unfold num_Hex
  have := read_eq 16 digH (.inr ⟨rfl, rfl⟩) s hsz
  rw [show num_read s [48, 49, 50, 51, 52, 53, 54, 55, 56, 57, 97, 98, 99, 100, 101, 102, 65, 66, 67, 68, 69, 70] 16 = num_read s digH ((16 : Nat) : Int) from rfl, this]
  rfl
end Go.Proofs.YtfhlehkgiamejaaGreatDoor
