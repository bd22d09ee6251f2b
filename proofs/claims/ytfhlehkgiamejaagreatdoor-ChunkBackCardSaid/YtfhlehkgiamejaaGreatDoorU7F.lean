/- Chunks: a chunk is read as what it was made of. -/
import Derived.Test.YtfhlehkgiamejaaGreatDoorU7D
import Derived.Test.YtfhlehkgiamejaaGreatDoorU7A
namespace Go.Proofs.YtfhlehkgiamejaaGreatDoor
open Go.Av
set_option linter.unusedVariables false
set_option linter.unusedSimpArgs false
set_option maxRecDepth 100000
theorem num_text {n : Nat} (h : n ≤ MX) : numS 16 (textS 16 (n : Int)) = ((n : Int), 0) := by
  have e : textS 16 (n : Int) = txt 16 n := by unfold textS; rw [if_neg (by omega), Int.toNat_natCast]
  rw [e]
  unfold numS
  rw [if_neg (fun e => e.elim (fun e => txt_ne 16 n e) (fun e => by
    obtain ⟨c, hc, hd⟩ := List.any_eq_true.1 e
    have := txt_dig 16 (.inr rfl) n c hc
    have := of_decide_eq_true hd
    omega)), valF_txt 16 (.inr rfl) n, if_pos h]
theorem hex_mem (c : UInt8) (h : hexV c < 16) : c ≠ 10 ∧ c ≠ 13 ∧ c ≠ 59 := by
  have := all256 (p := fun c => decide (hexV c < 16 → c ≠ 10 ∧ c ≠ 13 ∧ c ≠ 59)) (by kernel_rfl) c
  exact of_decide_eq_true this h
theorem cut_none {s : List UInt8} (h : (59 : UInt8) ∉ s) : Lib.cut s [59] = (s, [], false) := by
  rcases cut_spec 59 s with ⟨h1, _⟩ | ⟨a, b, h1, _⟩
  · exact h1
  · exact absurd (by rw [h1]; simp) h
theorem one_text (last : Bool) (rows : Int) (line : List UInt8) (all : Int) (done : Bool) (err : Int) (x : UInt8) :
    oneS (0, last, rows, line, all, done, err) x = (chunk_chunked_text x 0 last rows line all done err []).map fun r => ((r.1, r.2.1, r.2.2.1, r.2.2.2.1, all, r.2.2.2.2.1, r.2.2.2.2.2), []) := by
  unfold oneS chunk_chunked_one
  rw [show decide ((0 : Int) < 0) = false from rfl]
  simp only [Bool.false_eq_true, if_false]
  cases chunk_chunked_text x 0 last rows line all done err [] <;> rfl
theorem one_line {last : Bool} {rows : Int} {line : List UInt8} {all : Int} {x : UInt8} (h1 : x ≠ 10) (h2 : last13 line = false) (h3 : line.length < 63) :
    oneS (0, last, rows, line, all, false, 0) x = some ((0, last, rows, line ++ [x], all, false, 0), []) := by
  rw [one_text, text_eq (by omega), h2, decide_eq_false h1, if_neg (by decide), if_neg h1, if_neg (by omega)]
  rfl
theorem line_run {last : Bool} {rows all : Int} : ∀ (u line : List UInt8), (∀ c ∈ u, c ≠ 10 ∧ c ≠ 13) → last13 line = false → line.length + u.length < 63 → runS u (0, last, rows, line, all, false, 0) = some (u.length, (0, last, rows, line ++ u, all, false, 0), [])
  | [], line, _, _, _ => by simp [runS]
  | x :: r, line, hc, hl, hn => by
    have hx := hc x (by simp)
    simp only [runS]
    rw [if_neg (by simp [stopS]), one_line hx.1 hl (by simp at hn; omega)]
    simp only [Option.bind_some]
    rw [line_run r (line ++ [x]) (fun c h => hc c (by simp [h])) (by rw [last_app]; exact decide_eq_false hx.2) (by simp at hn ⊢; omega)]
    simp
/-- a size line -/
theorem one_size {h : List UInt8} {n a : Nat} (hl : h.length ≤ 60) (hc : (59 : UInt8) ∉ h) (hv : numS 16 h = ((n : Int), 0)) (hn : a + n ≤ 8192) :
    oneS (0, false, 0, h ++ [13], (a : Int), false, 0) 10 = some ((if n = 0 then 0 else (n : Int), decide (n = 0), 0, [], (a : Int), false, 0), []) := by
  rw [one_text, text_eq (by simp; omega), last_app, if_neg (by decide), if_pos rfl, if_neg (by decide)]
  have et : List.take ((h ++ [13]).length - 1) (h ++ [13]) = h := by simp
  rw [et, size_eq (by omega) (by omega) (by omega), cut_none hc, hv]
  dsimp only
  rw [if_neg (fun e => e.elim (fun e => e rfl) (fun e => by cases e)), if_neg (by omega)]
  by_cases h0 : n = 0
  · subst h0; rfl
  · rw [if_neg (by omega), if_neg h0, decide_eq_false h0]; rfl
theorem size_run {h : List UInt8} {n a : Nat} (hl : h.length ≤ 60) (hc : ∀ c ∈ h, c ≠ 10 ∧ c ≠ 13 ∧ c ≠ 59) (hv : numS 16 h = ((n : Int), 0)) (hn : a + n ≤ 8192) :
    runS (h ++ [13, 10]) (0, false, 0, [], (a : Int), false, 0) = some ((h ++ [13, 10]).length, (if n = 0 then 0 else (n : Int), decide (n = 0), 0, [], (a : Int), false, 0), []) := by
  have h1 := line_run (last := false) (rows := 0) (all := (a : Int)) h [] (fun c hx => ⟨(hc c hx).1, (hc c hx).2.1⟩) rfl (by simp; omega)
  rw [List.nil_append] at h1
  have hl13 : last13 h = false := by
    unfold last13
    rw [decide_eq_false]
    intro e
    have := List.mem_of_getLast? e
    exact (hc 13 this).2.1 rfl
  have h2 : runS [13, 10] (0, false, 0, h, (a : Int), false, 0) = some (2, (if n = 0 then 0 else (n : Int), decide (n = 0), 0, [], (a : Int), false, 0), []) := by
    simp only [runS]
    rw [if_neg (by simp [stopS]), one_line (by decide) hl13 (by omega)]
    simp only [Option.bind_some]
    rw [if_neg (by simp [stopS]), one_size hl (fun e => (hc 59 e).2.2 rfl) hv hn]
    rfl
  have := run_app h1 h2
  simpa using this
theorem one_data {left : Int} {last : Bool} {rows : Int} {line : List UInt8} {a : Nat} {x : UInt8} (h0 : 0 < left) (h1 : left ≤ 8192) (ha : a ≤ 8192) :
    oneS (left, last, rows, line, (a : Int), false, 0) x = some ((if left = 1 then -2 else left - 1, last, rows, line, ((a + 1 : Nat) : Int), false, 0), [x]) := by
  unfold oneS chunk_chunked_one
  rw [decide_eq_true h0]
  simp only [if_true]
  unfold chunk_Reader_means
  rw [szC_ok (by simp), isub64 (by omega) (by omega), iadd64 (by omega) (by omega)]
  simp only [Option.bind_some]
  by_cases e : left = 1
  · rw [if_pos (decide_eq_true (by omega)), if_pos e]; rfl
  · rw [if_neg (by simp; omega), if_neg e]; rfl
theorem data_run {last : Bool} {rows : Int} {line : List UInt8} : ∀ (p : List UInt8) (a : Nat), p ≠ [] → a + p.length ≤ 8192 → runS p ((p.length : Int), last, rows, line, (a : Int), false, 0) = some (p.length, (-2, last, rows, line, ((a + p.length : Nat) : Int), false, 0), p)
  | [], _, h, _ => absurd rfl h
  | [x], a, _, hn => by
    simp only [runS]
    rw [if_neg (by simp [stopS]), one_data (by simp) (by simp) (by omega)]
    rfl
  | x :: y :: r, a, _, hn => by
    rw [runS, if_neg (by simp [stopS]), one_data (by simp; omega) (by simp at hn ⊢; omega) (by omega), if_neg (by simp; omega)]
    simp only [Option.bind_some]
    have := data_run (last := last) (rows := rows) (line := line) (y :: r) (a + 1) (by simp) (by simp at hn ⊢; omega)
    rw [show (((x :: y :: r).length : Nat) : Int) - 1 = (((y :: r).length : Nat) : Int) by simp]
    rw [this]
    simp only [Option.map_some, Option.some.injEq, Prod.mk.injEq, List.length_cons, and_true, true_and, List.cons_append, List.nil_append]
    omega
theorem crlf_run {last : Bool} {rows : Int} {line : List UInt8} {a : Nat} : runS [13, 10] (-2, last, rows, line, (a : Int), false, 0) = some (2, (0, last, rows, line, (a : Int), false, 0), []) := rfl
def idl (a : Nat) : Cst := (0, false, 0, [], (a : Int), false, 0)
theorem text16 {n : Nat} (h : n ≤ 1048576) : (∀ c ∈ textS 16 (n : Int), c ≠ 10 ∧ c ≠ 13 ∧ c ≠ 59) := by
  intro c hc
  unfold textS at hc
  rw [if_neg (by omega), Int.toNat_natCast] at hc
  exact hex_mem c (txt_dig 16 (.inr rfl) n c hc)
theorem chunk_run {p : List UInt8} {a : Nat} (h : a + p.length ≤ 8192) : runS (chunkT p) (idl a) = some ((chunkT p).length, idl (a + p.length), p) := by
  unfold chunkT
  by_cases hp : p = []
  · subst hp; rfl
  · rw [if_neg hp]
    have hp0 : p.length ≠ 0 := fun e => hp (List.length_eq_zero_iff.1 e)
    have ht := text16_len (n := p.length) (by omega)
    have h1 := size_run (h := textS 16 (p.length : Int)) (n := p.length) (a := a) (by omega) (text16 (by omega)) (num_text (by unfold MX; omega)) (by omega)
    rw [if_neg hp0, decide_eq_false hp0] at h1
    have h2 := data_run (last := false) (rows := 0) (line := []) p a hp h
    have h3 := run_app h1 h2
    rw [← List.length_append] at h3
    have h4 := run_app h3 (crlf_run (last := false) (rows := 0) (line := []) (a := a + p.length))
    unfold idl
    rw [h4]
    simp
    omega
theorem one_end {a : Nat} : oneS (0, true, 0, [13], (a : Int), false, 0) 10 = some ((0, true, 0, [], (a : Int), true, 0), []) := by
  rw [one_text, text_eq (by decide), if_neg (by decide), if_pos rfl, if_pos rfl]
  rw [show List.take (([13] : List UInt8).length - 1) ([13] : List UInt8) = [] from rfl, trailer_nil]
  rfl
theorem last_run {a : Nat} (h : a ≤ 8192) : runS lastT (idl a) = some (5, (0, true, 0, [], (a : Int), true, 0), []) := by
  have h1 := size_run (h := [48]) (n := 0) (a := a) (by decide) (by decide) (by decide +kernel) (by omega)
  have h2 : runS [13, 10] (0, true, 0, [], (a : Int), false, 0) = some (2, (0, true, 0, [], (a : Int), true, 0), []) := by
    have e1 : oneS (0, true, 0, [], (a : Int), false, 0) 13 = some ((0, true, 0, [13], (a : Int), false, 0), []) := one_line (line := []) (by decide) rfl (by decide)
    unfold runS
    rw [if_neg (by simp [stopS]), e1]
    simp only [Option.bind_some]
    unfold runS
    rw [if_neg (by simp [stopS]), one_end]
    rfl
  have h3 := run_app h1 h2
  exact h3
end Go.Proofs.YtfhlehkgiamejaaGreatDoor
