/- LexMeant, plain. -/
import Derived.Test.YteahieldmfehlaaDoorPWords
import Derived.Test.YteahieldmfehlaaDoorU3H
import Derived.Test.YteahieldmfehlaaDoorLMeant
namespace Go.Proofs.YteahieldmfehlaaDoor
open Go.Av
theorem meant_core (s : List UInt8) (m : Med) (hb : s.length ≤ 1048576) (h1 : m.1.length ≤ 1048576) (h2 : m.2.1.length ≤ 1048576) (h3 : wtP m.2.2 ≤ 10000000) : law03_LexMeant s m = some true := by
  have h0 := mediaT_len s
  have t1 := textT_len (mediaT s).1
  have t2 := textT_len m
  have w2 := wtP_len m.2.2
  have w1 := wtP_len (mediaT s).1.2.2
  have tail : ((lex_Text (m.1, m.2.1, m.2.2)).bind fun r17 =>
      if decide (r17 = []) then
        some true
      else
        (szC (List.length ([9] ++ r17))).bind fun _ =>
        (szC (List.length (([9] ++ r17) ++ [32]))).bind fun _ =>
        (lex_Media (([9] ++ r17) ++ [32])).bind fun r20 =>
        (ref03_SameMedia (r20.1.1, r20.1.2.1, r20.1.2.2) (m.1, m.2.1, m.2.2)).bind fun r21 =>
        if decide (r20.2 = 0) then
          some r21
        else
          some false) = some true := by
    rw [show lex_Text (m.1, m.2.1, m.2.2) = some (textT m) from Text_eq (m := m) (by omega) (by omega) (by omega)]
    simp only [Option.bind_some, decide_eq_true_eq]
    by_cases he : textT m = []
    · rw [if_pos he]
    · have hr := media_read (m := m) (x := [9]) (y := [32]) rfl he (by decide) (by decide)
      rw [if_neg he, szC_ok (by simp; omega), szC_ok (by simp; omega), Media_eq (by simp; omega), hr]
      simp only [Option.bind_some]
      rw [SameMedia_eq (by show m.2.2.length ≤ _; omega)]
      simp
  unfold law03_LexMeant
  rw [shown3, Media_eq (by omega)]
  simp only [Option.bind_some, Bool.not_true, Bool.false_eq_true, if_false, decide_eq_true_eq]
  by_cases hc : (mediaT s).2 = 0
  · obtain ⟨a1, a2, b, a3⟩ := media_written hc
    have hne : textT (mediaT s).1 ≠ [] := by
      unfold textT
      rw [if_pos ⟨a1, a2⟩, a3]
      simp
    have hr := media_read (m := (mediaT s).1) (x := []) (y := []) rfl hne (by simp) (by simp)
    rw [List.append_nil, List.nil_append] at hr
    rw [if_pos hc, show lex_Text ((mediaT s).1.1, (mediaT s).1.2.1, (mediaT s).1.2.2) = some (textT (mediaT s).1) from Text_eq (m := (mediaT s).1) (by omega) (by omega) (by omega)]
    simp only [Option.bind_some]
    rw [Media_eq (by omega), hr]
    simp only [Option.bind_some]
    rw [SameMedia_eq (by show (mediaT s).1.2.2.length ≤ _; omega)]
    simp only [Option.bind_some, decide_true, Bool.not_true, Bool.false_eq_true, if_false]
    simpa using tail
  · rw [if_neg hc]
    simp only [Option.bind_some]
    simpa using tail
end Go.Proofs.YteahieldmfehlaaDoor
