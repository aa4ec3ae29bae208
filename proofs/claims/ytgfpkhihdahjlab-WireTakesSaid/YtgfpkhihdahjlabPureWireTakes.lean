/- For every text of at most 200 bytes: it is the message that the document says (the reference's answer), or none; and the message is written as they are. Conditions: none but the text's reach. -/
import Derived.Test.YtgfpkhihdahjlabQWirex19
import Derived.Test.YtgfpkhihdahjlabWireRefT
import Derived.Test.YtgfpkhihdahjlabWireMor
namespace Go.Proofs.Ytgfpkhihdahjlab.Pure
open Go Go.RowKit Go.Proofs.Ytgfpkhihdahjlab.QWire Go.Proofs.YtgfpkhihdahjlabW.PrintWords Go.Proofs.YtgfpkhihdahjlabW.PrintLast Go.Proofs.Ytgfpkhihdahjlab.Given Go.Proofs.Ytgfpkhihdahjlab.CrcThy Go.Proofs.Ytgfpkhihdahjlab.WireThy Go.Proofs.Ytgfpkhihdahjlab.WireFun Go.Proofs.Ytgfpkhihdahjlab.WireRef Go.Proofs.Ytgfpkhihdahjlab.WireLaw

/-- Equal bytes, as the program asks for them. -/
theorem same_text {s t : ByteArray} (h : s.data.toList = t.data.toList) : s = t := by
  apply ByteArray.ext; exact Array.toList_inj.1 h
theorem vec_short {B : List UInt8} (hB : B.length ≤ 200) : (takeS B).2.1.length ≤ 1000 := by
  unfold takeS msgOf
  split
  · simp
  · split
    · simp
    · split
      · have := nums_len B
        simp only [List.length_map, List.length_drop, List.length_take]; omega
      · simp
theorem WireTakes : switchboardlaw07_WireTakes.Pure := by
  intro s _
  refine ⟨5000, ?_⟩
  unfold switchboardlaw07_WireTakes.f
  by_cases h : (s.size : Int) > 200
  · rw [if_pos h, awake_wire 5000 (by omega)]; rfl
  · rw [if_neg h]
    obtain ⟨m0, m1, m2, m3, m4, m5, m6, m7, m8, m9, v, e, h1, h2⟩ := take_is s (by omega) 5000 (by omega)
    have t2 := rtake_is s (by omega) 5000 (by omega)
    rw [h2] at t2
    have hv := vec_short (B := s.data.toList) (by rw [data_length]; omega)
    rw [h2] at hv
    rw [h1, Option.bind_some, tells_ok t2, Option.bind_some, rsame_is m0 m1 m2 m3 m4 m5 m6 m7 m8 m9 v m0 m1 m2 m3 m4 m5 m6 m7 m8 m9 v (by show v.length ≤ _; exact Nat.le_trans hv (by omega)) (by exact Nat.le_trans hv (by omega)) 5000 (by have : v.length ≤ 1000 := hv; omega), Option.bind_some, if_pos (by simp)]
    simp only [switchboardlaw07_WireTakes.j0]
    rw [if_neg (by simp)]
    rcases take_cases s.data.toList with c | c
    · rw [h2] at c
      have c : e = 0 := c
      subst c
      obtain ⟨hr, hp, _⟩ := put_take h2
      obtain ⟨t, p1, p2, _⟩ := put_yes hr 4999 (by omega)
      rw [hp] at p2
      obtain rfl := same_text p2
      rw [p1, Option.bind_some, if_pos rfl, if_pos rfl, if_pos rfl, awake_wire 4999 (by omega)]; rfl
    · rw [h2] at c
      have c : e ≠ 0 ∧ [m0, m1, m2, m3, m4, m5, m6, m7, m8, m9] = zeros ∧ v = [] := c
      obtain ⟨c1, c2, rfl⟩ := c
      have hr : ¬ RightB [m0, m1, m2, m3, m4, m5, m6, m7, m8, m9] [] = true := by rw [c2]; decide
      rw [put_no (by simp) hr 4999 (by simp), Option.bind_some, if_neg c1, awake_wire 4999 (by omega)]; rfl
end Go.Proofs.Ytgfpkhihdahjlab.Pure
