/- For every text of at most 200 bytes and every two bytes: with the one behind it and with the other one behind it the sums are equal if and only if the bytes are, and lie from 0 to 2^32 - 1. Conditions: none but the text's reach. -/
import Derived.Test.YtgfpkhihdahjlabQCrcBytesx2
import Derived.Test.YtgfpkhihdahjlabCrcThy
namespace Go.Proofs.Ytgfpkhihdahjlab.Pure
open Go.RowKit Go.Proofs.Ytgfpkhihdahjlab.QCrcBytes Go.Proofs.YtgfpkhihdahjlabW.PrintWords Go.Proofs.YtgfpkhihdahjlabW.PrintLast Go.Proofs.Ytgfpkhihdahjlab.Given Go.Proofs.Ytgfpkhihdahjlab.CrcThy

theorem sum_CrcBytes (s : ByteArray) (h : s.size ≤ 140737488351232) : crc_Sum.f s = some (crcI s.data.toList) := by unfold crc_Sum.f; rw [if_pos h]
theorem wf_CrcBytes {k : IntKind} {a m n : Int} (h : (Lit.int k a).wf = true) (hm : k.min = m) (hn : k.max = n) : m ≤ a ∧ a ≤ n := by
  have h' : (decide (k.min ≤ a) && decide (a ≤ k.max)) = true := h
  rw [Bool.and_eq_true, decide_eq_true_eq, decide_eq_true_eq, hm, hn] at h'
  exact h'
theorem awake_CrcBytes : switchboardlaw06_awake.f = some true := by
  have h := crc_awake
  unfold switchboardlaw06_awake.f
  rw [sum_CrcBytes _ (by decide), sum_CrcBytes _ (by decide), sum_CrcBytes _ (by decide)]
  simp only [Option.bind_some]
  rw [if_pos h.1]
  simpa using h.2

theorem strOf1 {a : Int} (s : ByteArray) : (s ++ strOfNums [a]).data.toList = s.data.toList ++ [UInt8.ofNat a.toNat] := by
  unfold strOfNums; simp
theorem CrcBytes : switchboardlaw06_CrcBytes.Pure := by
  intro s a b hs ha hb
  have ha := wf_CrcBytes ha (m := 0) (n := 255) rfl rfl
  have hb := wf_CrcBytes hb (m := 0) (n := 255) rfl rfl
  unfold switchboardlaw06_CrcBytes.f
  rw [awake_CrcBytes]
  simp only [Option.bind_some]
  by_cases h : (s.size : Int) > 200
  · rw [if_pos h]
  · rw [if_neg h]
    have z (x : Int) : (strOfNums [x]).size = 1 := rfl
    have zz (x : Int) : (s ++ strOfNums [x]).size = s.size + 1 := by rw [ByteArray.size_append, z x]
    rw [if_pos (by rw [z a]; omega), sum_CrcBytes _ (by rw [zz a]; omega)]
    simp only [Option.bind_some]
    rw [if_pos (by rw [z b]; omega), sum_CrcBytes _ (by rw [zz b]; omega)]
    simp only [Option.bind_some]
    rw [strOf1, strOf1]
    have lo := crcI_lo (s.data.toList ++ [UInt8.ofNat a.toNat])
    have hi := crcI_hi (s.data.toList ++ [UInt8.ofNat a.toNat])
    rw [if_pos, if_pos lo, if_pos hi]
    by_cases e : a = b
    · subst e; simp
    · have ne : UInt8.ofNat a.toNat ≠ UInt8.ofNat b.toNat := by
        intro k
        have k2 := congrArg UInt8.toNat k
        simp at k2
        omega
      have d := crcI_one s.data.toList [] ne
      rw [beq_eq_false_iff_ne.2 d, beq_eq_false_iff_ne.2 e]; rfl

end Go.Proofs.Ytgfpkhihdahjlab.Pure
