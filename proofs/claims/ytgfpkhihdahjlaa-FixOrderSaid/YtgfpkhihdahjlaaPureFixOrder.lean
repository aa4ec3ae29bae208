/- For every three numbers a, b, c: what is greater stays so when a number is added, and when it is times one that is not below 0. Conditions: a, b and c are of the kind int. -/
import Derived.Test.YtgfpkhihdahjlaaPFixOrderx1
import Derived.Test.YtgfpkhihdahjlaaFixCom
namespace Go.Proofs.Ytgfpkhihdahjlaa.Pure
open Go.RowKit Go.Proofs.Ytgfpkhihdahjlaa.PFixOrder Go.Proofs.YtgfpkhihdahjlaaW.PrintWords Go.Proofs.YtgfpkhihdahjlaaW.PrintLast Go.Proofs.Ytgfpkhihdahjlaa.FixCom

theorem hold_FixOrder (a : Int) : fix_Hold.f a = some (H a) := by unfold fix_Hold.f; rw [mxmn]
theorem add_FixOrder (a b : Int) : fix_Add.f a b = some (H (H a + H b)) := by
  simp only [fix_Add.f, hold_FixOrder, Option.bind_some, add_word]
theorem sub_FixOrder (a b : Int) : fix_Sub.f a b = some (H (H a - H b)) := by
  simp only [fix_Sub.f, hold_FixOrder, Option.bind_some, sub_word]
theorem mul_FixOrder (a b : Int) : fix_Mul.f a b = some (H (Int.tdiv (H a * H b) 65536)) := by
  simp only [fix_Mul.f, hold_FixOrder, Option.bind_some, mul_word]
theorem awake_FixOrder : switchboardlaw01_awake.f = some true := by
  simp only [switchboardlaw01_awake.f, add_FixOrder, sub_FixOrder, mul_FixOrder, Option.bind_some]; decide

theorem FixOrder : switchboardlaw01_FixOrder.Pure := by
  intro a b c _ _ _
  have hmin := mn_le a b
  have hmax := mx_le a b
  have hxy : H (mn a b) ≤ H (mx a b) := H_mono (by omega)
  have hk := mx_le (H c) 0
  have hkh : H (mx (H c) 0) = mx (H c) 0 := H_id (by have := H_lo c; omega) (by have := H_hi c; omega)
  have h1 : H (H (mn a b) + H c) ≤ H (H (mx a b) + H c) := H_mono (by omega)
  have h2 : H (H c - H (mx a b)) ≤ H (H c - H (mn a b)) := H_mono (by omega)
  have h3 : H (Int.tdiv (H (mn a b) * mx (H c) 0) 65536) ≤ H (Int.tdiv (H (mx a b) * mx (H c) 0) 65536) := H_mono (td_mono (Int.mul_le_mul_of_nonneg_right hxy (by omega)))
  have h4 : 0 ≤ H (Int.tdiv (H (mn a b) * H (mn a b)) 65536) := by
    have hs : 0 ≤ H (mn a b) * H (mn a b) := by rw [← Int.natAbs_mul_self]; omega
    have hd : 0 ≤ Int.tdiv (H (mn a b) * H (mn a b)) 65536 := by rw [td_pos hs]; omega
    have := H_mono hd; rwa [H_id (a := 0) (by omega) (by omega)] at this
  simp only [switchboardlaw01_FixOrder.f, hold_FixOrder, add_FixOrder, sub_FixOrder, mul_FixOrder, awake_FixOrder, Option.bind_some, H_H, hkh]
  rw [if_pos h1, if_pos h3, if_pos h2, if_pos h4]

end Go.Proofs.Ytgfpkhihdahjlaa.Pure
