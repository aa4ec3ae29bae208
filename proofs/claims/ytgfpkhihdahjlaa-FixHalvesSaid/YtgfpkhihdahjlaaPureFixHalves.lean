/- For every number a: half of a half is a quarter, but for at most one; two times it is the sum of it with itself. Conditions: a is of the kind int. -/
import Derived.Test.YtgfpkhihdahjlaaPFixHalvesx1
import Derived.Test.YtgfpkhihdahjlaaFixCom
namespace Go.Proofs.Ytgfpkhihdahjlaa.Pure
open Go.RowKit Go.Proofs.Ytgfpkhihdahjlaa.PFixHalves Go.Proofs.YtgfpkhihdahjlaaW.PrintWords Go.Proofs.YtgfpkhihdahjlaaW.PrintLast Go.Proofs.Ytgfpkhihdahjlaa.FixCom

theorem hold_FixHalves (a : Int) : fix_Hold.f a = some (H a) := by unfold fix_Hold.f; rw [mxmn]
theorem add_FixHalves (a b : Int) : fix_Add.f a b = some (H (H a + H b)) := by
  simp only [fix_Add.f, hold_FixHalves, Option.bind_some, add_word]
theorem sub_FixHalves (a b : Int) : fix_Sub.f a b = some (H (H a - H b)) := by
  simp only [fix_Sub.f, hold_FixHalves, Option.bind_some, sub_word]
theorem mul_FixHalves (a b : Int) : fix_Mul.f a b = some (H (Int.tdiv (H a * H b) 65536)) := by
  simp only [fix_Mul.f, hold_FixHalves, Option.bind_some, mul_word]
theorem awake_FixHalves : switchboardlaw01_awake.f = some true := by
  simp only [switchboardlaw01_awake.f, add_FixHalves, sub_FixHalves, mul_FixHalves, Option.bind_some]; decide

theorem FixHalves : switchboardlaw01_FixHalves.Pure := by
  intro a _
  have l := H_lo a
  have g := H_hi a
  simp only [switchboardlaw01_FixHalves.f, add_FixHalves, mul_FixHalves, awake_FixHalves, Option.bind_some, H_H, H_id (a := 32768) (by omega) (by omega), H_id (a := 16384) (by omega) (by omega), H_id (a := 131072) (by omega) (by omega)]
  generalize H a = x at l g
  have e2 : Int.tdiv (x * 131072) 65536 = x + x := by
    rw [show x * 131072 = (x + x) * 65536 from by omega, Int.mul_tdiv_cancel _ (by omega)]
  rw [e2]
  by_cases h : 0 ≤ x
  · rw [td_pos (n := x * 32768) (by omega), H_id (a := x * 32768 / 65536) (by omega) (by omega), td_pos (n := x * 32768 / 65536 * 32768) (by omega), H_id (a := x * 32768 / 65536 * 32768 / 65536) (by omega) (by omega), td_pos (n := x * 16384) (by omega), H_id (a := x * 16384 / 65536) (by omega) (by omega)]
    have m1 := mx_le (x * 32768 / 65536 * 32768 / 65536) (x * 16384 / 65536)
    have m2 := mn_le (x * 32768 / 65536 * 32768 / 65536) (x * 16384 / 65536)
    rw [decide_eq_true (p := x * 32768 / 65536 * 32768 / 65536 ≥ 0) (by omega), decide_eq_true (p := x * 16384 / 65536 ≥ 0) (by omega)]
    generalize mx _ _ = p at m1
    generalize mn _ _ = q at m2
    rw [w64 (a := p - q) (by omega) (by omega), if_pos (by omega), if_pos rfl]; rfl
  · rw [td_neg (n := x * 32768) (by omega), H_id (a := -(-(x * 32768) / 65536)) (by omega) (by omega), td_neg (n := -(-(x * 32768) / 65536) * 32768) (by omega), H_id (a := -(-(-(-(x * 32768) / 65536) * 32768) / 65536)) (by omega) (by omega), td_neg (n := x * 16384) (by omega), H_id (a := -(-(x * 16384) / 65536)) (by omega) (by omega)]
    have m1 := mx_le (-(-(-(-(x * 32768) / 65536) * 32768) / 65536)) (-(-(x * 16384) / 65536))
    have m2 := mn_le (-(-(-(-(x * 32768) / 65536) * 32768) / 65536)) (-(-(x * 16384) / 65536))
    have hs : decide (-(-(-(-(x * 32768) / 65536) * 32768) / 65536) ≥ 0) = decide (-(-(x * 16384) / 65536) ≥ 0) := by
      rw [decide_eq_decide]; omega
    rw [hs]
    generalize mx _ _ = p at m1
    generalize mn _ _ = q at m2
    rw [w64 (a := p - q) (by omega) (by omega), if_pos (by omega), if_pos (by simp), if_pos rfl]

end Go.Proofs.Ytgfpkhihdahjlaa.Pure
