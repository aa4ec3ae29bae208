/- For every two numbers a and b: whatever Hold, Add, Sub and Mul make is held, and what is above Top is as Top. Conditions: a and b are of the kind int. -/
import Derived.Test.YtgfpkhihdahjlaaPFixHeldx1
import Derived.Test.YtgfpkhihdahjlaaFixCom
namespace Go.Proofs.Ytgfpkhihdahjlaa.Pure
open Go.RowKit Go.Proofs.Ytgfpkhihdahjlaa.PFixHeld Go.Proofs.YtgfpkhihdahjlaaW.PrintWords Go.Proofs.YtgfpkhihdahjlaaW.PrintLast Go.Proofs.Ytgfpkhihdahjlaa.FixCom

theorem hold_FixHeld (a : Int) : fix_Hold.f a = some (H a) := by unfold fix_Hold.f; rw [mxmn]
theorem add_FixHeld (a b : Int) : fix_Add.f a b = some (H (H a + H b)) := by
  simp only [fix_Add.f, hold_FixHeld, Option.bind_some, add_word]
theorem sub_FixHeld (a b : Int) : fix_Sub.f a b = some (H (H a - H b)) := by
  simp only [fix_Sub.f, hold_FixHeld, Option.bind_some, sub_word]
theorem mul_FixHeld (a b : Int) : fix_Mul.f a b = some (H (Int.tdiv (H a * H b) 65536)) := by
  simp only [fix_Mul.f, hold_FixHeld, Option.bind_some, mul_word]
theorem awake_FixHeld : switchboardlaw01_awake.f = some true := by
  simp only [switchboardlaw01_awake.f, add_FixHeld, sub_FixHeld, mul_FixHeld, Option.bind_some]; decide

theorem FixHeld : switchboardlaw01_FixHeld.Pure := by
  intro a b _ _
  refine ⟨5, ?_⟩
  have w0 : wrap64 (0 + 1) = 1 := by unfold wrap64; omega
  have w1 : wrap64 (1 + 1) = 2 := by unfold wrap64; omega
  have w2 : wrap64 (2 + 1) = 3 := by unfold wrap64; omega
  have w3 : wrap64 (3 + 1) = 4 := by unfold wrap64; omega
  have rd0 (x y z t : Int) : rd [x, y, z, t] 0 = x := rfl
  have rd1 (x y z t : Int) : rd [x, y, z, t] 1 = y := rfl
  have rd2 (x y z t : Int) : rd [x, y, z, t] 2 = z := rfl
  have rd3 (x y z t : Int) : rd [x, y, z, t] 3 = t := rfl
  have l4 (x y z t : Int) : (([x, y, z, t] : List Int).length : Int) = 4 := rfl
  have g (n : Int) : ¬ (H n > 2147483647) := by have := H_hi n; omega
  have l (n : Int) : ¬ (H n < -2147483647) := by have := H_lo n; omega
  simp only [switchboardlaw01_FixHeld.f, hold_FixHeld, add_FixHeld, sub_FixHeld, mul_FixHeld, Option.bind_some, l4]
  unfold switchboardlaw01_FixHeld.l0
  simp only [l4, rd0, hold_FixHeld, Option.bind_some, H_H, if_true, if_neg (g _), if_neg (l _), show (0 : Int) < 4 from by omega, show (0 : Int) ≤ 0 from by omega, w0]
  unfold switchboardlaw01_FixHeld.l0
  simp only [l4, rd1, hold_FixHeld, Option.bind_some, H_H, if_true, if_neg (g _), if_neg (l _), show (1 : Int) < 4 from by omega, show (0 : Int) ≤ 1 from by omega, w1]
  unfold switchboardlaw01_FixHeld.l0
  simp only [l4, rd2, hold_FixHeld, Option.bind_some, H_H, if_true, if_neg (g _), if_neg (l _), show (2 : Int) < 4 from by omega, show (0 : Int) ≤ 2 from by omega, w2]
  unfold switchboardlaw01_FixHeld.l0
  simp only [l4, rd3, hold_FixHeld, Option.bind_some, H_H, if_true, if_neg (g _), if_neg (l _), show (3 : Int) < 4 from by omega, show (0 : Int) ≤ 3 from by omega, w3]
  unfold switchboardlaw01_FixHeld.l0
  simp only [add_FixHeld, mul_FixHeld, hold_FixHeld, awake_FixHeld, Option.bind_some, H_H, if_true, if_neg (show ¬ ((4 : Int) < 4) from by omega)]

end Go.Proofs.Ytgfpkhihdahjlaa.Pure
