/- For every two numbers a and b: sums and products do not hang on their order; One times a number is it, held; a product by a number taken off 0 is it taken off 0. Conditions: a and b are of the kind int. -/
import Derived.Test.YtgfpkhihdahjlaaQFixLawsx1
import Derived.Test.YtgfpkhihdahjlaaFixCom
namespace Go.Proofs.Ytgfpkhihdahjlaa.Pure
open Go.RowKit Go.Proofs.Ytgfpkhihdahjlaa.QFixLaws Go.Proofs.YtgfpkhihdahjlaaW.PrintWords Go.Proofs.YtgfpkhihdahjlaaW.PrintLast Go.Proofs.Ytgfpkhihdahjlaa.FixCom

theorem hold_FixLaws (a : Int) : fix_Hold.f a = some (H a) := by unfold fix_Hold.f; rw [mxmn]
theorem add_FixLaws (a b : Int) : fix_Add.f a b = some (H (H a + H b)) := by
  simp only [fix_Add.f, hold_FixLaws, Option.bind_some, add_word]
theorem sub_FixLaws (a b : Int) : fix_Sub.f a b = some (H (H a - H b)) := by
  simp only [fix_Sub.f, hold_FixLaws, Option.bind_some, sub_word]
theorem mul_FixLaws (a b : Int) : fix_Mul.f a b = some (H (Int.tdiv (H a * H b) 65536)) := by
  simp only [fix_Mul.f, hold_FixLaws, Option.bind_some, mul_word]
theorem awake_FixLaws : switchboardlaw01_awake.f = some true := by
  simp only [switchboardlaw01_awake.f, add_FixLaws, sub_FixLaws, mul_FixLaws, Option.bind_some]; decide

theorem mul_one (a : Int) : H (Int.tdiv (H a * H 65536) 65536) = H a := by
  rw [H_id (a := 65536) (by omega) (by omega), Int.mul_tdiv_cancel _ (by omega), H_H]
theorem mul_neg (a b : Int) : H (Int.tdiv (H (-H a) * H b) 65536) = -H (Int.tdiv (H a * H b) 65536) := by
  rw [H_neg, H_H, Int.neg_mul, Int.neg_tdiv, H_neg]
theorem FixLaws : switchboardlaw01_FixLaws.Pure := by
  intro a b _ _
  have hc : H b + H a = H a + H b := by omega
  have hm : H b * H a = H a * H b := Int.mul_comm _ _
  have hs : H a + H (-H b) = H a - H b := by rw [H_neg, H_H]; omega
  simp only [switchboardlaw01_FixLaws.f, hold_FixLaws, add_FixLaws, sub_FixLaws, mul_FixLaws, awake_FixLaws, Option.bind_some, neg_word, hc, hm, mul_one, mul_neg, hs, H_H, if_true]

end Go.Proofs.Ytgfpkhihdahjlaa.Pure
