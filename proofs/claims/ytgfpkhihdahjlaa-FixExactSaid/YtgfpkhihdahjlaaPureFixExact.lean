/- For every two numbers a and b: what Hold, Add, Sub and Mul make is what the document says (the reference's answer). Conditions: a and b are of the kind int. -/
import Derived.Test.YtgfpkhihdahjlaaPFixExactx1
import Derived.Test.YtgfpkhihdahjlaaFixCom
namespace Go.Proofs.Ytgfpkhihdahjlaa.Pure
open Go.RowKit Go.Proofs.Ytgfpkhihdahjlaa.PFixExact Go.Proofs.YtgfpkhihdahjlaaW.PrintWords Go.Proofs.YtgfpkhihdahjlaaW.PrintLast Go.Proofs.Ytgfpkhihdahjlaa.FixCom

theorem hold_FixExact (a : Int) : fix_Hold.f a = some (H a) := by unfold fix_Hold.f; rw [mxmn]
theorem add_FixExact (a b : Int) : fix_Add.f a b = some (H (H a + H b)) := by
  simp only [fix_Add.f, hold_FixExact, Option.bind_some, add_word]
theorem sub_FixExact (a b : Int) : fix_Sub.f a b = some (H (H a - H b)) := by
  simp only [fix_Sub.f, hold_FixExact, Option.bind_some, sub_word]
theorem mul_FixExact (a b : Int) : fix_Mul.f a b = some (H (Int.tdiv (H a * H b) 65536)) := by
  simp only [fix_Mul.f, hold_FixExact, Option.bind_some, mul_word]
theorem awake_FixExact : switchboardlaw01_awake.f = some true := by
  simp only [switchboardlaw01_awake.f, add_FixExact, sub_FixExact, mul_FixExact, Option.bind_some]; decide

theorem rhold (a : Int) : switchboardref01_Hold.f a = some (H a) := by
  unfold switchboardref01_Hold.f H; split <;> first | rfl | (split <;> rfl)
theorem td_nn {x y : Int} (_hx : 0 ≤ x) (_hy : 0 ≤ y) : 0 ≤ x * y := Int.mul_nonneg _hx _hy
theorem rmul (a b : Int) : switchboardref01_Mul.f 1 a b = some (H (Int.tdiv (H a * H b) 65536)) := by
  have hm := mul_word a b
  have p := prod_abs (H_lo a) (H_hi a) (H_lo b) (H_hi b)
  have q := td_abs p.1 p.2
  simp only [switchboardref01_Mul.f, rhold, Option.bind_some, switchboardref01_Mul.j0, Bool.not_false, if_true, Bool.false_eq_true, if_false, neg_word]
  by_cases ha : H a < 0
  · rw [if_pos ha]
    by_cases hb : H b < 0
    · rw [if_pos hb, Int.neg_mul_neg, hm]
    · rw [if_neg hb]
      rw [show -H a * H b = -(H a * H b) from Int.neg_mul _ _, w64 (a := -(H a * H b)) (by omega) (by omega), Int.neg_tdiv, w64 (a := -(Int.tdiv (H a * H b) 65536)) (by omega) (by omega), Int.neg_neg, w64 (by omega) (by omega)]
  · rw [if_neg ha]
    by_cases hb : H b < 0
    · rw [if_pos hb]
      rw [show H a * -H b = -(H a * H b) from Int.mul_neg _ _, w64 (a := -(H a * H b)) (by omega) (by omega), Int.neg_tdiv, w64 (a := -(Int.tdiv (H a * H b) 65536)) (by omega) (by omega), Int.neg_neg, w64 (by omega) (by omega)]
    · rw [if_neg hb, hm]
theorem FixExact : switchboardlaw01_FixExact.Pure := by
  intro a b _ _
  refine ⟨1, ?_⟩
  simp only [switchboardlaw01_FixExact.f, rhold, rmul, hold_FixExact, add_FixExact, sub_FixExact, mul_FixExact, awake_FixExact, Option.bind_some, add_word, sub_word, if_true]

end Go.Proofs.Ytgfpkhihdahjlaa.Pure
