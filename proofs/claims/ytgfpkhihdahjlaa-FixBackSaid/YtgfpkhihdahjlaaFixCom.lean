/- Plain laws of held numbers (between -Top and Top) and of the quotient cut off towards 0. No program in sight. -/
import Derived.Test.YtgfpkhihdahjlaaWMore
namespace Go.Proofs.Ytgfpkhihdahjlaa.FixCom
open Go.RowKit Go.Proofs.YtgfpkhihdahjlaaW.PrintWords

/-- A number, held. -/
def H (n : Int) : Int := if n > 2147483647 then 2147483647 else if n < -2147483647 then -2147483647 else n

theorem mxmn (a : Int) : mx (-2147483647) (mn 2147483647 a) = H a := by
  unfold mx mn H; repeat' split
  all_goals omega
theorem mx_le (a b : Int) : a ≤ mx a b ∧ b ≤ mx a b ∧ (mx a b = a ∨ mx a b = b) := by unfold mx; split <;> omega
theorem mn_le (a b : Int) : mn a b ≤ a ∧ mn a b ≤ b ∧ (mn a b = a ∨ mn a b = b) := by unfold mn; split <;> omega
theorem H_lo (a : Int) : -2147483647 ≤ H a := by unfold H; repeat' split
                                                 all_goals omega
theorem H_hi (a : Int) : H a ≤ 2147483647 := by unfold H; repeat' split
                                                all_goals omega
theorem H_id {a : Int} (h1 : -2147483647 ≤ a) (h2 : a ≤ 2147483647) : H a = a := by
  unfold H; rw [if_neg (by omega), if_neg (by omega)]
theorem H_H (a : Int) : H (H a) = H a := H_id (H_lo a) (H_hi a)
theorem H_neg (a : Int) : H (-a) = -H a := by
  unfold H; repeat' split
  all_goals omega
theorem H_mono {a b : Int} (h : a ≤ b) : H a ≤ H b := by
  unfold H; repeat' split
  all_goals omega
theorem w64 {a : Int} (h1 : -9223372036854775808 ≤ a) (h2 : a ≤ 9223372036854775807) : wrap64 a = a := by
  unfold wrap64; omega
theorem prod_abs {x y : Int} (hx1 : -2147483647 ≤ x) (hx2 : x ≤ 2147483647) (hy1 : -2147483647 ≤ y) (hy2 : y ≤ 2147483647) : -4611686014132420609 ≤ x * y ∧ x * y ≤ 4611686014132420609 := by
  have h : (x * y).natAbs ≤ 2147483647 * 2147483647 := by
    rw [Int.natAbs_mul]; exact Nat.mul_le_mul (by omega) (by omega)
  omega
theorem td_pos {n k : Int} (h : 0 ≤ n) : Int.tdiv n k = n / k := Int.tdiv_eq_ediv_of_nonneg h
theorem td_neg {n k : Int} (h : n ≤ 0) : Int.tdiv n k = -((-n) / k) := by
  have e := td_pos (n := -n) (k := k) (by omega); rw [Int.neg_tdiv] at e; omega
theorem td_abs {n : Int} (h1 : -4611686014132420609 ≤ n) (h2 : n ≤ 4611686014132420609) : -4611686014132420609 ≤ Int.tdiv n 65536 ∧ Int.tdiv n 65536 ≤ 4611686014132420609 := by
  by_cases h : 0 ≤ n
  · rw [td_pos h]; omega
  · rw [td_neg (by omega)]; omega
theorem td_mono {a b : Int} (h : a ≤ b) : Int.tdiv a 65536 ≤ Int.tdiv b 65536 := by
  by_cases ha : 0 ≤ a
  · rw [td_pos ha, td_pos (by omega : 0 ≤ b)]; omega
  · rw [td_neg (by omega : a ≤ 0)]
    by_cases hb : 0 ≤ b
    · rw [td_pos hb]; omega
    · rw [td_neg (by omega : b ≤ 0)]; omega
/-- The product of two held numbers. -/
theorem mul_word (a b : Int) : wrap64 (Int.tdiv (wrap64 (H a * H b)) 65536) = Int.tdiv (H a * H b) 65536 := by
  have p := prod_abs (H_lo a) (H_hi a) (H_lo b) (H_hi b)
  rw [w64 (a := H a * H b) (by omega) (by omega)]
  have q := td_abs p.1 p.2
  rw [w64 (by omega) (by omega)]
theorem add_word (a b : Int) : wrap64 (H a + H b) = H a + H b := by
  have := H_lo a; have := H_hi a; have := H_lo b; have := H_hi b
  rw [w64 (by omega) (by omega)]
theorem sub_word (a b : Int) : wrap64 (H a - H b) = H a - H b := by
  have := H_lo a; have := H_hi a; have := H_lo b; have := H_hi b
  rw [w64 (by omega) (by omega)]
theorem neg_word (a : Int) : wrap64 (-H a) = -H a := by
  have := H_lo a; have := H_hi a
  rw [w64 (by omega) (by omega)]
end Go.Proofs.Ytgfpkhihdahjlaa.FixCom
