/- For every two numbers below 2^29: what is added and taken off is as it was; half of a number twice is not more than it, and at most 1 less. Conditions: a and b are of the kind int32. -/
import Derived.Test.YtgfpkhihdahjlaaQFixBackx1
import Derived.Test.YtgfpkhihdahjlaaFixCom
namespace Go.Proofs.Ytgfpkhihdahjlaa.Pure
open Go.RowKit Go.Proofs.Ytgfpkhihdahjlaa.QFixBack Go.Proofs.YtgfpkhihdahjlaaW.PrintWords Go.Proofs.YtgfpkhihdahjlaaW.PrintLast Go.Proofs.Ytgfpkhihdahjlaa.FixCom

theorem hold_FixBack (a : Int) : fix_Hold.f a = some (H a) := by unfold fix_Hold.f; rw [mxmn]
theorem add_FixBack (a b : Int) : fix_Add.f a b = some (H (H a + H b)) := by
  simp only [fix_Add.f, hold_FixBack, Option.bind_some, add_word]
theorem sub_FixBack (a b : Int) : fix_Sub.f a b = some (H (H a - H b)) := by
  simp only [fix_Sub.f, hold_FixBack, Option.bind_some, sub_word]
theorem mul_FixBack (a b : Int) : fix_Mul.f a b = some (H (Int.tdiv (H a * H b) 65536)) := by
  simp only [fix_Mul.f, hold_FixBack, Option.bind_some, mul_word]
theorem awake_FixBack : switchboardlaw01_awake.f = some true := by
  simp only [switchboardlaw01_awake.f, add_FixBack, sub_FixBack, mul_FixBack, Option.bind_some]; decide

theorem wf_FixBack {k : IntKind} {a m n : Int} (h : (Lit.int k a).wf = true) (hm : k.min = m) (hn : k.max = n) : m ≤ a ∧ a ≤ n := by
  have h' : (decide (k.min ≤ a) && decide (a ≤ k.max)) = true := h
  rw [Bool.and_eq_true, decide_eq_true_eq, decide_eq_true_eq, hm, hn] at h'
  exact h'
theorem quarter (a : Int) (ha : (Lit.int .i32 a).wf = true) : ∃ x, wrap64 (Int.tdiv (wrap64 a) 4) = x ∧ -536870912 ≤ x ∧ x ≤ 536870911 := by
  have ha := wf_FixBack ha (m := -2147483648) (n := 2147483647) rfl rfl
  rw [w64 (a := a) (by omega) (by omega)]
  by_cases h : 0 ≤ a
  · rw [td_pos h, w64 (by omega) (by omega)]; exact ⟨_, rfl, by omega, by omega⟩
  · rw [td_neg (by omega), w64 (by omega) (by omega)]; exact ⟨_, rfl, by omega, by omega⟩
theorem FixBack : switchboardlaw01_FixBack.Pure := by
  intro a b ha hb
  obtain ⟨x, hx, x1, x2⟩ := quarter a ha
  obtain ⟨y, hy, y1, y2⟩ := quarter b hb
  simp only [switchboardlaw01_FixBack.f, hx, hy, add_FixBack, sub_FixBack, mul_FixBack, awake_FixBack, Option.bind_some]
  have hm := mx_le x 0
  generalize mx x 0 = m at hm
  rw [H_id (a := x) (by omega) (by omega), H_id (a := y) (by omega) (by omega), H_id (a := m) (by omega) (by omega), H_id (a := 32768) (by omega) (by omega), H_id (a := 0) (by omega) (by omega)]
  rw [H_id (a := x + y) (by omega) (by omega), H_id (a := x - y) (by omega) (by omega)]
  rw [H_id (a := x + y) (by omega) (by omega), H_id (a := x - y) (by omega) (by omega)]
  rw [show x + y - y = x from by omega, show x - y + y = x from by omega, H_id (a := x) (by omega) (by omega)]
  rw [td_pos (n := m * 32768) (by omega), H_id (a := m * 32768 / 65536) (by omega) (by omega), w64 (a := 2 * (m * 32768 / 65536)) (by omega) (by omega), w64 (a := m - 1) (by omega) (by omega)]
  rw [if_pos rfl, if_pos rfl, if_pos (by omega), if_pos (by omega), Int.mul_zero, Int.zero_tdiv, H_id (a := 0) (by omega) (by omega), if_pos rfl]

end Go.Proofs.Ytgfpkhihdahjlaa.Pure
