/- For every three numbers a, b and more: a greater number has no less of a share, the other one the same; both the other way round are at most 1 from these, the other way round. Conditions: a, b and more are of the kind int32. -/
import Derived.Test.YtgfpkhihdahjlaaPShareGrowsx1
import Derived.Test.YtgfpkhihdahjlaaShareCom
namespace Go.Proofs.Ytgfpkhihdahjlaa.Pure
open Go.RowKit Go.Proofs.Ytgfpkhihdahjlaa.PShareGrows Go.Proofs.YtgfpkhihdahjlaaW.PrintWords Go.Proofs.YtgfpkhihdahjlaaW.PrintLast Go.Proofs.Ytgfpkhihdahjlaa.FixCom Go.Proofs.Ytgfpkhihdahjlaa.ShareCom

theorem shares_ShareGrows (a b : Int) : share_Shares.f a b = some (S a b, 65536 - S a b) := by
  unfold share_Shares.f fix_Hold.f
  rw [mxmn, mxmn]; exact shares_word a b
theorem wf_ShareGrows {k : IntKind} {a m n : Int} (h : (Lit.int k a).wf = true) (hm : k.min = m) (hn : k.max = n) : m ≤ a ∧ a ≤ n := by
  have h' : (decide (k.min ≤ a) && decide (a ≤ k.max)) = true := h
  rw [Bool.and_eq_true, decide_eq_true_eq, decide_eq_true_eq, hm, hn] at h'
  exact h'
theorem awake_ShareGrows : switchboardlaw05_awake.f = some true := by
  unfold switchboardlaw05_awake.f; rw [shares_ShareGrows, show S 5 5 = 32768 from by decide]; rfl

theorem S_grows {a a' b : Int} (h : X a ≤ X a') : S a b ≤ S a' b := by
  have hs := (S_spec a b).1
  have h1 := S_hi a b
  have h2 : S a b * (X a' - X a) ≤ 65536 * (X a' - X a) := Int.mul_le_mul_of_nonneg_right h1 (by omega)
  refine S_ge ?_
  have e : S a b * (X a' + X b) = S a b * (X a + X b) + S a b * (X a' - X a) := by rw [← Int.mul_add]; congr 1; omega
  rw [e]; omega
theorem S_other (a b : Int) : S a b ≤ 65536 - S b a ∧ 65536 - S b a ≤ S a b + 1 := by
  have a1 := X_lo a; have b1 := X_lo b
  have p := S_spec a b
  have q := S_spec b a
  rw [Int.add_comm (X b) (X a)] at q
  have e1 : (S a b + S b a) * (X a + X b) ≤ 65536 * (X a + X b) := by rw [Int.add_mul]; omega
  have e2 : 65536 * (X a + X b) < (S a b + S b a + 2) * (X a + X b) := by
    have : (S a b + S b a + 2) * (X a + X b) = (S a b + 1) * (X a + X b) + (S b a + 1) * (X a + X b) := by rw [← Int.add_mul]; congr 1; omega
    rw [this]; omega
  have f1 := Int.le_of_mul_le_mul_right e1 (by omega)
  have f2 := Int.lt_of_mul_lt_mul_right e2 (by omega)
  omega
theorem ShareGrows : switchboardlaw05_ShareGrows.Pure := by
  intro a b c ha hb hc
  have ha := wf_ShareGrows ha (m := -2147483648) (n := 2147483647) rfl rfl
  have hb := wf_ShareGrows hb (m := -2147483648) (n := 2147483647) rfl rfl
  have hc := wf_ShareGrows hc (m := -2147483648) (n := 2147483647) rfl rfl
  have hm := mx_le c 0
  unfold switchboardlaw05_ShareGrows.f
  rw [w64 (a := a) (by omega) (by omega), w64 (a := b) (by omega) (by omega), w64 (a := c) (by omega) (by omega), w64 (a := a + mx c 0) (by omega) (by omega)]
  rw [shares_ShareGrows, shares_ShareGrows, shares_ShareGrows, awake_ShareGrows]; simp only [Option.bind_some]
  have g := S_grows (b := b) (X_mono (show a ≤ a + mx c 0 by omega))
  have o := S_other a b
  have s1 := S_lo a b
  have s2 := S_hi a b
  rw [w64 (a := S a b + 1) (by omega) (by omega), show S b a + (65536 - S b a) = 65536 from by omega]
  rw [if_pos (by omega), if_pos (by omega), if_pos (by omega), if_pos (by unfold wrap64; omega)]

end Go.Proofs.Ytgfpkhihdahjlaa.Pure
