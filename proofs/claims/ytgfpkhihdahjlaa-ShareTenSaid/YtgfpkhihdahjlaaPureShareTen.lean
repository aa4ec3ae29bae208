/- For every number from 9 to 2^26 + 8: what is ten times as great has, with one more each, about ten parts of eleven: never more, nor less than nine of eleven. Conditions: n is of the kind uint32. -/
import Derived.Test.YtgfpkhihdahjlaaPShareTenx1
import Derived.Test.YtgfpkhihdahjlaaShareCom
namespace Go.Proofs.Ytgfpkhihdahjlaa.Pure
open Go.RowKit Go.Proofs.Ytgfpkhihdahjlaa.PShareTen Go.Proofs.YtgfpkhihdahjlaaW.PrintWords Go.Proofs.YtgfpkhihdahjlaaW.PrintLast Go.Proofs.Ytgfpkhihdahjlaa.FixCom Go.Proofs.Ytgfpkhihdahjlaa.ShareCom

theorem shares_ShareTen (a b : Int) : share_Shares.f a b = some (S a b, 65536 - S a b) := by
  unfold share_Shares.f fix_Hold.f
  rw [mxmn, mxmn]; exact shares_word a b
theorem wf_ShareTen {k : IntKind} {a m n : Int} (h : (Lit.int k a).wf = true) (hm : k.min = m) (hn : k.max = n) : m ≤ a ∧ a ≤ n := by
  have h' : (decide (k.min ≤ a) && decide (a ≤ k.max)) = true := h
  rw [Bool.and_eq_true, decide_eq_true_eq, decide_eq_true_eq, hm, hn] at h'
  exact h'
theorem awake_ShareTen : switchboardlaw05_awake.f = some true := by
  unfold switchboardlaw05_awake.f; rw [shares_ShareTen, show S 5 5 = 32768 from by decide]; rfl

theorem ShareTen : switchboardlaw05_ShareTen.Pure := by
  intro n hn
  have hn := wf_ShareTen hn (m := 0) (n := 4294967295) rfl rfl
  have e : Int.tmod n 67108864 = n % 67108864 := Int.tmod_eq_emod_of_nonneg (by omega)
  unfold switchboardlaw05_ShareTen.f
  rw [e, w64 (a := n % 67108864) (by omega) (by omega), w64 (a := 9 + n % 67108864) (by omega) (by omega)]
  obtain ⟨k, hk⟩ : ∃ k, 9 + n % 67108864 = k := ⟨_, rfl⟩
  rw [hk, w64 (a := 10 * k) (by omega) (by omega), shares_ShareTen, awake_ShareTen]; simp only [Option.bind_some]
  have X1 : X k = k + 1 := by
    have := mx_le k 0; unfold X; rw [H_id (a := k) (by omega) (by omega)]; omega
  have X2 : X (10 * k) = 10 * k + 1 := by
    have := mx_le (10 * k) 0; unfold X; rw [H_id (a := 10 * k) (by omega) (by omega)]; omega
  have lo : 53621 ≤ S (10 * k) k := S_ge (by rw [X1, X2]; omega)
  have sp := (S_spec (10 * k) k).1
  have hi : 11 * S (10 * k) k ≤ 655360 := by
    have e2 : (11 * S (10 * k) k) * (X (10 * k) + X k) ≤ 655360 * (X (10 * k) + X k) := by
      rw [Int.mul_assoc]; rw [X1, X2] at sp ⊢; omega
    exact Int.le_of_mul_le_mul_right e2 (by rw [X1, X2]; omega)
  have s1 := S_lo (10 * k) k
  rw [w64 (a := 11 * S (10 * k) k) (by omega) (by omega), if_pos hi, if_pos (by omega), show S (10 * k) k + (65536 - S (10 * k) k) = 65536 from by omega, if_pos (by unfold wrap64; omega)]

end Go.Proofs.Ytgfpkhihdahjlaa.Pure
