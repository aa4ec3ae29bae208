/- For every two numbers a and b: shares are not below 0, and One together; the greater number's is not less; of what is below 0 the share is that of 0. Conditions: a and b are of the kind int. -/
import Derived.Test.YtgfpkhihdahjlaaPShareFairx1
import Derived.Test.YtgfpkhihdahjlaaShareCom
namespace Go.Proofs.Ytgfpkhihdahjlaa.Pure
open Go.RowKit Go.Proofs.Ytgfpkhihdahjlaa.PShareFair Go.Proofs.YtgfpkhihdahjlaaW.PrintWords Go.Proofs.YtgfpkhihdahjlaaW.PrintLast Go.Proofs.Ytgfpkhihdahjlaa.FixCom Go.Proofs.Ytgfpkhihdahjlaa.ShareCom

theorem shares_ShareFair (a b : Int) : share_Shares.f a b = some (S a b, 65536 - S a b) := by
  unfold share_Shares.f fix_Hold.f
  rw [mxmn, mxmn]; exact shares_word a b
theorem wf_ShareFair {k : IntKind} {a m n : Int} (h : (Lit.int k a).wf = true) (hm : k.min = m) (hn : k.max = n) : m ≤ a ∧ a ≤ n := by
  have h' : (decide (k.min ≤ a) && decide (a ≤ k.max)) = true := h
  rw [Bool.and_eq_true, decide_eq_true_eq, decide_eq_true_eq, hm, hn] at h'
  exact h'
theorem awake_ShareFair : switchboardlaw05_awake.f = some true := by
  unfold switchboardlaw05_awake.f; rw [shares_ShareFair, show S 5 5 = 32768 from by decide]; rfl

theorem ShareFair : switchboardlaw05_ShareFair.Pure := by
  intro a b _ _
  have hm := mx_le a b
  have hn := mn_le a b
  have hX := X_mono (show mn a b ≤ mx a b by omega)
  have l1 := X_lo (mn a b)
  have hs : 32768 ≤ S (mx a b) (mn a b) := S_ge (by omega)
  have hh := S_hi (mx a b) (mn a b)
  have p1 := S_lo a b
  have p2 := S_hi a b
  have hu : S (mx a 0) (mx b 0) = S a b := by unfold S; rw [X_mx, X_mx]
  unfold switchboardlaw05_ShareFair.f
  rw [shares_ShareFair, shares_ShareFair, shares_ShareFair, awake_ShareFair, hu]; simp only [Option.bind_some]
  rw [if_pos (by omega), if_pos (by omega), show S (mx a b) (mn a b) + (65536 - S (mx a b) (mn a b)) = 65536 from by omega, if_pos (by unfold wrap64; omega), if_pos (by omega), if_pos (by omega), if_pos trivial, if_pos trivial]

end Go.Proofs.Ytgfpkhihdahjlaa.Pure
