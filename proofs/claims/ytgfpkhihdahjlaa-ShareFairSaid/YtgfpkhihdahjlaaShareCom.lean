/- Plain laws of two shares of One: the quotient of a part by the whole. No program in sight. -/
import Derived.Test.YtgfpkhihdahjlaaFixCom
namespace Go.Proofs.Ytgfpkhihdahjlaa.ShareCom
open Go.RowKit Go.Proofs.YtgfpkhihdahjlaaW.PrintWords Go.Proofs.Ytgfpkhihdahjlaa.FixCom

/-- A part: a number, held, 0 if below 0, and 1 more. -/
def X (a : Int) : Int := mx (H a) 0 + 1
/-- The first one's share. -/
def S (a b : Int) : Int := X a * 65536 / (X a + X b)
theorem X_lo (a : Int) : 1 ≤ X a := by have := mx_le (H a) 0; unfold X; omega
theorem X_hi (a : Int) : X a ≤ 2147483648 := by have := mx_le (H a) 0; have := H_hi a; unfold X; omega
theorem X_mono {a b : Int} (h : a ≤ b) : X a ≤ X b := by
  have := mx_le (H a) 0; have := mx_le (H b) 0; have := H_mono h; unfold X; omega
theorem X_mx (a : Int) : X (mx a 0) = X a := by
  have h := mx_le a 0; have h0 : H 0 = 0 := rfl
  have := mx_le (H a) 0; have := mx_le (H (mx a 0)) 0
  rcases h.2.2 with e | e
  · rw [e]
  · have hz := H_mono (a := a) (b := 0) (by omega); rw [h0] at hz; rw [e]; unfold X; rw [h0, show mx (0 : Int) 0 = 0 from rfl]; omega
theorem S_lo (a b : Int) : 0 ≤ S a b := by
  have := X_lo a; have := X_lo b
  exact Int.ediv_nonneg (by omega) (by omega)
theorem S_hi (a b : Int) : S a b ≤ 65536 := by
  have := X_lo a; have := X_lo b
  exact Int.ediv_le_of_le_mul (by omega) (by omega)
/-- The quotient, told by products. -/
theorem S_spec (a b : Int) : S a b * (X a + X b) ≤ X a * 65536 ∧ X a * 65536 < (S a b + 1) * (X a + X b) := by
  have := X_lo a; have := X_lo b
  exact ⟨Int.ediv_mul_le _ (by omega), Int.lt_ediv_add_one_mul_self _ (by omega)⟩
theorem S_ge {a b k : Int} (h : k * (X a + X b) ≤ X a * 65536) : k ≤ S a b := by
  have := X_lo a; have := X_lo b
  exact (Int.le_ediv_iff_mul_le (by omega)).2 h
/-- What the program computes. -/
theorem shares_word (a b : Int) : (if wrap64 (wrap64 (mx (H a) 0 + 1) + wrap64 (mx (H b) 0 + 1)) = 0 then (none : Option (Int × Int)) else some (wrap64 (Int.tdiv (wrap64 (wrap64 (mx (H a) 0 + 1) * 65536)) (wrap64 (wrap64 (mx (H a) 0 + 1) + wrap64 (mx (H b) 0 + 1)))), wrap64 (65536 - wrap64 (Int.tdiv (wrap64 (wrap64 (mx (H a) 0 + 1) * 65536)) (wrap64 (wrap64 (mx (H a) 0 + 1) + wrap64 (mx (H b) 0 + 1))))))) = some (S a b, 65536 - S a b) := by
  have a1 := X_lo a; have a2 := X_hi a; have b1 := X_lo b; have b2 := X_hi b
  have s1 := S_lo a b; have s2 := S_hi a b
  rw [show mx (H a) 0 + 1 = X a from rfl, show mx (H b) 0 + 1 = X b from rfl, w64 (a := X a) (by omega) (by omega), w64 (a := X b) (by omega) (by omega), w64 (a := X a + X b) (by omega) (by omega), w64 (a := X a * 65536) (by omega) (by omega), if_neg (by omega), td_pos (by omega)]
  rw [show X a * 65536 / (X a + X b) = S a b from rfl, w64 (a := S a b) (by omega) (by omega), w64 (a := 65536 - S a b) (by omega) (by omega)]
end Go.Proofs.Ytgfpkhihdahjlaa.ShareCom
