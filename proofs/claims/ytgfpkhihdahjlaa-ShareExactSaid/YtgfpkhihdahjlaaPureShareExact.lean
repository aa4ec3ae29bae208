/- For every two numbers a and b: the shares are what the document says (the reference's answer, bit by bit of the quotient), and One together. Conditions: a and b are of the kind int. -/
import Derived.Test.YtgfpkhihdahjlaaPShareExactx1
import Derived.Test.YtgfpkhihdahjlaaShareCom
namespace Go.Proofs.Ytgfpkhihdahjlaa.Pure
open Go.RowKit Go.Proofs.Ytgfpkhihdahjlaa.PShareExact Go.Proofs.YtgfpkhihdahjlaaW.PrintWords Go.Proofs.YtgfpkhihdahjlaaW.PrintLast Go.Proofs.Ytgfpkhihdahjlaa.FixCom Go.Proofs.Ytgfpkhihdahjlaa.ShareCom

theorem shares_ShareExact (a b : Int) : share_Shares.f a b = some (S a b, 65536 - S a b) := by
  unfold share_Shares.f fix_Hold.f
  rw [mxmn, mxmn]; exact shares_word a b
theorem wf_ShareExact {k : IntKind} {a m n : Int} (h : (Lit.int k a).wf = true) (hm : k.min = m) (hn : k.max = n) : m ≤ a ∧ a ≤ n := by
  have h' : (decide (k.min ≤ a) && decide (a ≤ k.max)) = true := h
  rw [Bool.and_eq_true, decide_eq_true_eq, decide_eq_true_eq, hm, hn] at h'
  exact h'
theorem awake_ShareExact : switchboardlaw05_awake.f = some true := by
  unfold switchboardlaw05_awake.f; rw [shares_ShareExact, show S 5 5 = 32768 from by decide]; rfl

theorem part_X (a : Int) (ha : (Lit.int .i64 a).wf = true) : switchboardref05_part.f a = some (X a) := by
  have ha := wf_ShareExact ha (m := -9223372036854775808) (n := 9223372036854775807) rfl rfl
  have h := mx_le (H a) 0
  unfold switchboardref05_part.f X
  by_cases h1 : a < 0
  · have : H a ≤ 0 := by have := H_mono (a := a) (b := 0) (by omega); rwa [show H 0 = 0 from rfl] at this
    rw [if_pos h1, show mx (H a) 0 = 0 from by omega]; rfl
  · rw [if_neg h1]
    by_cases h2 : a > 2147483647
    · have e : H a = 2147483647 := by unfold H; rw [if_pos h2]
      rw [e] at h; rw [if_pos h2, e, show mx 2147483647 0 = 2147483647 from by omega]; rfl
    · have e : H a = a := H_id (by omega) (by omega)
      rw [e] at h; rw [if_neg h2, e, show mx a 0 = a from by omega, w64 (by omega) (by omega)]
/-- The loop: q parts of the whole d and what is left; d rounds from 16 are left. -/
theorem loop (x y : Int) (hx : 1 ≤ x) (hx2 : x ≤ 2147483648) (hy : 1 ≤ y) (hy2 : y ≤ 2147483648) (d : Nat) : ∀ (k : Nat) (i q left : Int), 0 ≤ i → 16 - i = d → d < k → 0 ≤ q → q < 2 ^ i.toNat → 0 ≤ left → left < x + y → x * 2 ^ i.toNat = q * (x + y) + left → switchboardref05_Share.l0 k x y q left i = some (x * 65536 / (x + y)) := by
  induction d with
  | zero =>
    intro k i q left h0 hd hk hq hq2 hl hl2 e
    obtain ⟨k, rfl⟩ : ∃ m, k = m + 1 := ⟨k - 1, by omega⟩
    obtain rfl : i = 16 := by omega
    simp only [switchboardref05_Share.l0]; rw [if_neg (by omega)]
    congr 1
    rw [show (2 : Int) ^ (16 : Int).toNat = 65536 from rfl] at e
    rw [e, Int.add_comm, Int.add_mul_ediv_right _ _ (by omega), Int.ediv_eq_zero_of_lt hl hl2]; omega
  | succ d ih =>
    intro k i q left h0 hd hk hq hq2 hl hl2 e
    obtain ⟨k, rfl⟩ : ∃ m, k = m + 1 := ⟨k - 1, by omega⟩
    have hp : (2 : Int) ^ (i + 1).toNat = 2 * 2 ^ i.toNat := by rw [show (i + 1).toNat = i.toNat + 1 from by omega, Int.pow_succ, Int.mul_comm]
    have hb : (2 : Int) ^ i.toNat ≤ 65536 := by
      have h := Nat.pow_le_pow_right (n := 2) (by omega) (show i.toNat ≤ 16 by omega)
      have h2 : ((2 ^ i.toNat : Nat) : Int) ≤ ((2 ^ 16 : Nat) : Int) := Int.ofNat_le.2 h
      simpa using h2
    have hxe : x * 2 ^ (i + 1).toNat = 2 * (x * 2 ^ i.toNat) := by rw [hp, ← Int.mul_assoc, Int.mul_comm x 2, Int.mul_assoc]
    simp only [switchboardref05_Share.l0]; rw [if_pos (by omega), w64 (a := 2 * left) (by omega) (by omega), w64 (a := x + y) (by omega) (by omega), w64 (a := i + 1) (by omega) (by omega), w64 (a := 2 * q) (by omega) (by omega)]
    by_cases hc : 2 * left ≥ x + y
    · rw [if_pos hc, w64 (a := 2 * q + 1) (by omega) (by omega), w64 (a := 2 * left - (x + y)) (by omega) (by omega)]
      refine ih k (i + 1) (2 * q + 1) (2 * left - (x + y)) (by omega) (by omega) (by omega) (by omega) (by rw [hp]; omega) (by omega) (by omega) ?_
      rw [hxe, e, Int.add_mul, Int.mul_assoc]; omega
    · rw [if_neg hc]
      refine ih k (i + 1) (2 * q) (2 * left) (by omega) (by omega) (by omega) (by omega) (by rw [hp]; omega) (by omega) (by omega) ?_
      rw [hxe, e, Int.mul_assoc]; omega
theorem ref_S (a b : Int) (ha : (Lit.int .i64 a).wf = true) (hb : (Lit.int .i64 b).wf = true) : switchboardref05_Share.f 17 a b = some (S a b) := by
  have a1 := X_lo a; have a2 := X_hi a; have b1 := X_lo b; have b2 := X_hi b
  unfold switchboardref05_Share.f
  rw [part_X a ha, part_X b hb]; simp only [Option.bind_some]
  exact loop (X a) (X b) a1 a2 b1 b2 16 17 0 0 (X a) (by omega) (by omega) (by omega) (by omega) (by decide) (by omega) (by omega) (by rw [show (2 : Int) ^ (0 : Int).toNat = 1 from rfl]; omega)
theorem ShareExact : switchboardlaw05_ShareExact.Pure := by
  intro a b ha hb
  refine ⟨17, ?_⟩
  unfold switchboardlaw05_ShareExact.f
  rw [shares_ShareExact, ref_S a b ha hb, awake_ShareExact]; simp only [Option.bind_some]
  rw [if_pos trivial, show S a b + (65536 - S a b) = 65536 from by omega, if_pos (by unfold wrap64; omega)]

end Go.Proofs.Ytgfpkhihdahjlaa.Pure
