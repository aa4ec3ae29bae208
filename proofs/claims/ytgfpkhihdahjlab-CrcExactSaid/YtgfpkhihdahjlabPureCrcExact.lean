/- For every text of at most 200 bytes: the sum is what the document says (the reference's answer, bit by bit). Conditions: none but the text's reach. -/
import Derived.Test.YtgfpkhihdahjlabQCrcExactx1
import Derived.Test.YtgfpkhihdahjlabCrcThy
namespace Go.Proofs.Ytgfpkhihdahjlab.Pure
open Go.RowKit Go.Proofs.Ytgfpkhihdahjlab.QCrcExact Go.Proofs.YtgfpkhihdahjlabW.PrintWords Go.Proofs.YtgfpkhihdahjlabW.PrintLast Go.Proofs.Ytgfpkhihdahjlab.Given Go.Proofs.Ytgfpkhihdahjlab.CrcThy

theorem sum_CrcExact (s : ByteArray) (h : s.size ≤ 140737488351232) : crc_Sum.f s = some (crcI s.data.toList) := by unfold crc_Sum.f; rw [if_pos h]
theorem wf_CrcExact {k : IntKind} {a m n : Int} (h : (Lit.int k a).wf = true) (hm : k.min = m) (hn : k.max = n) : m ≤ a ∧ a ≤ n := by
  have h' : (decide (k.min ≤ a) && decide (a ≤ k.max)) = true := h
  rw [Bool.and_eq_true, decide_eq_true_eq, decide_eq_true_eq, hm, hn] at h'
  exact h'
theorem awake_CrcExact : switchboardlaw06_awake.f = some true := by
  have h := crc_awake
  unfold switchboardlaw06_awake.f
  rw [sum_CrcExact _ (by decide), sum_CrcExact _ (by decide), sum_CrcExact _ (by decide)]
  simp only [Option.bind_some]
  rw [if_pos h.1]
  simpa using h.2

theorem w64 {a : Int} (h1 : 0 ≤ a) (h2 : a ≤ 9223372036854775807) : wrap64 a = a := by unfold wrap64; omega
theorem xor_step (a b : Nat) : a ^^^ b = 2 * ((a / 2) ^^^ (b / 2)) + (if a % 2 = b % 2 then 0 else 1) := by
  have h1 : (a ^^^ b) / 2 = (a / 2) ^^^ (b / 2) := Nat.xor_div_two
  have h2 : (a ^^^ b) % 2 = 1 ↔ ¬ (a % 2 = 1 ↔ b % 2 = 1) := Nat.xor_mod_two_eq_one
  by_cases h : a % 2 = b % 2
  · rw [if_pos h]
    have : ¬ ((a ^^^ b) % 2 = 1) := fun k => (h2.1 k) (by rw [h])
    omega
  · rw [if_neg h]
    have : (a ^^^ b) % 2 = 1 := h2.2 (fun k => h (by omega))
    omega
/-- One number laid over another one, bit by bit: their exclusive or. -/
theorem over_l0 (n : Nat) : ∀ (k a b out bit : Nat), 2 * n + 2 ≤ k → a < 2 ^ n → b < 2 ^ n → out < bit → bit * 2 ^ n ≤ 4611686018427387904 → switchboardref06_over.l0 k a b out bit = some ((out + bit * (a ^^^ b) : Nat) : Int) := by
  induction n with
  | zero =>
    intro k a b out bit hk ha hb _ _
    obtain ⟨k, rfl⟩ : ∃ m, k = m + 2 := ⟨k - 2, by omega⟩
    obtain rfl : a = 0 := by simpa using ha
    obtain rfl : b = 0 := by simpa using hb
    simp only [switchboardref06_over.l0, switchboardref06_over.j1]
    rw [if_neg (by omega), if_neg (by simp)]
    simp
  | succ n ih =>
    intro k a b out bit hk ha hb ho hbit
    obtain ⟨k, rfl⟩ : ∃ m, k = m + 2 := ⟨k - 2, by omega⟩
    have hp : 0 < 2 ^ n := Nat.pow_pos (by omega)
    have hb2 : bit * 2 ≤ 4611686018427387904 := by
      refine Nat.le_trans ?_ hbit
      rw [Nat.pow_succ]; exact Nat.mul_le_mul_left _ (by omega)
    have hbn : 2 * bit * 2 ^ n ≤ 4611686018427387904 := by rw [Nat.pow_succ] at hbit; rwa [Nat.mul_comm 2 bit, Nat.mul_assoc, Nat.mul_comm 2]
    rw [Nat.pow_succ] at ha hb
    have d1 : Int.tdiv (a : Int) 2 = ((a / 2 : Nat) : Int) := by rw [Int.tdiv_eq_ediv_of_nonneg (by omega)]; omega
    have d2 : Int.tdiv (b : Int) 2 = ((b / 2 : Nat) : Int) := by rw [Int.tdiv_eq_ediv_of_nonneg (by omega)]; omega
    have m1 : Int.tmod (a : Int) 2 = ((a % 2 : Nat) : Int) := by rw [Int.tmod_eq_emod_of_nonneg (by omega)]; omega
    have m2 : Int.tmod (b : Int) 2 = ((b % 2 : Nat) : Int) := by rw [Int.tmod_eq_emod_of_nonneg (by omega)]; omega
    have core : switchboardref06_over.j1 (k + 1) a b out bit true = some ((out + bit * (a ^^^ b) : Nat) : Int) := by
      simp only [switchboardref06_over.j1, if_true, d1, d2, m1, m2]
      have e := xor_step a b
      have a2 : a / 2 ≤ a := Nat.div_le_self _ _
      have hA : a < 2 ^ (n + 1) := by rw [Nat.pow_succ]; omega
      have bound : 2 ^ n * 2 ≤ 4611686018427387904 := by
        have : 1 * 2 ^ (n + 1) ≤ bit * 2 ^ (n + 1) := Nat.mul_le_mul_right _ (by omega)
        rw [Nat.pow_succ] at this; rw [Nat.pow_succ] at hbit; omega
      rw [w64 (a := ((a / 2 : Nat) : Int)) (by omega) (by omega), w64 (a := ((b / 2 : Nat) : Int)) (by omega) (by omega), w64 (a := 2 * (bit : Int)) (by omega) (by omega)]
      by_cases h : a % 2 = b % 2
      · rw [if_pos (by rw [h])]
        rw [if_pos h] at e
        have := ih k (a / 2) (b / 2) out (2 * bit) (by omega) (by omega) (by omega) (by omega) hbn
        rw [show ((2 * bit : Nat) : Int) = 2 * (bit : Int) from by omega] at this
        rw [this, e]; congr 2
        rw [Nat.add_zero, Nat.mul_comm 2 bit, Nat.mul_assoc]
      · rw [if_neg (by omega)]
        rw [if_neg h] at e
        have := ih k (a / 2) (b / 2) (out + bit) (2 * bit) (by omega) (by omega) (by omega) (by omega) hbn
        rw [w64 (a := (out : Int) + bit) (by omega) (by omega)]
        rw [show ((2 * bit : Nat) : Int) = 2 * (bit : Int) from by omega, show ((out + bit : Nat) : Int) = (out : Int) + bit from by omega] at this
        rw [this, e]; congr 2
        rw [Nat.mul_add, Nat.mul_comm 2 bit, Nat.mul_assoc]; omega
    by_cases h1 : (a : Int) > 0
    · simp only [switchboardref06_over.l0]
      rw [if_pos h1]; exact core
    · by_cases h2 : (b : Int) > 0
      · simp only [switchboardref06_over.l0]
        rw [if_neg h1, decide_eq_true h2]; exact core
      · obtain rfl : a = 0 := by omega
        obtain rfl : b = 0 := by omega
        simp only [switchboardref06_over.l0, switchboardref06_over.j1]
        rw [if_neg (by omega), if_neg (by simp)]
        simp
theorem over_B (k : Nat) (hk : 66 ≤ k) (a b : BitVec 32) : switchboardref06_over.f k (a.toNat : Int) (b.toNat : Int) = some ((a ^^^ b).toNat : Int) := by
  unfold switchboardref06_over.f
  have := over_l0 32 k a.toNat b.toNat 0 1 (by omega) a.isLt b.isLt (by omega) (by omega)
  simpa [BitVec.toNat_xor] using this
theorem rounds (d : Nat) : ∀ (k : Nat) (s : ByteArray) (c : BitVec 32) (i j : Int), 70 ≤ k → 0 ≤ j → 8 - j = d → switchboardref06_Sum.l1 (k + d + 1) s (c.toNat : Int) i j = switchboardref06_Sum.l0 k s ((T d c).toNat : Int) (wrap64 (i + 1)) := by
  have tT : ∀ (n : Nat) (c : BitVec 32), T n (stepB c) = T (n + 1) c := by
    intro n; induction n with
    | zero => intro c; rfl
    | succ n ih => intro c; show stepB (T n (stepB c)) = stepB (T (n + 1) c); rw [ih]
  induction d with
  | zero =>
    intro k s c i j hk h0 hd
    simp only [switchboardref06_Sum.l1]; rw [if_neg (by omega)]; rfl
  | succ d ih =>
    intro k s c i j hk h0 hd
    rw [show k + (d + 1) + 1 = (k + d + 1) + 1 from by omega]
    simp only [switchboardref06_Sum.l1]
    have hc := c.isLt
    have h1 : Int.tdiv (c.toNat : Int) 2 = ((c >>> 1).toNat : Int) := by
      rw [Int.tdiv_eq_ediv_of_nonneg (by omega), BitVec.toNat_ushiftRight, Nat.shiftRight_eq_div_pow]; simp
    have h1' := (c >>> 1).isLt
    rw [if_pos (by omega), h1, w64 (a := ((c >>> 1).toNat : Int)) (by omega) (by omega), w64 (a := j + 1) (by omega) (by omega)]
    have m1 : Int.tmod (c.toNat : Int) 2 = ((c.toNat % 2 : Nat) : Int) := by rw [Int.tmod_eq_emod_of_nonneg (by omega)]; omega
    have hbit : c.getLsbD 0 = decide (c.toNat % 2 = 1) := by rw [BitVec.getLsbD, Nat.testBit_zero]
    rw [m1]
    by_cases h : c.toNat % 2 = 1
    · rw [if_pos (by omega), show (3988292384 : Int) = ((3988292384#32 : BitVec 32).toNat : Int) from rfl, over_B _ (by omega)]
      simp only [Option.bind_some]
      have := ih k s (stepB c) i (j + 1) hk (by omega) (by omega)
      rw [tT] at this
      have hs : c >>> 1 ^^^ 3988292384#32 = stepB c := by unfold stepB; rw [hbit, decide_eq_true h]; rfl
      rw [hs]; exact this
    · rw [if_neg (by omega)]
      have := ih k s (stepB c) i (j + 1) hk (by omega) (by omega)
      rw [tT] at this
      have hs : c >>> 1 = stepB c := by unfold stepB; rw [hbit, decide_eq_false h]; simp
      rw [hs]; exact this
theorem sum_l0 (s : ByteArray) (hs : s.size ≤ 140737488351232) (r : Nat) : ∀ (k : Nat) (c : BitVec 32) (i : Nat), 10 * r + 71 ≤ k → i + r = s.size → switchboardref06_Sum.l0 k s (c.toNat : Int) (i : Int) = some ((sumB (s.data.toList.drop i) c ^^^ 4294967295#32).toNat : Int) := by
  induction r with
  | zero =>
    intro k c i hk hi
    obtain ⟨k, rfl⟩ : ∃ m, k = m + 1 := ⟨k - 1, by omega⟩
    simp only [switchboardref06_Sum.l0]
    rw [if_neg (by omega), show (4294967295 : Int) = ((4294967295#32 : BitVec 32).toNat : Int) from rfl, over_B _ (by omega)]
    rw [List.drop_of_length_le (by rw [data_length]; omega)]
    rfl
  | succ r ih =>
    intro k c i hk hi
    have hlt : i < s.data.toList.length := by rw [data_length]; omega
    obtain ⟨k, rfl⟩ : ∃ m, k = m + 8 + 1 + 1 := ⟨k - 10, by omega⟩
    have hb : bt s (i : Int) = ((W s.data.toList[i]).toNat : Int) := by
      rw [W_nat]
      have hlt2 : (i : Int).toNat < s.size := by omega
      unfold bt; rw [dif_pos hlt2]; rfl
    have hw := (W s.data.toList[i]).isLt
    simp only [switchboardref06_Sum.l0]
    rw [if_pos (by omega), if_pos (by omega), hb, w64 (a := ((W s.data.toList[i]).toNat : Int)) (by omega) (by omega), over_B _ (by omega)]
    simp only [Option.bind_some]
    rw [rounds 8 k s _ _ 0 (by omega) (by omega) (by omega), w64 (a := (i : Int) + 1) (by omega) (by omega)]
    have := ih k (T 8 (c ^^^ W s.data.toList[i])) (i + 1) (by omega) (by omega)
    rw [show ((i + 1 : Nat) : Int) = (i : Int) + 1 from by omega] at this
    rw [this, List.drop_eq_getElem_cons hlt, sumB_cons]
theorem CrcExact : switchboardlaw06_CrcExact.Pure := by
  intro s hs
  refine ⟨2071, ?_⟩
  unfold switchboardlaw06_CrcExact.f
  rw [awake_CrcExact, sum_CrcExact s hs]
  simp only [Option.bind_some]
  by_cases h : (s.size : Int) > 200
  · rw [if_pos h]
  · rw [if_neg h]
    have := sum_l0 s hs s.size 2071 4294967295#32 0 (by omega) (by omega)
    rw [show ((4294967295#32 : BitVec 32).toNat : Int) = 4294967295 from rfl, List.drop_zero] at this
    unfold switchboardref06_Sum.f
    rw [show ((0 : Nat) : Int) = 0 from rfl] at this
    rw [this]; simp only [Option.bind_some]
    rw [if_pos (show crcI s.data.toList = ((sumB s.data.toList 4294967295#32 ^^^ 4294967295#32).toNat : Int) from crcI_B _)]

end Go.Proofs.Ytgfpkhihdahjlab.Pure
