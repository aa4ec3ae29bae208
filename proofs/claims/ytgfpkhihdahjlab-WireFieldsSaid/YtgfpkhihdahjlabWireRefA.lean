/- What the references of layer 7 answer, in plain words. -/
import Derived.Test.YtgfpkhihdahjlabQWirex9
import Derived.Test.YtgfpkhihdahjlabQWirex10
import Derived.Test.YtgfpkhihdahjlabQWirex11
import Derived.Test.YtgfpkhihdahjlabQWirex12
import Derived.Test.YtgfpkhihdahjlabQWirex15
import Derived.Test.YtgfpkhihdahjlabWireFun
namespace Go.Proofs.Ytgfpkhihdahjlab.WireRef
open Go Go.RowKit Go.Proofs.Ytgfpkhihdahjlab.QWire Go.Proofs.YtgfpkhihdahjlabW.PrintWords Go.Proofs.YtgfpkhihdahjlabW.PrintLast Go.Proofs.Ytgfpkhihdahjlab.Given Go.Proofs.Ytgfpkhihdahjlab.CrcThy Go.Proofs.Ytgfpkhihdahjlab.WireThy Go.Proofs.Ytgfpkhihdahjlab.WireFun
theorem w64n {a : Int} (h1 : 0 ≤ a) (h2 : a ≤ 9223372036854775807) : wrap64 a = a := by unfold wrap64; omega
theorem xor_step (a b : Nat) : a ^^^ b = 2 * ((a / 2) ^^^ (b / 2)) + (if a % 2 = b % 2 then 0 else 1) := by
  have h1 : (a ^^^ b) / 2 = (a / 2) ^^^ (b / 2) := Nat.xor_div_two
  have h2 : (a ^^^ b) % 2 = 1 ↔ ¬ (a % 2 = 1 ↔ b % 2 = 1) := Nat.xor_mod_two_eq_one
  by_cases h : a % 2 = b % 2
  · rw [if_pos h]
    have : ¬ ((a ^^^ b) % 2 = 1) := fun k => (h2.1 k) (by rw [h])
    omega
  · rw [if_neg h]
    have : (a ^^^ b) % 2 = 1 := h2.2 (fun k => h (by omega))
    omega
/-- One number laid over another one, bit by bit: their exclusive or. -/
theorem over_l0 (n : Nat) : ∀ (k a b out bit : Nat), 2 * n + 2 ≤ k → a < 2 ^ n → b < 2 ^ n → out < bit → bit * 2 ^ n ≤ 4611686018427387904 → switchboardref06_over.l0 k a b out bit = some ((out + bit * (a ^^^ b) : Nat) : Int) := by
  induction n with
  | zero =>
    intro k a b out bit hk ha hb _ _
    obtain ⟨k, rfl⟩ : ∃ m, k = m + 2 := ⟨k - 2, by omega⟩
    obtain rfl : a = 0 := by simpa using ha
    obtain rfl : b = 0 := by simpa using hb
    simp only [switchboardref06_over.l0, switchboardref06_over.j1]
    rw [if_neg (by omega), if_neg (by simp)]
    simp
  | succ n ih =>
    intro k a b out bit hk ha hb ho hbit
    obtain ⟨k, rfl⟩ : ∃ m, k = m + 2 := ⟨k - 2, by omega⟩
    have hp : 0 < 2 ^ n := Nat.pow_pos (by omega)
    have hb2 : bit * 2 ≤ 4611686018427387904 := by
      refine Nat.le_trans ?_ hbit
      rw [Nat.pow_succ]; exact Nat.mul_le_mul_left _ (by omega)
    have hbn : 2 * bit * 2 ^ n ≤ 4611686018427387904 := by rw [Nat.pow_succ] at hbit; rwa [Nat.mul_comm 2 bit, Nat.mul_assoc, Nat.mul_comm 2]
    rw [Nat.pow_succ] at ha hb
    have d1 : Int.tdiv (a : Int) 2 = ((a / 2 : Nat) : Int) := by rw [Int.tdiv_eq_ediv_of_nonneg (by omega)]; omega
    have d2 : Int.tdiv (b : Int) 2 = ((b / 2 : Nat) : Int) := by rw [Int.tdiv_eq_ediv_of_nonneg (by omega)]; omega
    have m1 : Int.tmod (a : Int) 2 = ((a % 2 : Nat) : Int) := by rw [Int.tmod_eq_emod_of_nonneg (by omega)]; omega
    have m2 : Int.tmod (b : Int) 2 = ((b % 2 : Nat) : Int) := by rw [Int.tmod_eq_emod_of_nonneg (by omega)]; omega
    have core : switchboardref06_over.j1 (k + 1) a b out bit true = some ((out + bit * (a ^^^ b) : Nat) : Int) := by
      simp only [switchboardref06_over.j1, if_true, d1, d2, m1, m2]
      have e := xor_step a b
      have a2 : a / 2 ≤ a := Nat.div_le_self _ _
      have hA : a < 2 ^ (n + 1) := by rw [Nat.pow_succ]; omega
      have bound : 2 ^ n * 2 ≤ 4611686018427387904 := by
        have : 1 * 2 ^ (n + 1) ≤ bit * 2 ^ (n + 1) := Nat.mul_le_mul_right _ (by omega)
        rw [Nat.pow_succ] at this; rw [Nat.pow_succ] at hbit; omega
      rw [w64n (a := ((a / 2 : Nat) : Int)) (by omega) (by omega), w64n (a := ((b / 2 : Nat) : Int)) (by omega) (by omega), w64n (a := 2 * (bit : Int)) (by omega) (by omega)]
      by_cases h : a % 2 = b % 2
      · rw [if_pos (by rw [h])]
        rw [if_pos h] at e
        have := ih k (a / 2) (b / 2) out (2 * bit) (by omega) (by omega) (by omega) (by omega) hbn
        rw [show ((2 * bit : Nat) : Int) = 2 * (bit : Int) from by omega] at this
        rw [this, e]; congr 2
        rw [Nat.add_zero, Nat.mul_comm 2 bit, Nat.mul_assoc]
      · rw [if_neg (by omega)]
        rw [if_neg h] at e
        have := ih k (a / 2) (b / 2) (out + bit) (2 * bit) (by omega) (by omega) (by omega) (by omega) hbn
        rw [w64n (a := (out : Int) + bit) (by omega) (by omega)]
        rw [show ((2 * bit : Nat) : Int) = 2 * (bit : Int) from by omega, show ((out + bit : Nat) : Int) = (out : Int) + bit from by omega] at this
        rw [this, e]; congr 2
        rw [Nat.mul_add, Nat.mul_comm 2 bit, Nat.mul_assoc]; omega
    by_cases h1 : (a : Int) > 0
    · simp only [switchboardref06_over.l0]
      rw [if_pos h1]; exact core
    · by_cases h2 : (b : Int) > 0
      · simp only [switchboardref06_over.l0]
        rw [if_neg h1, decide_eq_true h2]; exact core
      · obtain rfl : a = 0 := by omega
        obtain rfl : b = 0 := by omega
        simp only [switchboardref06_over.l0, switchboardref06_over.j1]
        rw [if_neg (by omega), if_neg (by simp)]
        simp
theorem over_B (k : Nat) (hk : 66 ≤ k) (a b : BitVec 32) : switchboardref06_over.f k (a.toNat : Int) (b.toNat : Int) = some ((a ^^^ b).toNat : Int) := by
  unfold switchboardref06_over.f
  have := over_l0 32 k a.toNat b.toNat 0 1 (by omega) a.isLt b.isLt (by omega) (by omega)
  simpa [BitVec.toNat_xor] using this
theorem rounds (d : Nat) : ∀ (k : Nat) (s : ByteArray) (c : BitVec 32) (i j : Int), 70 ≤ k → 0 ≤ j → 8 - j = d → switchboardref06_Sum.l1 (k + d + 1) s (c.toNat : Int) i j = switchboardref06_Sum.l0 k s ((T d c).toNat : Int) (wrap64 (i + 1)) := by
  have tT : ∀ (n : Nat) (c : BitVec 32), T n (stepB c) = T (n + 1) c := by
    intro n; induction n with
    | zero => intro c; rfl
    | succ n ih => intro c; show stepB (T n (stepB c)) = stepB (T (n + 1) c); rw [ih]
  induction d with
  | zero =>
    intro k s c i j hk h0 hd
    simp only [switchboardref06_Sum.l1]; rw [if_neg (by omega)]; rfl
  | succ d ih =>
    intro k s c i j hk h0 hd
    rw [show k + (d + 1) + 1 = (k + d + 1) + 1 from by omega]
    simp only [switchboardref06_Sum.l1]
    have hc := c.isLt
    have h1 : Int.tdiv (c.toNat : Int) 2 = ((c >>> 1).toNat : Int) := by
      rw [Int.tdiv_eq_ediv_of_nonneg (by omega), BitVec.toNat_ushiftRight, Nat.shiftRight_eq_div_pow]; simp
    have h1' := (c >>> 1).isLt
    rw [if_pos (by omega), h1, w64n (a := ((c >>> 1).toNat : Int)) (by omega) (by omega), w64n (a := j + 1) (by omega) (by omega)]
    have m1 : Int.tmod (c.toNat : Int) 2 = ((c.toNat % 2 : Nat) : Int) := by rw [Int.tmod_eq_emod_of_nonneg (by omega)]; omega
    have hbit : c.getLsbD 0 = decide (c.toNat % 2 = 1) := by rw [BitVec.getLsbD, Nat.testBit_zero]
    rw [m1]
    by_cases h : c.toNat % 2 = 1
    · rw [if_pos (by omega), show (3988292384 : Int) = ((3988292384#32 : BitVec 32).toNat : Int) from rfl, over_B _ (by omega)]
      simp only [Option.bind_some]
      have := ih k s (stepB c) i (j + 1) hk (by omega) (by omega)
      rw [tT] at this
      have hs : c >>> 1 ^^^ 3988292384#32 = stepB c := by unfold stepB; rw [hbit, decide_eq_true h]; rfl
      rw [hs]; exact this
    · rw [if_neg (by omega)]
      have := ih k s (stepB c) i (j + 1) hk (by omega) (by omega)
      rw [tT] at this
      have hs : c >>> 1 = stepB c := by unfold stepB; rw [hbit, decide_eq_false h]; simp
      rw [hs]; exact this
theorem sum_l0 (s : ByteArray) (hs : s.size ≤ 140737488351232) (r : Nat) : ∀ (k : Nat) (c : BitVec 32) (i : Nat), 10 * r + 71 ≤ k → i + r = s.size → switchboardref06_Sum.l0 k s (c.toNat : Int) (i : Int) = some ((sumB (s.data.toList.drop i) c ^^^ 4294967295#32).toNat : Int) := by
  induction r with
  | zero =>
    intro k c i hk hi
    obtain ⟨k, rfl⟩ : ∃ m, k = m + 1 := ⟨k - 1, by omega⟩
    simp only [switchboardref06_Sum.l0]
    rw [if_neg (by omega), show (4294967295 : Int) = ((4294967295#32 : BitVec 32).toNat : Int) from rfl, over_B _ (by omega)]
    rw [List.drop_of_length_le (by rw [data_length]; omega)]
    rfl
  | succ r ih =>
    intro k c i hk hi
    have hlt : i < s.data.toList.length := by rw [data_length]; omega
    obtain ⟨k, rfl⟩ : ∃ m, k = m + 8 + 1 + 1 := ⟨k - 10, by omega⟩
    have hb : bt s (i : Int) = ((W s.data.toList[i]).toNat : Int) := by
      rw [W_nat]
      have hlt2 : (i : Int).toNat < s.size := by omega
      unfold bt; rw [dif_pos hlt2]; rfl
    have hw := (W s.data.toList[i]).isLt
    simp only [switchboardref06_Sum.l0]
    rw [if_pos (by omega), if_pos (by omega), hb, w64n (a := ((W s.data.toList[i]).toNat : Int)) (by omega) (by omega), over_B _ (by omega)]
    simp only [Option.bind_some]
    rw [rounds 8 k s _ _ 0 (by omega) (by omega) (by omega), w64n (a := (i : Int) + 1) (by omega) (by omega)]
    have := ih k (T 8 (c ^^^ W s.data.toList[i])) (i + 1) (by omega) (by omega)
    rw [show ((i + 1 : Nat) : Int) = (i : Int) + 1 from by omega] at this
    rw [this, List.drop_eq_getElem_cons hlt, sumB_cons]
theorem rsum_is (s : ByteArray) (hs : s.size ≤ 140737488351232) (k : Nat) (hk : 10 * s.size + 71 ≤ k) : switchboardref06_Sum.f k s = some (crcI s.data.toList) := by
  have := sum_l0 s hs s.size k 4294967295#32 0 hk (by omega)
  rw [show ((4294967295#32 : BitVec 32).toNat : Int) = 4294967295 from rfl, List.drop_zero, show ((0 : Nat) : Int) = 0 from rfl] at this
  unfold switchboardref06_Sum.f
  rw [this, crcI_B]; rfl
theorem rlist_is (m0 m1 m2 m3 m4 m5 m6 m7 m8 m9 : Int) (v : List Int) (hv : v.length ≤ 1000000000) : switchboardref07_List.f m0 m1 m2 m3 m4 m5 m6 m7 m8 m9 v = some (listOf [m0, m1, m2, m3, m4, m5, m6, m7, m8, m9] v) := by
  unfold switchboardref07_List.f
  rw [Option.bind_some, if_pos (by simp only [List.length_cons, List.length_nil]; omega)]; rfl
def chk : Nat → List Int → Bool
  | _, [] => true
  | i, n :: r => decide (n ≤ 2147483647) && (decide (-2147483648 ≤ n) && ((decide (11 ≤ i) || decide (0 ≤ n)) && chk (i + 1) r))
theorem rright_l0 (x : List Int) (hx : x.length ≤ 2000000000) (m0 m1 m2 m3 m4 m5 m6 m7 m8 m9 : Int) (v : List Int) (d : Nat) : ∀ (k i : Nat), d < k → i + d = x.length →
    switchboardref07_Right.l0 k x (i : Int) m0 m1 m2 m3 m4 m5 m6 m7 m8 m9 v = some (chk i (x.drop i) && (decide (m0 > 0) && (decide (m0 < 5) && decide ((v.length : Int) < 9)))) := by
  induction d with
  | zero =>
    intro k i hk hi
    obtain ⟨k, rfl⟩ : ∃ m, k = m + 1 := ⟨k - 1, by omega⟩
    simp only [switchboardref07_Right.l0]
    rw [if_neg (by omega), List.drop_of_length_le (by omega)]
    by_cases h1 : m0 > 0
    · rw [if_pos h1, decide_eq_true h1]
      by_cases h2 : m0 < 5
      · rw [if_pos h2, decide_eq_true h2]; simp [chk]
      · rw [if_neg h2, decide_eq_false h2]; simp
    · rw [if_neg h1, decide_eq_false h1]; simp
  | succ d ih =>
    intro k i hk hi
    obtain ⟨k, rfl⟩ : ∃ m, k = m + 1 := ⟨k - 1, by omega⟩
    have hlt : i < x.length := by omega
    have ih2 := ih k (i + 1) (by omega) (by omega)
    rw [show ((i + 1 : Nat) : Int) = (i : Int) + 1 from by omega] at ih2
    simp only [switchboardref07_Right.l0]
    rw [if_pos (by omega), if_pos (by omega), rd_nat x i hlt, w64n (a := (i : Int) + 1) (by omega) (by omega), ih2, List.drop_eq_getElem_cons hlt]
    simp only [chk]
    by_cases h1 : x[i] > 2147483647
    · rw [if_pos h1, decide_eq_false (p := x[i] ≤ 2147483647) (by omega)]; simp
    · rw [if_neg h1, decide_eq_true (p := x[i] ≤ 2147483647) (by omega)]
      by_cases h2 : x[i] < -2147483648
      · rw [if_pos h2, decide_eq_false (p := -2147483648 ≤ x[i]) (by omega)]; simp
      · rw [if_neg h2, decide_eq_true (p := -2147483648 ≤ x[i]) (by omega)]
        by_cases h3 : (i : Int) < 11
        · rw [if_pos h3, decide_eq_false (p := 11 ≤ i) (by omega)]
          by_cases h4 : x[i] < 0
          · rw [if_pos h4, decide_eq_false (p := 0 ≤ x[i]) (by omega)]; simp
          · rw [if_neg h4, decide_eq_true (p := 0 ≤ x[i]) (by omega)]; simp
        · rw [if_neg h3, decide_eq_true (p := 11 ≤ i) (by omega)]; simp
theorem chk_vec (v : List Int) : ∀ i, 11 ≤ i → chk i v = decide (VecOk v) := by
  induction v with
  | nil => intro i _; rfl
  | cons n r ih =>
    intro i hi
    simp only [chk]
    rw [ih (i + 1) (by omega), decide_eq_true hi, Bool.true_or, Bool.true_and, ← Bool.decide_and, ← Bool.decide_and, decide_eq_decide]
    unfold VecOk; rw [List.forall_mem_cons]
    exact ⟨fun k => ⟨⟨k.2.1, k.1⟩, k.2.2⟩, fun k => ⟨k.1.2, k.1.1, k.2⟩⟩
theorem rright_is (m0 m1 m2 m3 m4 m5 m6 m7 m8 m9 : Int) (v : List Int) (hv : v.length ≤ 1000000000) (k : Nat) (hk : v.length + 20 ≤ k) :
    switchboardref07_Right.f k m0 m1 m2 m3 m4 m5 m6 m7 m8 m9 v = some (RightB [m0, m1, m2, m3, m4, m5, m6, m7, m8, m9] v) := by
  unfold switchboardref07_Right.f
  rw [rlist_is m0 m1 m2 m3 m4 m5 m6 m7 m8 m9 v hv, Option.bind_some]
  have := rright_l0 (listOf [m0, m1, m2, m3, m4, m5, m6, m7, m8, m9] v) (by simp [listOf] <;> omega) m0 m1 m2 m3 m4 m5 m6 m7 m8 m9 v (v.length + 11) k 0 (by omega) (by simp [listOf] <;> omega)
  rw [show (0 : Int) = ((0 : Nat) : Int) from rfl, this, List.drop_zero]
  congr 1
  have hR : RightB [m0, m1, m2, m3, m4, m5, m6, m7, m8, m9] v = (decide (HdOk [m0, m1, m2, m3, m4, m5, m6, m7, m8, m9]) && (decide (VecOk v) && (decide (1 ≤ m0) && (decide (m0 ≤ 4) && decide (v.length ≤ 8))))) := rfl
  rw [hR]
  unfold listOf
  rw [Bool.eq_iff_iff]
  simp only [List.cons_append, List.nil_append, chk, chk_vec v 11 (by omega), Bool.and_eq_true, decide_eq_true_eq, Bool.or_eq_true, HdOk, List.forall_mem_cons]
  constructor
  · intro h
    refine ⟨?_, ?_, ?_, ?_, ?_⟩
    · refine ⟨⟨?_, ?_⟩, ⟨?_, ?_⟩, ⟨?_, ?_⟩, ⟨?_, ?_⟩, ⟨?_, ?_⟩, ⟨?_, ?_⟩, ⟨?_, ?_⟩, ⟨?_, ?_⟩, ⟨?_, ?_⟩, ⟨?_, ?_⟩, fun x hx => by cases hx⟩ <;> omega
    · exact h.1.2.2.2.2.2.2.2.2.2.2.2.2.2.2.2.2.2.2.2.2.2.2.2.2.2.2.2.2.2.2.2.2.2
    · omega
    · omega
    · omega
  · intro h
    obtain ⟨⟨a0, a1, a2, a3, a4, a5, a6, a7, a8, a9, _⟩, hv2, h3, h4, h5⟩ := h
    refine ⟨?_, by omega, by omega, by omega⟩
    refine ⟨by omega, by omega, Or.inr (by omega), by omega, by omega, Or.inr (by omega), by omega, by omega, Or.inr (by omega), by omega, by omega, Or.inr (by omega), by omega, by omega, Or.inr (by omega), by omega, by omega, Or.inr (by omega), by omega, by omega, Or.inr (by omega), by omega, by omega, Or.inr (by omega), by omega, by omega, Or.inr (by omega), by omega, by omega, Or.inr (by omega), by omega, by omega, Or.inr (by omega), hv2⟩
theorem same_l0 (x y : List Int) (hx : x.length ≤ 2000000000) (e : x.length = y.length) (d : Nat) : ∀ (k i : Nat), d < k → i + d = x.length → switchboardref07_Same.l0 k x y (i : Int) = some (decide (x.drop i = y.drop i)) := by
  induction d with
  | zero =>
    intro k i hk hi
    obtain ⟨k, rfl⟩ : ∃ m, k = m + 1 := ⟨k - 1, by omega⟩
    simp only [switchboardref07_Same.l0]
    rw [if_neg (by omega), List.drop_of_length_le (by omega), List.drop_of_length_le (by omega)]; rfl
  | succ d ih =>
    intro k i hk hi
    obtain ⟨k, rfl⟩ : ∃ m, k = m + 1 := ⟨k - 1, by omega⟩
    have hlt : i < x.length := by omega
    have hlt2 : i < y.length := by omega
    have ih2 := ih k (i + 1) (by omega) (by omega)
    rw [show ((i + 1 : Nat) : Int) = (i : Int) + 1 from by omega] at ih2
    simp only [switchboardref07_Same.l0]
    rw [if_pos (by omega), if_pos (by omega), if_pos (by omega), rd_nat x i hlt, rd_nat y i hlt2, w64n (a := (i : Int) + 1) (by omega) (by omega), ih2, List.drop_eq_getElem_cons hlt, List.drop_eq_getElem_cons hlt2]
    by_cases h : x[i] = y[i]
    · rw [if_pos h, h]; congr 1; rw [decide_eq_decide, List.cons.injEq]; exact ⟨fun k => ⟨rfl, k⟩, fun k => k.2⟩
    · rw [if_neg h, decide_eq_false (fun k => h (List.cons.inj k).1)]
theorem rsame_is (m0 m1 m2 m3 m4 m5 m6 m7 m8 m9 : Int) (v : List Int) (n0 n1 n2 n3 n4 n5 n6 n7 n8 n9 : Int) (u : List Int) (hv : v.length ≤ 1000000000) (hu : u.length ≤ 1000000000) (k : Nat) (hk : v.length + 20 ≤ k) :
    switchboardref07_Same.f k m0 m1 m2 m3 m4 m5 m6 m7 m8 m9 v n0 n1 n2 n3 n4 n5 n6 n7 n8 n9 u = some (decide ([m0, m1, m2, m3, m4, m5, m6, m7, m8, m9] = [n0, n1, n2, n3, n4, n5, n6, n7, n8, n9] ∧ v = u)) := by
  unfold switchboardref07_Same.f
  rw [rlist_is m0 m1 m2 m3 m4 m5 m6 m7 m8 m9 v hv, rlist_is n0 n1 n2 n3 n4 n5 n6 n7 n8 n9 u hu, Option.bind_some, Option.bind_some]
  have l1 : (listOf [m0, m1, m2, m3, m4, m5, m6, m7, m8, m9] v).length = v.length + 11 := by simp [listOf] <;> omega
  have l2 : (listOf [n0, n1, n2, n3, n4, n5, n6, n7, n8, n9] u).length = u.length + 11 := by simp [listOf] <;> omega
  by_cases h : v.length = u.length
  · have := same_l0 (listOf [m0, m1, m2, m3, m4, m5, m6, m7, m8, m9] v) (listOf [n0, n1, n2, n3, n4, n5, n6, n7, n8, n9] u) (by omega) (by omega) (v.length + 11) k 0 (by omega) (by omega)
    rw [if_pos (by omega), show (0 : Int) = ((0 : Nat) : Int) from rfl, this, List.drop_zero, List.drop_zero]
    congr 1; rw [decide_eq_decide]
    unfold listOf
    simp only [List.cons_append, List.nil_append, List.cons.injEq]
    constructor
    · rintro ⟨a0, a1, a2, a3, a4, a5, a6, a7, a8, a9, _, a11⟩; exact ⟨⟨a0, a1, a2, a3, a4, a5, a6, a7, a8, a9, trivial⟩, a11⟩
    · rintro ⟨⟨a0, a1, a2, a3, a4, a5, a6, a7, a8, a9, _⟩, a11⟩; exact ⟨a0, a1, a2, a3, a4, a5, a6, a7, a8, a9, by omega, a11⟩
  · rw [if_neg (by omega), decide_eq_false (fun k => h (congrArg List.length k.2))]
end Go.Proofs.Ytgfpkhihdahjlab.WireRef
