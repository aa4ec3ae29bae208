import Derived.Test.YtdcojbamfchgiaaQChunkx19
import Derived.Test.YtdcojbamfchgiaaQChunkx1
import Derived.Test.YtdcojbamfchgiaaQChunkx23
import Derived.Test.YtdcojbamfchgiaaChunkFun
import Derived.Test.YtdcojbamfchgiaaQChunkx27
import Derived.Test.YtdcojbamfchgiaaCrcThy
import Derived.Test.YtdcojbamfchgiaaQChunkx31
/- What the references' comparisons, checks of form and Export answer, in plain words. -/
namespace Go.Proofs.Ytdcojbamfchgiaa.ChunkSame
open Go Go.RowKit Go.Proofs.Ytdcojbamfchgiaa.QChunk Go.Proofs.YtdcojbamfchgiaaW.PrintWords Go.Proofs.YtdcojbamfchgiaaW.PrintLast Go.Proofs.Ytdcojbamfchgiaa.Given Go.Proofs.Ytdcojbamfchgiaa.Right Go.Proofs.Ytdcojbamfchgiaa.CrcThy Go.Proofs.Ytdcojbamfchgiaa.WireThy Go.Proofs.Ytdcojbamfchgiaa.Export Go.Proofs.Ytdcojbamfchgiaa.ChunkNum Go.Proofs.Ytdcojbamfchgiaa.ChunkImp Go.Proofs.Ytdcojbamfchgiaa.ChunkCut Go.Proofs.Ytdcojbamfchgiaa.ChunkTak
theorem rd_nat (l : List Int) (i : Nat) (h : i < l.length) : rd l (i : Int) = l[i] := by
  unfold rd; rw [Int.toNat_natCast, List.getD_eq_getElem?_getD, List.getElem?_eq_getElem h, Option.getD_some]
theorem rd_row (l : List (List Int)) (i : Nat) (h : i < l.length) : rd_L1 l (i : Int) = l[i] := by
  unfold rd_L1; rw [Int.toNat_natCast, List.getD_eq_getElem?_getD, List.getElem?_eq_getElem h, Option.getD_some]
theorem same_l0 (x y : List Int) (hx : x.length ≤ 1000) (e : x.length = y.length) (d : Nat) : ∀ (k i : Nat), d < k → i + d = x.length → switchboardref02_Same.l0 k x y (i : Int) = some (decide (x.drop i = y.drop i)) := by
  induction d with
  | zero =>
    intro k i hk hi
    obtain ⟨k, rfl⟩ : ∃ m, k = m + 1 := ⟨k - 1, by omega⟩
    rw [switchboardref02_Same.l0, if_neg (by omega), List.drop_of_length_le (by omega), List.drop_of_length_le (by omega)]; rfl
  | succ d ih =>
    intro k i hk hi
    obtain ⟨k, rfl⟩ : ∃ m, k = m + 1 := ⟨k - 1, by omega⟩
    have hlt : i < x.length := by omega
    have hlt2 : i < y.length := by omega
    have ih2 := ih k (i + 1) (by omega) (by omega)
    rw [show ((i + 1 : Nat) : Int) = (i : Int) + 1 from by omega] at ih2
    rw [switchboardref02_Same.l0, if_pos (by omega), if_pos (by omega), if_pos (by omega), rd_nat x i hlt, rd_nat y i hlt2, w64 (a := (i : Int) + 1) (by omega) (by omega), ih2, List.drop_eq_getElem_cons hlt, List.drop_eq_getElem_cons hlt2]
    by_cases h : x[i] = y[i]
    · rw [if_pos h, h]; congr 1; rw [decide_eq_decide, List.cons.injEq]; exact ⟨fun k => ⟨rfl, k⟩, fun k => k.2⟩
    · rw [if_neg h, decide_eq_false (fun k => h (List.cons.inj k).1)]
theorem same2_is (x y : List Int) (hx : x.length ≤ 1000) (k : Nat) (hk : 1001 ≤ k) : switchboardref02_Same.f k x y = some (decide (x = y)) := by
  unfold switchboardref02_Same.f
  by_cases e : x.length = y.length
  · rw [if_pos (by omega)]
    have := same_l0 x y hx e x.length k 0 (by omega) (by omega)
    rw [List.drop_zero, List.drop_zero] at this
    exact this
  · rw [if_neg (by omega), decide_eq_false (fun h => e (by rw [h]))]
theorem rows_l0 (x y : List (List Int)) (hx : x.length ≤ 1000) (hr : ∀ l ∈ x, l.length ≤ 1000) (e : x.length = y.length) (d : Nat) : ∀ (k i : Nat), d + 1001 < k → i + d = x.length → switchboardref15_Same.l0 k x y (i : Int) = some (decide (x.drop i = y.drop i)) := by
  induction d with
  | zero =>
    intro k i hk hi
    obtain ⟨k, rfl⟩ : ∃ m, k = m + 1 := ⟨k - 1, by omega⟩
    rw [switchboardref15_Same.l0, if_neg (by omega), List.drop_of_length_le (by omega), List.drop_of_length_le (by omega)]; rfl
  | succ d ih =>
    intro k i hk hi
    obtain ⟨k, rfl⟩ : ∃ m, k = m + 1 := ⟨k - 1, by omega⟩
    have hlt : i < x.length := by omega
    have hlt2 : i < y.length := by omega
    have ih2 := ih k (i + 1) (by omega) (by omega)
    rw [show ((i + 1 : Nat) : Int) = (i : Int) + 1 from by omega] at ih2
    rw [switchboardref15_Same.l0, if_pos (by omega), if_pos (by omega), if_pos (by omega), rd_row x i hlt, rd_row y i hlt2, same2_is _ _ (hr _ (List.getElem_mem hlt)) k (by omega), Option.bind_some, w64 (a := (i : Int) + 1) (by omega) (by omega), ih2, List.drop_eq_getElem_cons hlt, List.drop_eq_getElem_cons hlt2]
    by_cases h : x[i] = y[i]
    · rw [decide_eq_true h, if_pos rfl, h]; congr 1; rw [decide_eq_decide, List.cons.injEq]; exact ⟨fun k => ⟨rfl, k⟩, fun k => k.2⟩
    · rw [decide_eq_false h, if_neg (by decide), decide_eq_false (fun k => h (List.cons.inj k).1)]
theorem same15_is (x y : List (List Int)) (hx : x.length ≤ 1000) (hr : ∀ l ∈ x, l.length ≤ 1000) (k : Nat) (hk : 2010 ≤ k) : switchboardref15_Same.f k x y = some (decide (x = y)) := by
  unfold switchboardref15_Same.f
  by_cases e : x.length = y.length
  · rw [if_pos (by omega)]
    have := rows_l0 x y hx hr e x.length k 0 (by omega) (by omega)
    rw [List.drop_zero, List.drop_zero] at this
    exact this
  · rw [if_neg (by omega), decide_eq_false (fun h => e (by rw [h]))]
/-- No more than a thousand rows, of no more numbers. -/
def Few (x : List (List Int)) : Prop := x.length ≤ 1000 ∧ ∀ l ∈ x, l.length ≤ 1000
theorem same_is (x y u v : List (List Int)) (hx : Few x) (hy : Few y) (k : Nat) (hk : 2010 ≤ k) : switchboardlaw16_same.f k x y u v = some (decide (x = u ∧ y = v)) := by
  unfold switchboardlaw16_same.f
  rw [same15_is x u hx.1 hx.2 k hk, Option.bind_some]
  by_cases h : x = u
  · rw [decide_eq_true h, if_pos rfl, same15_is y v hy.1 hy.2 k hk, Option.bind_some]
    congr 1; rw [decide_eq_decide]; exact ⟨fun k => ⟨h, k⟩, fun k => k.2⟩
  · rw [decide_eq_false h, if_neg (by decide), decide_eq_false (fun k => h k.1)]
theorem few_right {x y : List (List Int)} {d : Int} (h : rightX x y d = true) : Few x ∧ Few y := by
  have p := right_p h
  have h8 := p.h8; have d8 := p.d8; have hl := p.leny
  exact ⟨⟨by omega, fun l hl => by have := (p.rx l hl).1; omega⟩, ⟨by omega, fun l hl => by have := (p.ry l hl).1; omega⟩⟩
theorem few_nil : Few [] := ⟨by simp, by simp⟩
/-- Thirty rows of thirty numbers, at most: if it says so, it is so. -/
theorem small_l0 (x : List (List Int)) (d : Nat) : ∀ (k i : Nat), 2 * d + 2 ≤ k → i + d = 31 → (∀ j, j < i → ∀ h : j < x.length, (x[j]).length ≤ 30) → ∃ b, switchboardref03_Small.l0 k x (i : Int) = some b ∧ (b = true → x.length ≤ 30 ∧ ∀ l ∈ x, l.length ≤ 30) := by
  induction d with
  | zero =>
    intro k i hk hi hall
    obtain ⟨k, rfl⟩ : ∃ m, k = m + 2 := ⟨k - 2, by omega⟩
    have fin : ∃ b, switchboardref03_Small.j1 (k + 1) x (i : Int) false = some b ∧ (b = true → x.length ≤ 30 ∧ ∀ l ∈ x, l.length ≤ 30) := by
      rw [switchboardref03_Small.j1, if_neg (by decide)]
      refine ⟨_, rfl, fun h => ?_⟩
      have h' : x.length ≤ 30 := by have := of_decide_eq_true h; omega
      refine ⟨h', fun l hl => ?_⟩
      obtain ⟨j, hj, rfl⟩ := List.mem_iff_getElem.mp hl
      exact hall j (by omega) hj
    rw [switchboardref03_Small.l0]
    by_cases h : (i : Int) < (x.length : Int)
    · rw [if_pos h, show decide ((i : Int) < 30) = false by simp; omega]; exact fin
    · rw [if_neg h]; exact fin
  | succ d ih =>
    intro k i hk hi hall
    obtain ⟨k, rfl⟩ : ∃ m, k = m + 2 := ⟨k - 2, by omega⟩
    rw [switchboardref03_Small.l0]
    by_cases h : (i : Int) < (x.length : Int)
    · rw [if_pos h]
      by_cases h30 : (i : Int) < 30
      · have hlt : i < x.length := by omega
        rw [decide_eq_true h30, switchboardref03_Small.j1, if_pos rfl, if_pos (by omega), if_pos h, rd_row x i hlt]
        by_cases hb : ((x[i]).length : Int) > 30
        · rw [if_pos hb]; exact ⟨false, rfl, fun h => by simp at h⟩
        · rw [if_neg hb, w64 (a := (i : Int) + 1) (by omega) (by omega), show (i : Int) + 1 = ((i + 1 : Nat) : Int) by omega]
          refine ih k (i + 1) (by omega) (by omega) (fun j hj hjl => ?_)
          rcases Nat.lt_or_ge j i with hji | hji
          · exact hall j hji hjl
          · obtain rfl : j = i := by omega
            omega
      · rw [decide_eq_false h30, switchboardref03_Small.j1, if_neg (by decide)]
        refine ⟨_, rfl, fun h' => ?_⟩
        have := of_decide_eq_true h'
        omega
    · rw [if_neg h, switchboardref03_Small.j1, if_neg (by decide)]
      refine ⟨_, rfl, fun h' => ?_⟩
      refine ⟨by have := of_decide_eq_true h'; omega, fun l hl => ?_⟩
      obtain ⟨j, hj, rfl⟩ := List.mem_iff_getElem.mp hl
      exact hall j (by omega) hj
theorem small_is (x : List (List Int)) : ∃ b, (b = true → Few x) ∧ ∀ k, 100 ≤ k → switchboardref03_Small.f k x = some b := by
  obtain ⟨b, hb, hs⟩ := small_l0 x 31 100 0 (by omega) (by omega) (fun j hj => absurd hj (Nat.not_lt_zero _))
  refine ⟨b, fun h => ⟨by have := (hs h).1; omega, fun l hl => by have := (hs h).2 l hl; omega⟩, fun k hk => ?_⟩
  have m : ∀ n, switchboardref03_Small.f (100 + n) x = some b := by
    intro n
    induction n with
    | zero => exact hb
    | succ n ih => exact switchboardref03_Small.mono x (100 + n) b ih
  have := m (k - 100)
  rwa [show 100 + (k - 100) = k by omega] at this
end Go.Proofs.Ytdcojbamfchgiaa.ChunkSame
/- What the reference's check of form answers, in plain words. -/
namespace Go.Proofs.Ytdcojbamfchgiaa.ChunkForm
open Go Go.RowKit Go.Proofs.Ytdcojbamfchgiaa.QChunk Go.Proofs.YtdcojbamfchgiaaW.PrintWords Go.Proofs.YtdcojbamfchgiaaW.PrintLast Go.Proofs.Ytdcojbamfchgiaa.Given Go.Proofs.Ytdcojbamfchgiaa.Right Go.Proofs.Ytdcojbamfchgiaa.ChunkNum Go.Proofs.Ytdcojbamfchgiaa.ChunkImp Go.Proofs.Ytdcojbamfchgiaa.ChunkSame
theorem form_l1 (x : List (List Int)) (c : Int) (i : Nat) (hi : i < x.length) (hx : x.length ≤ 1000) (hr : (x[i]).length ≤ 1000) (d : Nat) : ∀ (k j : Nat), d + 1 ≤ k → j + d = (x[i]).length →
    switchboardref03_Right.l1 k x c (i : Int) (j : Int) = if ((x[i]).drop j).any bad = true then some false else switchboardref03_Right.l0 (k - d - 1) x c ((i + 1 : Nat) : Int) := by
  induction d with
  | zero =>
    intro k j hk hj
    obtain ⟨k, rfl⟩ : ∃ m, k = m + 1 := ⟨k - 1, by omega⟩
    rw [switchboardref03_Right.l1, if_pos (by omega), if_pos (by omega), rd_row x i hi, if_neg (by omega), List.drop_of_length_le (by omega), w64 (a := (i : Int) + 1) (by omega) (by omega)]
    simp
  | succ d ih =>
    intro k j hk hj
    obtain ⟨k, rfl⟩ : ∃ m, k = m + 1 := ⟨k - 1, by omega⟩
    have hlt : j < (x[i]).length := by omega
    rw [switchboardref03_Right.l1, if_pos (by omega), if_pos (by omega), rd_row x i hi, if_pos (by omega), if_pos (by omega), rd_nat _ j hlt, List.drop_eq_getElem_cons hlt, List.any_cons]
    have hnx := ih k (j + 1) (by omega) (by omega)
    rw [w64 (a := (j : Int) + 1) (by omega) (by omega), show (j : Int) + 1 = ((j + 1 : Nat) : Int) by omega, hnx, show k + 1 - (d + 1) - 1 = k - d - 1 by omega]
    by_cases h1 : (x[i])[j] > 2147483647
    · rw [if_pos h1, show bad (x[i])[j] = true by simp [bad, h1]]; simp
    · by_cases h2 : (x[i])[j] < -2147483647
      · rw [if_neg h1, if_pos h2, show bad (x[i])[j] = true by simp [bad, h2]]; simp
      · rw [if_neg h1, if_neg h2, show bad (x[i])[j] = false by simp [bad, h1, h2], Bool.false_or]
set_option maxRecDepth 100000 in
theorem form_l0 (x : List (List Int)) (c : Int) (hx : Few x) (d : Nat) : ∀ (k i : Nat), d * 1003 + 1 ≤ k → i + d = x.length →
    switchboardref03_Right.l0 k x c (i : Int) = some (!(x.drop i).any (badRow c)) := by
  induction d with
  | zero =>
    intro k i hk hi
    obtain ⟨k, rfl⟩ : ∃ m, k = m + 1 := ⟨k - 1, by omega⟩
    rw [switchboardref03_Right.l0, if_neg (by omega), List.drop_of_length_le (by omega)]; rfl
  | succ d ih =>
    intro k i hk hi
    rw [Nat.succ_mul] at hk
    obtain ⟨k, rfl⟩ : ∃ m, k = m + 1 := ⟨k - 1, by omega⟩
    have hlt : i < x.length := by omega
    have hr := hx.2 _ (List.getElem_mem hlt)
    rw [switchboardref03_Right.l0, if_pos (by omega), if_pos (by omega), rd_row x i hlt, List.drop_eq_getElem_cons hlt, List.any_cons]
    by_cases hc : ((x[i]).length : Int) = c
    · have hf := form_l1 x c i hlt hx.1 hr (x[i]).length k 0 (by omega) (by omega)
      rw [List.drop_zero, show ((0 : Nat) : Int) = 0 from rfl] at hf
      rw [if_pos hc, hf]
      have hb : badRow c x[i] = (x[i]).any bad := by simp [badRow, hc]
      rw [hb]
      cases hbb : (x[i]).any bad with
      | true => simp
      | false =>
        have hnx := ih (k - (x[i]).length - 1) (i + 1) (by omega) (by omega)
        rw [if_neg (by decide), hnx, Bool.false_or]
    · have hb : badRow c x[i] = true := by simp [badRow, hc]
      rw [if_neg hc, hb]; simp
theorem form_is (x : List (List Int)) (r c : Int) (hx : Few x) (k : Nat) (hk : 1100000 ≤ k) : switchboardref03_Right.f k x r c = some (matRight x r c) := by
  unfold switchboardref03_Right.f matRight
  have h1 := hx.1
  by_cases h : (x.length : Int) = r
  · have := form_l0 x c hx x.length k 0 (by omega) (by omega)
    rw [List.drop_zero] at this
    rw [if_pos h, decide_eq_true h, Bool.true_and]; exact this
  · rw [if_neg h, decide_eq_false h, Bool.false_and]
theorem rright_is (x y : List (List Int)) (d : Int) (hx : Few x) (hy : Few y) (k : Nat) (hk : 1200000 ≤ k) : switchboardref11_Right.f k x y d = some (rightX x y d) := by
  obtain ⟨k, rfl⟩ : ∃ m, k = m + 1 := ⟨k - 1, by omega⟩
  have no : switchboardref11_Right.j0 (k + 1) d (x.length : Int) true x y = some false := by rw [switchboardref11_Right.j0]; exact if_pos rfl
  unfold switchboardref11_Right.f rightX
  by_cases h1 : d < 1
  · rw [if_pos h1, no, decide_eq_false (show ¬ 1 ≤ d by omega)]; rfl
  · by_cases h2 : d > 8
    · rw [if_neg h1, if_pos h2, no, decide_eq_false (show ¬ d ≤ 8 by omega), Bool.false_and, Bool.and_false]
    · rw [if_neg h1, if_neg h2, decide_eq_true (show 1 ≤ d by omega), decide_eq_true (show d ≤ 8 by omega), Bool.true_and, Bool.true_and]
      by_cases h3 : (x.length : Int) < 1
      · rw [if_pos h3, no, decide_eq_false (show ¬ 1 ≤ (x.length : Int) by omega)]; rfl
      · rw [if_neg h3, decide_eq_true (show 1 ≤ (x.length : Int) by omega), Bool.true_and]
        by_cases h4 : (x.length : Int) > 8
        · rw [decide_eq_true h4, no, decide_eq_false (show ¬ (x.length : Int) ≤ 8 by omega)]; rfl
        · rw [decide_eq_false h4, decide_eq_true (show (x.length : Int) ≤ 8 by omega), Bool.true_and, switchboardref11_Right.j0, if_neg (by decide), form_is x _ _ hx k (by omega), Option.bind_some]
          cases matRight x x.length d with
          | true => rw [if_pos rfl, form_is y _ _ hy k (by omega), Option.bind_some, Bool.true_and]
          | false => rw [if_neg (by decide), Bool.false_and]
end Go.Proofs.Ytdcojbamfchgiaa.ChunkForm
/- What the reference's sum answers, in plain words: the sum. -/
namespace Go.Proofs.Ytdcojbamfchgiaa.ChunkSum
open Go Go.RowKit Go.Proofs.Ytdcojbamfchgiaa.QChunk Go.Proofs.YtdcojbamfchgiaaW.PrintWords Go.Proofs.YtdcojbamfchgiaaW.PrintLast Go.Proofs.Ytdcojbamfchgiaa.Given Go.Proofs.Ytdcojbamfchgiaa.CrcThy
theorem w64n {a : Int} (h1 : 0 ≤ a) (h2 : a ≤ 9223372036854775807) : wrap64 a = a := by unfold wrap64; omega
theorem xor_step (a b : Nat) : a ^^^ b = 2 * ((a / 2) ^^^ (b / 2)) + (if a % 2 = b % 2 then 0 else 1) := by
  have h1 : (a ^^^ b) / 2 = (a / 2) ^^^ (b / 2) := Nat.xor_div_two
  have h2 : (a ^^^ b) % 2 = 1 ↔ ¬ (a % 2 = 1 ↔ b % 2 = 1) := Nat.xor_mod_two_eq_one
  by_cases h : a % 2 = b % 2
  · rw [if_pos h]
    have : ¬ ((a ^^^ b) % 2 = 1) := fun k => (h2.1 k) (by rw [h])
    omega
  · rw [if_neg h]
    have : (a ^^^ b) % 2 = 1 := h2.2 (fun k => h (by omega))
    omega
/-- One number laid over another one, bit by bit: their exclusive or. -/
theorem over_l0 (n : Nat) : ∀ (k a b out bit : Nat), 2 * n + 2 ≤ k → a < 2 ^ n → b < 2 ^ n → out < bit → bit * 2 ^ n ≤ 4611686018427387904 → switchboardref06_over.l0 k a b out bit = some ((out + bit * (a ^^^ b) : Nat) : Int) := by
  induction n with
  | zero =>
    intro k a b out bit hk ha hb _ _
    obtain ⟨k, rfl⟩ : ∃ m, k = m + 2 := ⟨k - 2, by omega⟩
    obtain rfl : a = 0 := by simpa using ha
    obtain rfl : b = 0 := by simpa using hb
    simp only [switchboardref06_over.l0, switchboardref06_over.j1]
    rw [if_neg (by omega), if_neg (by simp)]
    simp
  | succ n ih =>
    intro k a b out bit hk ha hb ho hbit
    obtain ⟨k, rfl⟩ : ∃ m, k = m + 2 := ⟨k - 2, by omega⟩
    have hp : 0 < 2 ^ n := Nat.pow_pos (by omega)
    have hb2 : bit * 2 ≤ 4611686018427387904 := by
      refine Nat.le_trans ?_ hbit
      rw [Nat.pow_succ]; exact Nat.mul_le_mul_left _ (by omega)
    have hbn : 2 * bit * 2 ^ n ≤ 4611686018427387904 := by rw [Nat.pow_succ] at hbit; rwa [Nat.mul_comm 2 bit, Nat.mul_assoc, Nat.mul_comm 2]
    rw [Nat.pow_succ] at ha hb
    have d1 : Int.tdiv (a : Int) 2 = ((a / 2 : Nat) : Int) := by rw [Int.tdiv_eq_ediv_of_nonneg (by omega)]; omega
    have d2 : Int.tdiv (b : Int) 2 = ((b / 2 : Nat) : Int) := by rw [Int.tdiv_eq_ediv_of_nonneg (by omega)]; omega
    have m1 : Int.tmod (a : Int) 2 = ((a % 2 : Nat) : Int) := by rw [Int.tmod_eq_emod_of_nonneg (by omega)]; omega
    have m2 : Int.tmod (b : Int) 2 = ((b % 2 : Nat) : Int) := by rw [Int.tmod_eq_emod_of_nonneg (by omega)]; omega
    have core : switchboardref06_over.j1 (k + 1) a b out bit true = some ((out + bit * (a ^^^ b) : Nat) : Int) := by
      simp only [switchboardref06_over.j1, if_true, d1, d2, m1, m2]
      have e := xor_step a b
      have a2 : a / 2 ≤ a := Nat.div_le_self _ _
      have hA : a < 2 ^ (n + 1) := by rw [Nat.pow_succ]; omega
      have bound : 2 ^ n * 2 ≤ 4611686018427387904 := by
        have : 1 * 2 ^ (n + 1) ≤ bit * 2 ^ (n + 1) := Nat.mul_le_mul_right _ (by omega)
        rw [Nat.pow_succ] at this; rw [Nat.pow_succ] at hbit; omega
      rw [w64n (a := ((a / 2 : Nat) : Int)) (by omega) (by omega), w64n (a := ((b / 2 : Nat) : Int)) (by omega) (by omega), w64n (a := 2 * (bit : Int)) (by omega) (by omega)]
      by_cases h : a % 2 = b % 2
      · rw [if_pos (by rw [h])]
        rw [if_pos h] at e
        have := ih k (a / 2) (b / 2) out (2 * bit) (by omega) (by omega) (by omega) (by omega) hbn
        rw [show ((2 * bit : Nat) : Int) = 2 * (bit : Int) from by omega] at this
        rw [this, e]; congr 2
        rw [Nat.add_zero, Nat.mul_comm 2 bit, Nat.mul_assoc]
      · rw [if_neg (by omega)]
        rw [if_neg h] at e
        have := ih k (a / 2) (b / 2) (out + bit) (2 * bit) (by omega) (by omega) (by omega) (by omega) hbn
        rw [w64n (a := (out : Int) + bit) (by omega) (by omega)]
        rw [show ((2 * bit : Nat) : Int) = 2 * (bit : Int) from by omega, show ((out + bit : Nat) : Int) = (out : Int) + bit from by omega] at this
        rw [this, e]; congr 2
        rw [Nat.mul_add, Nat.mul_comm 2 bit, Nat.mul_assoc]; omega
    by_cases h1 : (a : Int) > 0
    · simp only [switchboardref06_over.l0]
      rw [if_pos h1]; exact core
    · by_cases h2 : (b : Int) > 0
      · simp only [switchboardref06_over.l0]
        rw [if_neg h1, decide_eq_true h2]; exact core
      · obtain rfl : a = 0 := by omega
        obtain rfl : b = 0 := by omega
        simp only [switchboardref06_over.l0, switchboardref06_over.j1]
        rw [if_neg (by omega), if_neg (by simp)]
        simp
theorem over_B (k : Nat) (hk : 66 ≤ k) (a b : BitVec 32) : switchboardref06_over.f k (a.toNat : Int) (b.toNat : Int) = some ((a ^^^ b).toNat : Int) := by
  unfold switchboardref06_over.f
  have := over_l0 32 k a.toNat b.toNat 0 1 (by omega) a.isLt b.isLt (by omega) (by omega)
  simpa [BitVec.toNat_xor] using this
theorem rounds (d : Nat) : ∀ (k : Nat) (s : ByteArray) (c : BitVec 32) (i j : Int), 70 ≤ k → 0 ≤ j → 8 - j = d → switchboardref06_Sum.l1 (k + d + 1) s (c.toNat : Int) i j = switchboardref06_Sum.l0 k s ((T d c).toNat : Int) (wrap64 (i + 1)) := by
  have tT : ∀ (n : Nat) (c : BitVec 32), T n (stepB c) = T (n + 1) c := by
    intro n; induction n with
    | zero => intro c; rfl
    | succ n ih => intro c; show stepB (T n (stepB c)) = stepB (T (n + 1) c); rw [ih]
  induction d with
  | zero =>
    intro k s c i j hk h0 hd
    simp only [switchboardref06_Sum.l1]; rw [if_neg (by omega)]; rfl
  | succ d ih =>
    intro k s c i j hk h0 hd
    rw [show k + (d + 1) + 1 = (k + d + 1) + 1 from by omega]
    simp only [switchboardref06_Sum.l1]
    have hc := c.isLt
    have h1 : Int.tdiv (c.toNat : Int) 2 = ((c >>> 1).toNat : Int) := by
      rw [Int.tdiv_eq_ediv_of_nonneg (by omega), BitVec.toNat_ushiftRight, Nat.shiftRight_eq_div_pow]; simp
    have h1' := (c >>> 1).isLt
    rw [if_pos (by omega), h1, w64n (a := ((c >>> 1).toNat : Int)) (by omega) (by omega), w64n (a := j + 1) (by omega) (by omega)]
    have m1 : Int.tmod (c.toNat : Int) 2 = ((c.toNat % 2 : Nat) : Int) := by rw [Int.tmod_eq_emod_of_nonneg (by omega)]; omega
    have hbit : c.getLsbD 0 = decide (c.toNat % 2 = 1) := by rw [BitVec.getLsbD, Nat.testBit_zero]
    rw [m1]
    by_cases h : c.toNat % 2 = 1
    · rw [if_pos (by omega), show (3988292384 : Int) = ((3988292384#32 : BitVec 32).toNat : Int) from rfl, over_B _ (by omega)]
      simp only [Option.bind_some]
      have := ih k s (stepB c) i (j + 1) hk (by omega) (by omega)
      rw [tT] at this
      have hs : c >>> 1 ^^^ 3988292384#32 = stepB c := by unfold stepB; rw [hbit, decide_eq_true h]; rfl
      rw [hs]; exact this
    · rw [if_neg (by omega)]
      have := ih k s (stepB c) i (j + 1) hk (by omega) (by omega)
      rw [tT] at this
      have hs : c >>> 1 = stepB c := by unfold stepB; rw [hbit, decide_eq_false h]; simp
      rw [hs]; exact this
theorem sum_l0 (s : ByteArray) (hs : s.size ≤ 140737488351232) (r : Nat) : ∀ (k : Nat) (c : BitVec 32) (i : Nat), 10 * r + 71 ≤ k → i + r = s.size → switchboardref06_Sum.l0 k s (c.toNat : Int) (i : Int) = some ((sumB (s.data.toList.drop i) c ^^^ 4294967295#32).toNat : Int) := by
  induction r with
  | zero =>
    intro k c i hk hi
    obtain ⟨k, rfl⟩ : ∃ m, k = m + 1 := ⟨k - 1, by omega⟩
    simp only [switchboardref06_Sum.l0]
    rw [if_neg (by omega), show (4294967295 : Int) = ((4294967295#32 : BitVec 32).toNat : Int) from rfl, over_B _ (by omega)]
    rw [List.drop_of_length_le (by rw [data_length]; omega)]
    rfl
  | succ r ih =>
    intro k c i hk hi
    have hlt : i < s.data.toList.length := by rw [data_length]; omega
    obtain ⟨k, rfl⟩ : ∃ m, k = m + 8 + 1 + 1 := ⟨k - 10, by omega⟩
    have hb : bt s (i : Int) = ((W s.data.toList[i]).toNat : Int) := by
      rw [W_nat]
      have hlt2 : (i : Int).toNat < s.size := by omega
      unfold bt; rw [dif_pos hlt2]; rfl
    have hw := (W s.data.toList[i]).isLt
    simp only [switchboardref06_Sum.l0]
    rw [if_pos (by omega), if_pos (by omega), hb, w64n (a := ((W s.data.toList[i]).toNat : Int)) (by omega) (by omega), over_B _ (by omega)]
    simp only [Option.bind_some]
    rw [rounds 8 k s _ _ 0 (by omega) (by omega) (by omega), w64n (a := (i : Int) + 1) (by omega) (by omega)]
    have := ih k (T 8 (c ^^^ W s.data.toList[i])) (i + 1) (by omega) (by omega)
    rw [show ((i + 1 : Nat) : Int) = (i : Int) + 1 from by omega] at this
    rw [this, List.drop_eq_getElem_cons hlt, sumB_cons]
theorem rsum_is (s : ByteArray) (hs : s.size ≤ 140737488351232) (k : Nat) (hk : 10 * s.size + 71 ≤ k) : switchboardref06_Sum.f k s = some (crcI s.data.toList) := by
  have := sum_l0 s hs s.size k 4294967295#32 0 hk (by omega)
  rw [show ((4294967295#32 : BitVec 32).toNat : Int) = 4294967295 from rfl, List.drop_zero, show ((0 : Nat) : Int) = 0 from rfl] at this
  unfold switchboardref06_Sum.f
  rw [this, crcI_B]; rfl
end Go.Proofs.Ytdcojbamfchgiaa.ChunkSum
/- What the reference's Import answers, in plain words. -/
set_option linter.unusedVariables false
namespace Go.Proofs.Ytdcojbamfchgiaa.ChunkRim
open Go Go.RowKit Go.Proofs.Ytdcojbamfchgiaa.QChunk Go.Proofs.YtdcojbamfchgiaaW.PrintWords Go.Proofs.YtdcojbamfchgiaaW.PrintLast Go.Proofs.Ytdcojbamfchgiaa.Given Go.Proofs.Ytdcojbamfchgiaa.Right Go.Proofs.Ytdcojbamfchgiaa.CrcThy Go.Proofs.Ytdcojbamfchgiaa.WireThy Go.Proofs.Ytdcojbamfchgiaa.Export Go.Proofs.Ytdcojbamfchgiaa.ChunkNum Go.Proofs.Ytdcojbamfchgiaa.ChunkImp Go.Proofs.Ytdcojbamfchgiaa.ChunkCut Go.Proofs.Ytdcojbamfchgiaa.ChunkTak Go.Proofs.Ytdcojbamfchgiaa.ChunkSame Go.Proofs.Ytdcojbamfchgiaa.ChunkForm
theorem rfour_is (n : Int) (h0 : -4294967296 ≤ n) (h1 : n ≤ 4611686018427387904) : switchboardref16_four.f n = some (fourS n) := by
  have tp (x k : Int) (hx : 0 ≤ x) : Int.tdiv x k = x / k := Int.tdiv_eq_ediv_of_nonneg hx
  have tm (x k : Int) (hx : 0 ≤ x) : Int.tmod x k = x % k := Int.tmod_eq_emod_of_nonneg hx
  unfold switchboardref16_four.f
  by_cases h : n < 0
  · rw [if_pos h, w64 (a := n + 4294967296) (by omega) (by omega), tp _ 256 (by omega), tp _ 65536 (by omega), tp _ 16777216 (by omega), w64 (a := (n + 4294967296) / 256) (by omega) (by omega), w64 (a := (n + 4294967296) / 65536) (by omega) (by omega), w64 (a := (n + 4294967296) / 16777216) (by omega) (by omega), tm _ _ (by omega), tm _ _ (by omega), tm _ _ (by omega), tm _ _ (by omega)]
    unfold fourS
    rw [show (n + 4294967296) % 256 % 256 = n % 256 from by omega, show (n + 4294967296) / 256 % 256 % 256 = n / 256 % 256 from by omega, show (n + 4294967296) / 65536 % 256 % 256 = n / 65536 % 256 from by omega, show (n + 4294967296) / 16777216 % 256 % 256 = n / 16777216 % 256 from by omega]
  · rw [if_neg h, tp _ 256 (by omega), tp _ 65536 (by omega), tp _ 16777216 (by omega), w64 (a := n / 256) (by omega) (by omega), w64 (a := n / 65536) (by omega) (by omega), w64 (a := n / 16777216) (by omega) (by omega), tm _ _ (by omega), tm _ _ (by omega), tm _ _ (by omega), tm _ _ (by omega)]
    unfold fourS
    rw [show n % 256 % 256 = n % 256 from by omega, show n / 256 % 256 % 256 = n / 256 % 256 from by omega, show n / 65536 % 256 % 256 = n / 65536 % 256 from by omega, show n / 16777216 % 256 % 256 = n / 16777216 % 256 from by omega]
theorem ri_l1 (s : ByteArray) (hs : s.size ≤ 1000000) (h d : Nat) (hh : h ≤ 8) (hd : d ≤ 8) (r : Nat) (hr : r < 9) (a : Nat) (ha : 4 * (a + d) ≤ s.size) (X : List (List Int)) (hX : X.length ≤ 8) (dd : Nat) : ∀ (k c : Nat), c + dd = d →
    switchboardref16_Import.l1 (k + dd + 1) s (h : Int) (d : Int) ((4 * (a + c) : Nat) : Int) (r : Int) (rowOf (bl s) a c) (c : Int) X = switchboardref16_Import.l0 k s (h : Int) (d : Int) ((4 * (a + d) : Nat) : Int) ((r + 1 : Nat) : Int) (X ++ [rowOf (bl s) a d]) := by
  induction dd with
  | zero =>
    intro k c hc
    obtain rfl : c = d := by omega
    rw [switchboardref16_Import.l1, if_neg (by omega), if_pos (by omega), w64 (a := (r : Int) + 1) (by omega) (by omega), show (r : Int) + 1 = ((r + 1 : Nat) : Int) by omega]
  | succ dd ih =>
    intro k c hc
    have hnx := ih k (c + 1) (by omega)
    have hat : switchboardref16_at.f s ((4 * (a + c) : Nat) : Int) = some (numAt (bl s) (a + c)) := at_is s (by omega) _ (a + c) rfl (by omega)
    rw [show k + (dd + 1) + 1 = (k + dd + 1) + 1 by omega, switchboardref16_Import.l1, if_pos (by omega), hat, Option.bind_some, if_pos (by rw [rowOf_len]; omega), ← rowOf_succ, w64 (a := (c : Int) + 1) (by omega) (by omega), w64 (a := ((4 * (a + c) : Nat) : Int) + 4) (by omega) (by omega), show (c : Int) + 1 = ((c + 1 : Nat) : Int) by omega, show ((4 * (a + c) : Nat) : Int) + 4 = ((4 * (a + (c + 1)) : Nat) : Int) by omega]
    exact hnx
theorem ri_l0 (s : ByteArray) (hs : s.size ≤ 1000000) (h d : Nat) (hh : h ≤ 8) (hd : d ≤ 8) (hin : 4 * (2 + h * d) ≤ s.size) (dd : Nat) : ∀ (k r : Nat), r + dd = h →
    switchboardref16_Import.l0 (k + dd * (d + 2) + 1) s (h : Int) (d : Int) ((4 * (2 + r * d) : Nat) : Int) (r : Int) (rowsOf (bl s) 2 r d) = switchboardref16_Import.l2 k s (h : Int) (d : Int) ((4 * (2 + h * d) : Nat) : Int) 0 (rowsOf (bl s) 2 h d) [] := by
  induction dd with
  | zero =>
    intro k r hr
    obtain rfl : r = h := by omega
    rw [show k + 0 * (d + 2) + 1 = k + 1 by omega, switchboardref16_Import.l0, if_neg (by omega)]
  | succ dd ih =>
    intro k r hr
    have hle : (r + 1) * d ≤ h * d := Nat.mul_le_mul_right _ (by omega)
    rw [Nat.succ_mul] at hle
    have hnx := ih k (r + 1) (by omega)
    have h1 := ri_l1 s hs h d hh hd r (by omega) (2 + r * d) (by omega) (rowsOf (bl s) 2 r d) (by rw [rowsOf_len]; omega) d (k + dd * (d + 2) + 1) 0 (by omega)
    rw [show rowOf (bl s) (2 + r * d) 0 = [] from rfl, show ((0 : Nat) : Int) = 0 from rfl, ← rowsOf_succ, Nat.add_zero, show 2 + r * d + d = 2 + (r + 1) * d by rw [Nat.succ_mul]; omega, hnx] at h1
    rw [show k + (dd + 1) * (d + 2) + 1 = (k + dd * (d + 2) + 1 + d + 1) + 1 by rw [Nat.succ_mul]; omega, switchboardref16_Import.l0, if_pos (by omega)]
    exact h1
theorem ri_l3 (s : ByteArray) (hs : s.size ≤ 1000000) (h d : Nat) (hh : h ≤ 8) (hd : d ≤ 8) (r : Nat) (hr : r < 9) (a : Nat) (ha : 4 * (a + h) ≤ s.size) (X Y : List (List Int)) (hY : Y.length ≤ 8) (dd : Nat) : ∀ (k c : Nat), c + dd = h →
    switchboardref16_Import.l3 (k + dd + 1) s (h : Int) (d : Int) ((4 * (a + c) : Nat) : Int) (r : Int) (rowOf (bl s) a c) (c : Int) X Y = switchboardref16_Import.l2 k s (h : Int) (d : Int) ((4 * (a + h) : Nat) : Int) ((r + 1 : Nat) : Int) X (Y ++ [rowOf (bl s) a h]) := by
  induction dd with
  | zero =>
    intro k c hc
    obtain rfl : c = h := by omega
    rw [switchboardref16_Import.l3, if_neg (by omega), if_pos (by omega), w64 (a := (r : Int) + 1) (by omega) (by omega), show (r : Int) + 1 = ((r + 1 : Nat) : Int) by omega]
  | succ dd ih =>
    intro k c hc
    have hnx := ih k (c + 1) (by omega)
    have hat : switchboardref16_at.f s ((4 * (a + c) : Nat) : Int) = some (numAt (bl s) (a + c)) := at_is s (by omega) _ (a + c) rfl (by omega)
    rw [show k + (dd + 1) + 1 = (k + dd + 1) + 1 by omega, switchboardref16_Import.l3, if_pos (by omega), hat, Option.bind_some, if_pos (by rw [rowOf_len]; omega), ← rowOf_succ, w64 (a := (c : Int) + 1) (by omega) (by omega), w64 (a := ((4 * (a + c) : Nat) : Int) + 4) (by omega) (by omega), show (c : Int) + 1 = ((c + 1 : Nat) : Int) by omega, show ((4 * (a + c) : Nat) : Int) + 4 = ((4 * (a + (c + 1)) : Nat) : Int) by omega]
    exact hnx
theorem ri_l2 (s : ByteArray) (hs : s.size ≤ 1000000) (h d : Nat) (hh : h ≤ 8) (hd : d ≤ 8) (b : Nat) (hin : 4 * (b + d * h) ≤ s.size) (X : List (List Int)) (hX : Few X) (dd : Nat) : ∀ (k r : Nat), 1200000 ≤ k → r + dd = d →
    switchboardref16_Import.l2 (k + dd * (h + 2) + 1) s (h : Int) (d : Int) ((4 * (b + r * h) : Nat) : Int) (r : Int) X (rowsOf (bl s) b r h) = some (if rightX X (rowsOf (bl s) b d h) (d : Int) = true then (X, rowsOf (bl s) b d h, (d : Int), 0) else ([], [], 0, 2)) := by
  induction dd with
  | zero =>
    intro k r hk hr
    obtain rfl : r = d := by omega
    have hY : Few (rowsOf (bl s) b r h) := by
      refine ⟨by rw [rowsOf_len]; omega, fun l hl => ?_⟩
      unfold rowsOf at hl
      obtain ⟨q, _, rfl⟩ := List.mem_map.mp hl
      rw [rowOf_len]; omega
    rw [show k + 0 * (h + 2) + 1 = k + 1 by omega, switchboardref16_Import.l2, if_neg (by omega), rright_is X _ _ hX hY k hk, Option.bind_some]
    by_cases hx : rightX X (rowsOf (bl s) b r h) (r : Int) = true
    · rw [if_pos hx, if_pos hx]
    · rw [if_neg hx, if_neg hx]
  | succ dd ih =>
    intro k r hk hr
    have hle : (r + 1) * h ≤ d * h := Nat.mul_le_mul_right _ (by omega)
    rw [Nat.succ_mul] at hle
    have hnx := ih k (r + 1) hk (by omega)
    have h1 := ri_l3 s hs h d hh hd r (by omega) (b + r * h) (by omega) X (rowsOf (bl s) b r h) (by rw [rowsOf_len]; omega) h (k + dd * (h + 2) + 1) 0 (by omega)
    rw [show rowOf (bl s) (b + r * h) 0 = [] from rfl, show ((0 : Nat) : Int) = 0 from rfl, ← rowsOf_succ, Nat.add_zero, show b + r * h + h = b + (r + 1) * h by rw [Nat.succ_mul]; omega, hnx] at h1
    rw [show k + (dd + 1) * (h + 2) + 1 = (k + dd * (h + 2) + 1 + h + 1) + 1 by rw [Nat.succ_mul]; omega, switchboardref16_Import.l2, if_pos (by omega)]
    exact h1
theorem rimport_no (s : ByteArray) (h d : Int) (k : Nat) (hk : 2 ≤ k) : switchboardref16_Import.j1 k s h d true = some ([], [], 0, 2) := by
  obtain ⟨k, rfl⟩ : ∃ m, k = m + 1 := ⟨k - 1, by omega⟩
  rw [switchboardref16_Import.j1, if_pos rfl]
theorem few_rows (l : List UInt8) (a r c : Nat) (hr : r ≤ 8) (hc : c ≤ 8) : Few (rowsOf l a r c) := by
  refine ⟨by rw [rowsOf_len]; omega, fun q hq => ?_⟩
  unfold rowsOf at hq
  obtain ⟨z, _, rfl⟩ := List.mem_map.mp hq
  rw [rowOf_len]; omega
theorem rimport_j1 (s : ByteArray) (hs : s.size ≤ 1000000) (h d : Nat) (hh : h ≤ 8) (hd : d ≤ 8) (hl : s.size = 4 * (3 + 2 * (h * d))) (k : Nat) (hk : 1250000 ≤ k) :
    switchboardref16_Import.j1 k s (h : Int) (d : Int) false = some (if rightX (rowsOf (bl s) 2 h d) (rowsOf (bl s) (2 + h * d) d h) (d : Int) = true then (rowsOf (bl s) 2 h d, rowsOf (bl s) (2 + h * d) d h, (d : Int), 0) else ([], [], 0, 2)) := by
  have hhd : h * d ≤ 64 := Nat.mul_le_mul hh hd
  have b1 : h * (d + 2) ≤ 80 := Nat.mul_le_mul hh (show d + 2 ≤ 10 by omega)
  have b2 : d * (h + 2) ≤ 80 := Nat.mul_le_mul hd (show h + 2 ≤ 10 by omega)
  obtain ⟨k, rfl⟩ : ∃ m, k = m + d * (h + 2) + 1 + h * (d + 2) + 1 + 1 := ⟨k - (d * (h + 2) + 1 + h * (d + 2) + 1 + 1), by omega⟩
  have h0 := ri_l0 s hs h d hh hd (by omega) h (k + d * (h + 2) + 1) 0 (by omega)
  have h2 := ri_l2 s hs h d hh hd (2 + h * d) (by rw [Nat.mul_comm d h]; omega) (rowsOf (bl s) 2 h d) (few_rows _ _ _ _ hh hd) d k 0 (by omega) (by omega)
  rw [Nat.zero_mul, Nat.add_zero] at h0 h2
  rw [switchboardref16_Import.j1, if_neg (by decide)]
  exact h0.trans h2
theorem rimport_is (s : ByteArray) (hs : s.size ≤ 1000) (k : Nat) (hk : 1300000 ≤ k) : switchboardref16_Import.f k s = some (impB (bl s)) := by
  obtain ⟨k, rfl⟩ : ∃ m, k = m + 1 := ⟨k - 1, by omega⟩
  have hl := bl_len s
  unfold switchboardref16_Import.f impB
  by_cases h1 : (s.size : Int) < 12
  · rw [if_pos h1, switchboardref16_Import.j0, if_pos rfl, if_pos (.inl (by omega))]
  · by_cases h2 : (s.size : Int) % 4 = 0
    · rw [if_neg h1, show (((s.size : Int) % 4) != 0) = false from bne_eq_false_iff_eq.mpr h2, switchboardref16_Import.j0, if_neg (by decide), w64 (a := (s.size : Int) - 4) (by omega) (by omega), if_pos (by omega), if_pos (by omega), if_neg (by omega)]
      have e4 : ((s.size : Int) - 4).toNat = (bl s).length - 4 := by omega
      rw [e4, tl (s.extract _ _), bl_extract, ← hl, List.take_length]
      rw [ChunkSum.rsum_is _ (by rw [ByteArray.size_extract]; omega) k (by rw [ByteArray.size_extract]; omega), Option.bind_some]
      change (switchboardref16_four.f (crcI (bl (s.extract 0 ((bl s).length - 4))))).bind _ = _
      rw [rfour_is _ (by have := crcI_lo (bl (s.extract 0 ((bl s).length - 4))); omega) (by have := crcI_hi (bl (s.extract 0 ((bl s).length - 4))); omega), Option.bind_some, tl, bl_four, bl_extract, List.drop_zero]
      by_cases h3 : (bl s).drop ((bl s).length - 4) = fourB (crcI ((bl s).take ((bl s).length - 4)))
      · rw [if_pos h3.symm, if_neg (fun h => h h3)]
        have n0 : switchboardref16_at.f s 0 = some (numAt (bl s) 0) := at_is s (by omega) 0 0 rfl (by omega)
        have n1 : switchboardref16_at.f s 4 = some (numAt (bl s) 1) := at_is s (by omega) 4 1 rfl (by omega)
        rw [n0, Option.bind_some, n1, Option.bind_some]
        obtain ⟨H, hH⟩ : ∃ x, numAt (bl s) 0 = x := ⟨_, rfl⟩
        obtain ⟨D, hD⟩ : ∃ x, numAt (bl s) 1 = x := ⟨_, rfl⟩
        change (if numAt (bl s) 0 < 1 then switchboardref16_Import.j1 k s (numAt (bl s) 0) (numAt (bl s) 1) true else if numAt (bl s) 0 > 8 then switchboardref16_Import.j1 k s (numAt (bl s) 0) (numAt (bl s) 1) true else if numAt (bl s) 1 < 1 then switchboardref16_Import.j1 k s (numAt (bl s) 0) (numAt (bl s) 1) true else if numAt (bl s) 1 > 8 then switchboardref16_Import.j1 k s (numAt (bl s) 0) (numAt (bl s) 1) true else switchboardref16_Import.j1 k s (numAt (bl s) 0) (numAt (bl s) 1) ((((bl s).length : Nat) : Int) != wrap64 (12 + wrap64 (wrap64 (8 * numAt (bl s) 0) * numAt (bl s) 1)))) = _
        rw [hH, hD]
        by_cases a1 : H < 1
        · rw [if_pos a1, rimport_no _ _ _ _ (by omega), if_neg (by omega)]
        · by_cases a2 : H > 8
          · rw [if_neg a1, if_pos a2, rimport_no _ _ _ _ (by omega), if_neg (by omega)]
          · by_cases a3 : D < 1
            · rw [if_neg a1, if_neg a2, if_pos a3, rimport_no _ _ _ _ (by omega), if_neg (by omega)]
            · by_cases a4 : D > 8
              · rw [if_neg a1, if_neg a2, if_neg a3, if_pos a4, rimport_no _ _ _ _ (by omega), if_neg (by omega)]
              · rw [if_neg a1, if_neg a2, if_neg a3, if_neg a4]
                obtain ⟨h, rfl⟩ : ∃ n : Nat, H = (n : Int) := ⟨H.toNat, by omega⟩
                obtain ⟨d, rfl⟩ : ∃ n : Nat, D = (n : Int) := ⟨D.toNat, by omega⟩
                have hhd : h * d ≤ 64 := Nat.mul_le_mul (show h ≤ 8 by omega) (show d ≤ 8 by omega)
                have hm : (2 * (h : Int) * (d : Int)) = ((2 * (h * d) : Nat) : Int) := by rw [Int.natCast_mul, Int.natCast_mul, Int.mul_assoc]; rfl
                have hm8 : (8 * (h : Int) * (d : Int)) = ((8 * (h * d) : Nat) : Int) := by rw [Int.natCast_mul, Int.natCast_mul, Int.mul_assoc]; rfl
                rw [w64 (a := 8 * (h : Int)) (by omega) (by omega), hm8, w64 (a := ((8 * (h * d) : Nat) : Int)) (by omega) (by omega), w64 (a := 12 + ((8 * (h * d) : Nat) : Int)) (by omega) (by omega), show 12 + ((8 * (h * d) : Nat) : Int) = 4 * (3 + ((2 * (h * d) : Nat) : Int)) by omega, hm]
                by_cases a5 : ((bl s).length : Int) = 4 * (3 + ((2 * (h * d) : Nat) : Int))
                · rw [show ((((bl s).length : Nat) : Int) != 4 * (3 + ((2 * (h * d) : Nat) : Int))) = false from bne_eq_false_iff_eq.mpr a5, rimport_j1 s (by omega) h d (by omega) (by omega) (by omega) k (by omega), if_pos (show 1 ≤ (h : Int) ∧ (h : Int) ≤ 8 ∧ 1 ≤ (d : Int) ∧ (d : Int) ≤ 8 ∧ ((bl s).length : Int) = 4 * (3 + ((2 * (h * d) : Nat) : Int)) from ⟨by omega, by omega, by omega, by omega, a5⟩), Int.toNat_natCast, Int.toNat_natCast]
                · rw [show ((((bl s).length : Nat) : Int) != 4 * (3 + ((2 * (h * d) : Nat) : Int))) = true from bne_iff_ne.mpr a5, rimport_no _ _ _ _ (by omega), if_neg (fun (hx : 1 ≤ (h : Int) ∧ (h : Int) ≤ 8 ∧ 1 ≤ (d : Int) ∧ (d : Int) ≤ 8 ∧ ((bl s).length : Int) = 4 * (3 + ((2 * (h * d) : Nat) : Int))) => a5 hx.2.2.2.2)]
      · rw [if_neg (fun h => h3 h.symm), if_pos h3]
    · rw [if_neg h1, show (((s.size : Int) % 4) != 0) = true from bne_iff_ne.mpr h2, switchboardref16_Import.j0, if_pos rfl, if_pos (.inr (by omega))]
end Go.Proofs.Ytdcojbamfchgiaa.ChunkRim
