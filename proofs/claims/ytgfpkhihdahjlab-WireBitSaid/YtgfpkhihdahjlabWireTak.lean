/- What wire.Take answers, in plain words: the message of bytes, or the error. -/
import Derived.Test.YtgfpkhihdahjlabQWirex7
import Derived.Test.YtgfpkhihdahjlabWireFun
namespace Go.Proofs.Ytgfpkhihdahjlab.WireFun
open Go Go.RowKit Go.Proofs.Ytgfpkhihdahjlab.QWire Go.Proofs.YtgfpkhihdahjlabW.PrintWords Go.Proofs.YtgfpkhihdahjlabW.PrintLast Go.Proofs.Ytgfpkhihdahjlab.Given Go.Proofs.Ytgfpkhihdahjlab.CrcThy Go.Proofs.Ytgfpkhihdahjlab.WireThy

def zeros : List Int := [0, 0, 0, 0, 0, 0, 0, 0, 0, 0]
/-- The message of numbers, the first of them the length, the last one the sum. -/
def msgOf (X : List Int) (many : Nat) : List Int × List Int × Int :=
  if X.getD 11 0 = (((X.take many).drop 12).length : Int) ∧ RightB ((X.drop 1).take 10) (((X.take many).drop 12).map sg) = true then ((X.drop 1).take 10, ((X.take many).drop 12).map sg, 0) else (zeros, [], 2)
noncomputable def takeS (B : List UInt8) : List Int × List Int × Int :=
  if B.length < 52 ∨ (nums B).getD 0 0 ≠ (B.length : Int) - 4 ∨ B.length % 4 ≠ 0 then (zeros, [], 2)
  else if (nums B).getD (B.length / 4 - 1) 0 ≠ crcI ((B.drop 4).take (B.length - 8)) then (zeros, [], 9)
  else msgOf (nums B) (B.length / 4 - 1)
/-- What the twelve results are, as one. -/
def Tells (r : Option (Int × Int × Int × Int × Int × Int × Int × Int × Int × Int × List Int × Int)) (z : List Int × List Int × Int) : Prop :=
  ∃ m0 m1 m2 m3 m4 m5 m6 m7 m8 m9 v e, r = some (m0, m1, m2, m3, m4, m5, m6, m7, m8, m9, v, e) ∧ z = ([m0, m1, m2, m3, m4, m5, m6, m7, m8, m9], v, e)
theorem tells_err (e : Int) : Tells (some (0, 0, 0, 0, 0, 0, 0, 0, 0, 0, ([] : List Int), e)) (zeros, [], e) := ⟨_, _, _, _, _, _, _, _, _, _, _, _, rfl, rfl⟩
theorem take_l1 (l y : List Int) (m0 m1 m2 m3 m4 m5 m6 m7 m8 m9 : Int) (hl : 11 < l.length) (hy : y.length ≤ 100000) (hr : ∀ x ∈ y, 0 ≤ x ∧ x < 4294967296) (d : Nat) : ∀ (k i : Nat), d + y.length + 20 < k → i + d = y.length →
    wire_Take.l1 k l y (y.length : Int) (i : Int) m0 m1 m2 m3 m4 m5 m6 m7 m8 m9 ((y.take i).map sg) =
      if l.getD 11 0 = (y.length : Int) ∧ RightB [m0, m1, m2, m3, m4, m5, m6, m7, m8, m9] (y.map sg) = true then some (m0, m1, m2, m3, m4, m5, m6, m7, m8, m9, y.map sg, 0) else some (0, 0, 0, 0, 0, 0, 0, 0, 0, 0, ([] : List Int), 2) := by
  induction d with
  | zero =>
    intro k i hk hi
    obtain ⟨k, rfl⟩ : ∃ m, k = m + 1 := ⟨k - 1, by omega⟩
    rw [List.take_of_length_le (by omega)]
    simp only [wire_Take.l1]
    have h11 : rd l 11 = l.getD 11 0 := rfl
    rw [if_neg (by omega), if_pos (by omega), h11, List.length_map, right_is m0 m1 m2 m3 m4 m5 m6 m7 m8 m9 (y.map sg) (by rw [List.length_map]; omega) k (by rw [List.length_map]; omega), Option.bind_some]
    by_cases h1 : l.getD 11 0 = (y.length : Int)
    · rw [if_pos h1]
      by_cases h2 : RightB [m0, m1, m2, m3, m4, m5, m6, m7, m8, m9] (y.map sg) = true
      · rw [if_pos h2, if_pos ⟨h1, h2⟩]
      · rw [if_neg h2, if_neg (fun k => h2 k.2)]
    · rw [if_neg h1, if_neg (fun k => h1 k.1)]
  | succ d ih =>
    intro k i hk hi
    obtain ⟨k, rfl⟩ : ∃ m, k = m + 1 := ⟨k - 1, by omega⟩
    have hlt : i < y.length := by omega
    have hx := hr y[i] (List.getElem_mem hlt)
    simp only [wire_Take.l1]
    rw [if_pos (by omega), if_pos (by omega), if_pos (by omega), rd_nat y i hlt, signed_is hx.1 hx.2, Option.bind_some, if_pos (by rw [List.length_map, List.length_take]; omega), w64 (a := (i : Int) + 1) (by omega) (by omega)]
    have := ih k (i + 1) (by omega) (by omega)
    rw [show ((i + 1 : Nat) : Int) = (i : Int) + 1 from by omega, List.take_succ_eq_append_getElem hlt, List.map_append] at this
    exact this
theorem fill (X : List Int) (n i : Nat) (h : i < n) (hn : n ≤ X.length) : (X.take i ++ List.replicate (n - i) 0).set i (X.getD i 0) = X.take (i + 1) ++ List.replicate (n - (i + 1)) 0 := by
  rw [List.set_append_right _ _ (by rw [List.length_take]; omega), List.length_take, show i - min i X.length = 0 from by omega]
  rw [show n - i = (n - (i + 1)) + 1 from by omega, List.replicate_succ, List.set_cons_zero, List.take_succ_eq_append_getElem (by omega : i < X.length), List.append_assoc]
  rw [List.getD_eq_getElem?_getD, List.getElem?_eq_getElem (by omega : i < X.length)]; rfl
theorem getD_take (X : List Int) (n j : Nat) (h : j < n) : (X.take n).getD j 0 = X.getD j 0 := by
  rw [List.getD_eq_getElem?_getD, List.getD_eq_getElem?_getD, List.getElem?_take, if_pos h]
theorem ten (X : List Int) (h : 11 ≤ X.length) : (X.drop 1).take 10 = [X.getD 1 0, X.getD 2 0, X.getD 3 0, X.getD 4 0, X.getD 5 0, X.getD 6 0, X.getD 7 0, X.getD 8 0, X.getD 9 0, X.getD 10 0] := by
  match X, h with
  | x0 :: x1 :: x2 :: x3 :: x4 :: x5 :: x6 :: x7 :: x8 :: x9 :: x10 :: r, _ => simp
theorem take_l0 (s : ByteArray) (hs : s.size ≤ 100000) (many : Nat) (h12 : 12 ≤ many) (hm : 4 * many + 3 < s.size) (d : Nat) : ∀ (k i : Nat), d + 2 * many + 40 < k → i + d = many →
    Tells (wire_Take.l0 k s ((nums s.data.toList).take i ++ List.replicate (many - i) 0) (many : Int) (i : Int)) (msgOf (nums s.data.toList) many) := by
  have hX : many < (nums s.data.toList).length := by rw [nums_len, data_length]; omega
  induction d with
  | zero =>
    intro k i hk hi
    obtain ⟨k, rfl⟩ : ∃ m, k = m + 1 := ⟨k - 1, by omega⟩
    obtain rfl : i = many := by omega
    rw [Nat.sub_self, List.replicate_zero, List.append_nil]
    have hlen : ((nums s.data.toList).take i).length = i := by rw [List.length_take]; omega
    simp only [wire_Take.l0]
    rw [hlen, if_neg (by omega), if_pos (by omega), if_pos (by omega), if_pos (by omega), if_pos (by omega), if_pos (by omega), if_pos (by omega), if_pos (by omega), if_pos (by omega), if_pos (by omega), if_pos (by omega), if_pos (by omega), Option.bind_some]
    have g (j : Nat) (hj : j < 12) : rd ((nums s.data.toList).take i) (j : Int) = (nums s.data.toList).getD j 0 := by
      show ((nums s.data.toList).take i).getD j 0 = _
      exact getD_take _ _ _ (by omega)
    have g1 := g 1 (by omega); have g2 := g 2 (by omega); have g3 := g 3 (by omega); have g4 := g 4 (by omega); have g5 := g 5 (by omega); have g6 := g 6 (by omega); have g7 := g 7 (by omega); have g8 := g 8 (by omega); have g9 := g 9 (by omega); have g10 := g 10 (by omega)
    simp only [Int.cast_ofNat_Int] at g1 g2 g3 g4 g5 g6 g7 g8 g9 g10
    rw [g1, g2, g3, g4, g5, g6, g7, g8, g9, g10]
    have hdl : (((nums s.data.toList).take i).drop 12).length = i - 12 := by rw [List.length_drop, hlen]
    have := take_l1 ((nums s.data.toList).take i) (((nums s.data.toList).take i).drop 12) ((nums s.data.toList).getD 1 0) ((nums s.data.toList).getD 2 0) ((nums s.data.toList).getD 3 0) ((nums s.data.toList).getD 4 0) ((nums s.data.toList).getD 5 0) ((nums s.data.toList).getD 6 0) ((nums s.data.toList).getD 7 0) ((nums s.data.toList).getD 8 0) ((nums s.data.toList).getD 9 0) ((nums s.data.toList).getD 10 0) (by omega) (by omega)
      (fun x hx => nums_range s.data.toList x (List.mem_of_mem_take (List.mem_of_mem_drop hx))) (i - 12) k 0 (by omega) (by omega)
    rw [List.take_zero, List.map_nil, show ((0 : Nat) : Int) = 0 from rfl] at this
    rw [this, getD_take _ _ _ (by omega : 11 < i)]
    unfold msgOf
    rw [ten _ (by omega)]
    by_cases c : (nums s.data.toList).getD 11 0 = ((((nums s.data.toList).take i).drop 12).length : Int) ∧ RightB [(nums s.data.toList).getD 1 0, (nums s.data.toList).getD 2 0, (nums s.data.toList).getD 3 0, (nums s.data.toList).getD 4 0, (nums s.data.toList).getD 5 0, (nums s.data.toList).getD 6 0, (nums s.data.toList).getD 7 0, (nums s.data.toList).getD 8 0, (nums s.data.toList).getD 9 0, (nums s.data.toList).getD 10 0] ((((nums s.data.toList).take i).drop 12).map sg) = true
    · rw [if_pos c, if_pos c]; exact ⟨_, _, _, _, _, _, _, _, _, _, _, _, rfl, rfl⟩
    · rw [if_neg c, if_neg c]; exact tells_err 2
  | succ d ih =>
    intro k i hk hi
    obtain ⟨k, rfl⟩ : ∃ m, k = m + 1 := ⟨k - 1, by omega⟩
    simp only [wire_Take.l0]
    rw [if_pos (by omega), number_is s (by omega) i (by omega) k (by omega), Option.bind_some, if_pos (by omega), if_pos (by rw [List.length_append, List.length_take, List.length_replicate]; omega), Int.toNat_natCast, fill _ _ _ (by omega) (by omega), w64 (a := (i : Int) + 1) (by omega) (by omega)]
    have := ih k (i + 1) (by omega) (by omega)
    rw [show ((i + 1 : Nat) : Int) = (i : Int) + 1 from by omega] at this
    exact this
theorem extract_bytes (s : ByteArray) (a b : Nat) : (s.extract a b).data.toList = (s.data.toList.drop a).take (b - a) := by
  simp
theorem take_is (s : ByteArray) (hs : s.size ≤ 100000) (k : Nat) (hk : s.size + 100 ≤ k) : Tells (wire_Take.f k s) (takeS s.data.toList) := by
  obtain ⟨k, rfl⟩ : ∃ m, k = m + 1 := ⟨k - 1, by omega⟩
  have bad : ∀ b : Bool, b = true → Tells (wire_Take.j0 (k + 1) s b) (zeros, [], 2) := by
    intro b hb
    simp only [wire_Take.j0]
    rw [if_pos hb]; exact tells_err 2
  unfold wire_Take.f takeS
  rw [data_length]
  by_cases h1 : s.size < 52
  · rw [if_pos (by omega), if_pos (Or.inl h1)]; exact bad true rfl
  · rw [if_neg (by omega), show (0 : Int) = ((0 : Nat) : Int) from rfl, number_is s (by omega) 0 (by omega) (k + 1) (by omega), Option.bind_some, w64 (a := (s.size : Int) - 4) (by omega) (by omega)]
    by_cases h2 : (nums s.data.toList).getD 0 0 = (s.size : Int) - 4
    · rw [if_pos h2]
      by_cases h3 : s.size % 4 = 0
      · rw [if_neg (show ¬ (s.size < 52 ∨ (nums s.data.toList).getD 0 ((0 : Nat) : Int) ≠ (s.size : Int) - 4 ∨ s.size % 4 ≠ 0) from fun k => by rcases k with k | k | k; exact h1 k; exact k h2; exact k h3)]
        have e1 : wrap64 (wrap64 ((s.size : Int) / 4) - 1) = ((s.size / 4 - 1 : Nat) : Int) := by rw [w64 (a := (s.size : Int) / 4) (by omega) (by omega), w64 (by omega) (by omega)]; omega
        have e2 : wrap64 (4 * ((s.size / 4 - 1 : Nat) : Int)) = ((s.size - 4 : Nat) : Int) := by rw [w64 (by omega) (by omega)]; omega
        simp only [wire_Take.j0]
        rw [if_neg (by simp; omega), e1, number_is s (by omega) (s.size / 4 - 1) (by omega) k (by omega), Option.bind_some, e2, if_pos (by omega), if_pos (by omega), Int.toNat_natCast]
        have hc : crc_Sum.f (s.extract 4 (s.size - 4)) = some (crcI ((s.data.toList.drop 4).take (s.size - 8))) := by
          unfold crc_Sum.f
          rw [if_pos (by rw [ByteArray.size_extract]; omega), extract_bytes, show s.size - 4 - 4 = s.size - 8 from by omega]
        rw [hc, Option.bind_some]
        by_cases h4 : (nums s.data.toList).getD (s.size / 4 - 1) 0 = crcI ((s.data.toList.drop 4).take (s.size - 8))
        · rw [if_pos h4, if_neg (show ¬ ((nums s.data.toList).getD (s.size / 4 - 1) ((0 : Nat) : Int) ≠ _) from fun k => k h4), if_pos (by omega), Int.toNat_natCast, if_pos (by omega), Option.bind_some, List.length_replicate]
          have := take_l0 s hs (s.size / 4 - 1) (by omega) (by omega) (s.size / 4 - 1) k 0 (by omega) (by omega)
          rw [List.take_zero, List.nil_append, Nat.sub_zero] at this
          exact this
        · rw [if_neg h4, if_pos (show (nums s.data.toList).getD (s.size / 4 - 1) ((0 : Nat) : Int) ≠ _ from h4)]; exact tells_err 9
      · rw [if_pos (show (s.size < 52 ∨ (nums s.data.toList).getD 0 ((0 : Nat) : Int) ≠ (s.size : Int) - 4 ∨ s.size % 4 ≠ 0) from Or.inr (Or.inr h3))]
        exact bad _ (by simp; omega)
    · rw [if_neg h2, if_pos (show (s.size < 52 ∨ (nums s.data.toList).getD 0 ((0 : Nat) : Int) ≠ (s.size : Int) - 4 ∨ s.size % 4 ≠ 0) from Or.inr (Or.inl h2))]
      exact bad true rfl
end Go.Proofs.Ytgfpkhihdahjlab.WireFun
