/- What the references of layer 7 answer, in plain words. -/
import Derived.Test.YtgfpkhihdahjlabQWirex17
import Derived.Test.YtgfpkhihdahjlabQWirex18
import Derived.Test.YtgfpkhihdahjlabWireRefA
import Derived.Test.YtgfpkhihdahjlabWireTak
namespace Go.Proofs.Ytgfpkhihdahjlab.WireRef
open Go Go.RowKit Go.Proofs.Ytgfpkhihdahjlab.QWire Go.Proofs.YtgfpkhihdahjlabW.PrintWords Go.Proofs.YtgfpkhihdahjlabW.PrintLast Go.Proofs.Ytgfpkhihdahjlab.Given Go.Proofs.Ytgfpkhihdahjlab.CrcThy Go.Proofs.Ytgfpkhihdahjlab.WireThy Go.Proofs.Ytgfpkhihdahjlab.WireFun
theorem rat_is (s : ByteArray) (hs : s.size ≤ 140737488351232) (p i : Nat) (hp : p = 4 * i) (hi : 4 * i + 3 < s.size) : switchboardref07_at.f s (p : Int) = some ((nums s.data.toList).getD i 0) := by
  subst hp
  rw [nums_get i _ (by rw [data_length]; exact hi)]
  unfold switchboardref07_at.f num4
  rw [← bt_nat, ← bt_nat, ← bt_nat, ← bt_nat]
  have r0 := WireFun.bt_range s ((4 * i : Nat) : Int); have r1 := WireFun.bt_range s ((4 * i + 1 : Nat) : Int); have r2 := WireFun.bt_range s ((4 * i + 2 : Nat) : Int); have r3 := WireFun.bt_range s ((4 * i + 3 : Nat) : Int)
  have e1 : wrap64 (((4 * i : Nat) : Int) + 1) = ((4 * i + 1 : Nat) : Int) := by rw [w64 (by omega) (by omega)]; omega
  have e2 : wrap64 (((4 * i : Nat) : Int) + 2) = ((4 * i + 2 : Nat) : Int) := by rw [w64 (by omega) (by omega)]; omega
  have e3 : wrap64 (((4 * i : Nat) : Int) + 3) = ((4 * i + 3 : Nat) : Int) := by rw [w64 (by omega) (by omega)]; omega
  rw [e1, e2, e3, if_pos (by omega), if_pos (by omega), if_pos (by omega), if_pos (by omega), if_pos (by omega), if_pos (by omega), if_pos (by omega), if_pos (by omega)]
  generalize bt s ((4 * i : Nat) : Int) = b0 at *
  generalize bt s ((4 * i + 1 : Nat) : Int) = b1 at *
  generalize bt s ((4 * i + 2 : Nat) : Int) = b2 at *
  generalize bt s ((4 * i + 3 : Nat) : Int) = b3 at *
  rw [w64 (a := b0) (by omega) (by omega), w64 (a := b1) (by omega) (by omega), w64 (a := b2) (by omega) (by omega), w64 (a := b3) (by omega) (by omega), w64 (a := 256 * b1) (by omega) (by omega), w64 (a := 65536 * b2) (by omega) (by omega), w64 (a := 16777216 * b3) (by omega) (by omega), w64 (a := b0 + 256 * b1) (by omega) (by omega), w64 (a := b0 + 256 * b1 + 65536 * b2) (by omega) (by omega), w64 (by omega) (by omega)]
theorem rtake_l0 (s : ByteArray) (hs : s.size ≤ 100000) (many : Nat) (h12 : 12 ≤ many) (hm : 4 * many + 4 = s.size) (m0 m1 m2 m3 m4 m5 m6 m7 m8 m9 : Int) (d : Nat) : ∀ (k i : Nat), d + many + 40 < k → i + d = many - 12 →
    switchboardref07_Take.l0 k s ((48 + 4 * i : Nat) : Int) m0 m1 m2 m3 m4 m5 m6 m7 m8 m9 (((((nums s.data.toList).take many).drop 12).take i).map sg) =
      if (nums s.data.toList).getD 11 0 = ((((nums s.data.toList).take many).drop 12).length : Int) ∧ RightB [m0, m1, m2, m3, m4, m5, m6, m7, m8, m9] ((((nums s.data.toList).take many).drop 12).map sg) = true then some (m0, m1, m2, m3, m4, m5, m6, m7, m8, m9, (((nums s.data.toList).take many).drop 12).map sg, 0) else some (0, 0, 0, 0, 0, 0, 0, 0, 0, 0, ([] : List Int), 2) := by
  have hX : many < (nums s.data.toList).length := by rw [nums_len, data_length]; omega
  have hY : (((nums s.data.toList).take many).drop 12).length = many - 12 := by rw [List.length_drop, List.length_take]; omega
  induction d with
  | zero =>
    intro k i hk hi
    obtain ⟨k, rfl⟩ : ∃ m, k = m + 1 := ⟨k - 1, by omega⟩
    rw [List.take_of_length_le (by omega)]
    simp only [switchboardref07_Take.l0]
    rw [w64 (a := (s.size : Int) - 4) (by omega) (by omega), if_neg (by omega), show (44 : Int) = ((44 : Nat) : Int) from rfl, rat_is s (by omega) 44 11 rfl (by omega), Option.bind_some, List.length_map, rright_is m0 m1 m2 m3 m4 m5 m6 m7 m8 m9 _ (by rw [List.length_map]; omega) k (by rw [List.length_map]; omega), Option.bind_some]
    by_cases h1 : (nums s.data.toList).getD 11 0 = ((((nums s.data.toList).take many).drop 12).length : Int)
    · rw [if_pos h1]
      by_cases h2 : RightB [m0, m1, m2, m3, m4, m5, m6, m7, m8, m9] ((((nums s.data.toList).take many).drop 12).map sg) = true
      · rw [if_pos h2, if_pos ⟨h1, h2⟩]
      · rw [if_neg h2, if_neg (fun k => h2 k.2)]
    · rw [if_neg h1, if_neg (fun k => h1 k.1)]
  | succ d ih =>
    intro k i hk hi
    obtain ⟨k, rfl⟩ : ∃ m, k = m + 1 := ⟨k - 1, by omega⟩
    have hlt : i < (((nums s.data.toList).take many).drop 12).length := by omega
    have hg : (((nums s.data.toList).take many).drop 12)[i] = (nums s.data.toList).getD (12 + i) 0 := by
      rw [List.getElem_drop, List.getElem_take, List.getD_eq_getElem?_getD, List.getElem?_eq_getElem (by omega)]; rfl
    have hx := nums_range s.data.toList _ (List.mem_of_mem_take (List.mem_of_mem_drop (List.getElem_mem hlt)))
    have ih2 := ih k (i + 1) (by omega) (by omega)
    rw [List.take_succ_eq_append_getElem hlt, List.map_append, hg] at ih2
    rw [hg] at hx
    simp only [switchboardref07_Take.l0]
    rw [w64 (a := (s.size : Int) - 4) (by omega) (by omega), if_pos (by omega), rat_is s (by omega) (48 + 4 * i) (12 + i) (by omega) (by omega), Option.bind_some, w64 (a := ((48 + 4 * i : Nat) : Int) + 4) (by omega) (by omega), show ((48 + 4 * i : Nat) : Int) + 4 = ((48 + 4 * (i + 1) : Nat) : Int) from by omega]
    have hl : (((((nums s.data.toList).take many).drop 12).take i).map sg).length < 17592186044416 := by rw [List.length_map, List.length_take]; omega
    by_cases h : (nums s.data.toList).getD (12 + i) 0 > 2147483647
    · rw [if_pos h, if_pos hl, w64 (by omega) (by omega)]
      have e : sg ((nums s.data.toList).getD (12 + i) 0) = (nums s.data.toList).getD (12 + i) 0 - 4294967296 := by unfold sg; rw [if_pos h]
      rw [List.map_singleton, e] at ih2
      exact ih2
    · rw [if_neg h, if_pos hl]
      have e : sg ((nums s.data.toList).getD (12 + i) 0) = (nums s.data.toList).getD (12 + i) 0 := by unfold sg; rw [if_neg h]
      rw [List.map_singleton, e] at ih2
      exact ih2
theorem rtake_is (s : ByteArray) (hs : s.size ≤ 10000) (k : Nat) (hk : 10 * s.size + 200 ≤ k) : Tells (switchboardref07_Take.f k s) (takeS s.data.toList) := by
  obtain ⟨k, rfl⟩ : ∃ m, k = m + 1 := ⟨k - 1, by omega⟩
  have bad : ∀ b : Bool, b = true → Tells (switchboardref07_Take.j0 (k + 1) s b) (zeros, [], 2) := by
    intro b hb
    simp only [switchboardref07_Take.j0]
    rw [if_pos hb]; exact tells_err 2
  unfold switchboardref07_Take.f takeS
  rw [data_length]
  by_cases h1 : s.size < 52
  · rw [if_pos (by omega), if_pos (Or.inl h1)]; exact bad true rfl
  · have a0 := rat_is s (by omega) 0 0 rfl (by omega)
    rw [show ((0 : Nat) : Int) = 0 from rfl] at a0
    rw [if_neg (by omega), a0, Option.bind_some, w64 (a := (s.size : Int) - 4) (by omega) (by omega)]
    by_cases h2 : (nums s.data.toList).getD 0 0 = (s.size : Int) - 4
    · rw [if_pos h2]
      by_cases h3 : s.size % 4 = 0
      · rw [if_neg (show ¬ (s.size < 52 ∨ (nums s.data.toList).getD 0 0 ≠ (s.size : Int) - 4 ∨ s.size % 4 ≠ 0) from fun k => by rcases k with k | k | k; exact h1 k; exact k h2; exact k h3)]
        have e2 : wrap64 ((s.size : Int) - 4) = ((s.size - 4 : Nat) : Int) := by rw [w64 (by omega) (by omega)]; omega
        simp only [switchboardref07_Take.j0]
        rw [if_neg (by simp; omega), e2, rat_is s (by omega) (s.size - 4) (s.size / 4 - 1) (by omega) (by omega), Option.bind_some, if_pos (by omega), if_pos (by omega), Int.toNat_natCast]
        have hc : switchboardref06_Sum.f k (s.extract 4 (s.size - 4)) = some (crcI ((s.data.toList.drop 4).take (s.size - 8))) := by
          have z : (s.extract 4 (s.size - 4)).size ≤ s.size := by rw [ByteArray.size_extract]; omega
          rw [rsum_is _ (by omega) k (by omega), extract_bytes, show s.size - 4 - 4 = s.size - 8 from by omega]
        rw [hc, Option.bind_some]
        by_cases h4 : (nums s.data.toList).getD (s.size / 4 - 1) 0 = crcI ((s.data.toList.drop 4).take (s.size - 8))
        · rw [if_pos h4, if_neg (fun k => k h4)]
          have g (p i : Nat) (hp : p = 4 * i) (h : i ≤ 12) := rat_is s (by omega) p i hp (by omega)
          have g1 := g 4 1 rfl (by omega); have g2 := g 8 2 rfl (by omega); have g3 := g 12 3 rfl (by omega); have g4 := g 16 4 rfl (by omega); have g5 := g 20 5 rfl (by omega); have g6 := g 24 6 rfl (by omega); have g7 := g 28 7 rfl (by omega); have g8 := g 32 8 rfl (by omega); have g9 := g 36 9 rfl (by omega); have g10 := g 40 10 rfl (by omega)
          simp only [Int.cast_ofNat_Int] at g1 g2 g3 g4 g5 g6 g7 g8 g9 g10
          rw [g1, g2, g3, g4, g5, g6, g7, g8, g9, g10]
          simp only [Option.bind_some]
          have := rtake_l0 s (by omega) (s.size / 4 - 1) (by omega) (by omega) ((nums s.data.toList).getD 1 0) ((nums s.data.toList).getD 2 0) ((nums s.data.toList).getD 3 0) ((nums s.data.toList).getD 4 0) ((nums s.data.toList).getD 5 0) ((nums s.data.toList).getD 6 0) ((nums s.data.toList).getD 7 0) ((nums s.data.toList).getD 8 0) ((nums s.data.toList).getD 9 0) ((nums s.data.toList).getD 10 0) (s.size / 4 - 1 - 12) k 0 (by omega) (by omega)
          rw [List.take_zero, List.map_nil, show ((48 + 4 * 0 : Nat) : Int) = 48 from rfl] at this
          rw [this]
          unfold msgOf
          rw [ten _ (by rw [nums_len, data_length]; omega)]
          by_cases c : (nums s.data.toList).getD 11 0 = ((((nums s.data.toList).take (s.size / 4 - 1)).drop 12).length : Int) ∧ RightB [(nums s.data.toList).getD 1 0, (nums s.data.toList).getD 2 0, (nums s.data.toList).getD 3 0, (nums s.data.toList).getD 4 0, (nums s.data.toList).getD 5 0, (nums s.data.toList).getD 6 0, (nums s.data.toList).getD 7 0, (nums s.data.toList).getD 8 0, (nums s.data.toList).getD 9 0, (nums s.data.toList).getD 10 0] ((((nums s.data.toList).take (s.size / 4 - 1)).drop 12).map sg) = true
          · rw [if_pos c, if_pos c]; exact ⟨_, _, _, _, _, _, _, _, _, _, _, _, rfl, rfl⟩
          · rw [if_neg c, if_neg c]; exact tells_err 2
        · rw [if_neg h4, if_pos h4]; exact tells_err 9
      · rw [if_pos (Or.inr (Or.inr h3))]
        exact bad _ (by simp; omega)
    · rw [if_neg h2, if_pos (Or.inr (Or.inl h2))]
      exact bad true rfl
end Go.Proofs.Ytgfpkhihdahjlab.WireRef
