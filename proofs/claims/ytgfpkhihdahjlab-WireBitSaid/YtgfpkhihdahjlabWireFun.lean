/- What the printed functions of layer 7 answer, in plain words: the bytes of a message, and the message of bytes. -/
import Derived.Test.YtgfpkhihdahjlabQWirex1
import Derived.Test.YtgfpkhihdahjlabQWirex2
import Derived.Test.YtgfpkhihdahjlabQWirex3
import Derived.Test.YtgfpkhihdahjlabQWirex4
import Derived.Test.YtgfpkhihdahjlabQWirex5
import Derived.Test.YtgfpkhihdahjlabQWirex6
import Derived.Test.YtgfpkhihdahjlabWireThy
namespace Go.Proofs.Ytgfpkhihdahjlab.WireFun
open Go Go.RowKit Go.Proofs.Ytgfpkhihdahjlab.QWire Go.Proofs.YtgfpkhihdahjlabW.PrintWords Go.Proofs.YtgfpkhihdahjlabW.PrintLast Go.Proofs.Ytgfpkhihdahjlab.Given Go.Proofs.Ytgfpkhihdahjlab.CrcThy Go.Proofs.Ytgfpkhihdahjlab.WireThy

theorem w64 {a : Int} (h1 : -9223372036854775808 ≤ a) (h2 : a ≤ 9223372036854775807) : wrap64 a = a := by unfold wrap64; omega
def fourS (n : Int) : ByteArray := strOfNums [n % 256, n / 256 % 256, n / 65536 % 256, n / 16777216 % 256]
theorem fourS_bytes (n : Int) : (fourS n).data.toList = fourB n := by unfold fourS strOfNums fourB; simp
theorem fourS_size (n : Int) : (fourS n).size = 4 := rfl
theorem four_is (n : Int) : wire_four.f n = some (fourS n) := rfl
theorem bt_nat (s : ByteArray) (p : Nat) : bt s (p : Int) = ((s.data.toList.getD p 0).toNat : Int) := by
  rw [← rd_bytesOf]; unfold rd bytesOf
  rw [List.getD_eq_getElem?_getD, List.getD_eq_getElem?_getD, List.getElem?_map, Int.toNat_natCast]
  cases s.data.toList[p]? <;> rfl
theorem or_join {x b : Int} (hx : 0 ≤ x) (hx2 : x < 281474976710656) (hb : 0 ≤ b) (hb2 : b < 256) : Go.bits .or .i64 (x * 256) b = x * 256 + b :=
  bits_join .i64 63 (by decide) (fun n h0 h1 => by rw [IntKind.wrap_i64]; omega) 8 (x * 256) b (by omega) (by omega) (by omega) hb (by omega) (by omega)
theorem bt_range (s : ByteArray) (p : Int) : 0 ≤ bt s p ∧ bt s p ≤ 255 := by
  unfold bt; split
  · rename_i h
    have := (s[p.toNat]'h).toNat_lt; omega
  · omega
theorem number_step (s : ByteArray) (hs : s.size ≤ 140737488351232) (i : Nat) (hi : 4 * i + 3 < s.size) (k : Nat) (n j : Int) (j0 : 0 ≤ j) (j3 : j ≤ 3) (n0 : 0 ≤ n) (n1 : n < 281474976710656) :
    wire_number.l0 (k + 1) s (i : Int) n j = wire_number.l0 k s (i : Int) (n * 256 + bt s (4 * (i : Int) + j)) (j - 1) := by
  have r := bt_range s (4 * (i : Int) + j)
  simp only [wire_number.l0]
  rw [if_pos (by omega), w64 (a := 4 * (i : Int)) (by omega) (by omega), w64 (a := 4 * (i : Int) + j) (by omega) (by omega), if_pos (by omega), if_pos (by omega), w64 (a := n * 256) (by omega) (by omega), w64 (a := bt s (4 * (i : Int) + j)) (by omega) (by omega), or_join n0 n1 r.1 (by omega), w64 (a := j - 1) (by omega) (by omega)]
/-- The i-th number of bytes. -/
theorem number_is (s : ByteArray) (hs : s.size ≤ 140737488351232) (i : Nat) (hi : 4 * i + 3 < s.size) (k : Nat) (hk : 5 ≤ k) : wire_number.f k s (i : Int) = some ((nums s.data.toList).getD i 0) := by
  obtain ⟨k, rfl⟩ : ∃ m, k = m + 5 := ⟨k - 5, by omega⟩
  rw [nums_get i _ (by rw [data_length]; exact hi)]
  unfold wire_number.f num4
  rw [← bt_nat, ← bt_nat, ← bt_nat, ← bt_nat]
  have r0 := bt_range s (4 * (i : Int) + 0); have r1 := bt_range s (4 * (i : Int) + 1); have r2 := bt_range s (4 * (i : Int) + 2); have r3 := bt_range s (4 * (i : Int) + 3)
  rw [number_step s hs i hi (k + 4) 0 3 (by omega) (by omega) (by omega) (by omega)]
  rw [show (3 : Int) - 1 = 2 from rfl, number_step s hs i hi (k + 3) _ 2 (by omega) (by omega) (by omega) (by omega)]
  rw [show (2 : Int) - 1 = 1 from rfl, number_step s hs i hi (k + 2) _ 1 (by omega) (by omega) (by omega) (by omega)]
  rw [show (1 : Int) - 1 = 0 from rfl, number_step s hs i hi (k + 1) _ 0 (by omega) (by omega) (by omega) (by omega)]
  simp only [wire_number.l0]
  rw [if_neg (by omega), show ((4 * i : Nat) : Int) = 4 * (i : Int) + 0 from by omega, show ((4 * i + 1 : Nat) : Int) = 4 * (i : Int) + 1 from by omega, show ((4 * i + 2 : Nat) : Int) = 4 * (i : Int) + 2 from by omega, show ((4 * i + 3 : Nat) : Int) = 4 * (i : Int) + 3 from by omega]
  congr 1; omega
theorem signed_is {x : Int} (h0 : 0 ≤ x) (h1 : x < 4294967296) : wire_signed.f x = some (sg x) := by
  unfold wire_signed.f sg wrap32
  congr 1
  split
  · rw [w64 (by omega) (by omega)]; omega
  · rw [w64 (by omega) (by omega)]; omega

/-- What the ten numbers are, and Vec's. -/
def HdOk (m : List Int) : Prop := ∀ n ∈ m, 0 ≤ n ∧ n ≤ 2147483647
def VecOk (v : List Int) : Prop := ∀ n ∈ v, -2147483648 ≤ n ∧ n ≤ 2147483647
instance (m : List Int) : Decidable (HdOk m) := by unfold HdOk; exact inferInstance
instance (v : List Int) : Decidable (VecOk v) := by unfold VecOk; exact inferInstance
def RightB (m : List Int) (v : List Int) : Bool := decide (HdOk m) && (decide (VecOk v) && (decide (1 ≤ m.headD 0) && (decide (m.headD 0 ≤ 4) && decide (v.length ≤ 8))))
theorem rd_nat (l : List Int) (i : Nat) (h : i < l.length) : rd l (i : Int) = l[i] := by
  unfold rd; rw [Int.toNat_natCast, List.getD_eq_getElem?_getD, List.getElem?_eq_getElem h]; rfl
theorem all_drop {P : Int → Prop} (l : List Int) (i : Nat) (h : i < l.length) : (∀ n ∈ l.drop i, P n) ↔ (P l[i] ∧ ∀ n ∈ l.drop (i + 1), P n) := by
  rw [List.drop_eq_getElem_cons h, List.forall_mem_cons]
theorem right_l1 (m0 m1 m2 m3 m4 m5 m6 m7 m8 m9 : Int) (v : List Int) (hv : v.length ≤ 9223372036854775807) (d : Nat) : ∀ (k i : Nat), d < k → i + d = v.length →
    wire_Right.l1 k v (v.length : Int) (i : Int) m0 m1 m2 m3 m4 m5 m6 m7 m8 m9 v = some (decide (VecOk (v.drop i)) && (decide (1 ≤ m0) && (decide (m0 ≤ 4) && decide (v.length ≤ 8)))) := by
  induction d with
  | zero =>
    intro k i hk hi
    obtain ⟨k, rfl⟩ : ∃ m, k = m + 1 := ⟨k - 1, by omega⟩
    simp only [wire_Right.l1]
    rw [if_neg (by omega), List.drop_of_length_le (by omega)]
    have e : decide (VecOk []) = true := by decide
    rw [e, Bool.true_and]
    by_cases h1 : m0 ≥ 1
    · rw [if_pos h1, decide_eq_true (p := 1 ≤ m0) h1, Bool.true_and]
      by_cases h2 : m0 ≤ 4
      · rw [if_pos h2, decide_eq_true h2, Bool.true_and]
        congr 1; rw [decide_eq_decide]; omega
      · rw [if_neg h2, decide_eq_false h2]; rfl
    · rw [if_neg h1, decide_eq_false (p := 1 ≤ m0) h1]; rfl
  | succ d ih =>
    intro k i hk hi
    obtain ⟨k, rfl⟩ : ∃ m, k = m + 1 := ⟨k - 1, by omega⟩
    have hlt : i < v.length := by omega
    simp only [wire_Right.l1]
    rw [if_pos (by omega), if_pos (by omega), if_pos (by omega), rd_nat v i hlt, w64 (a := (i : Int) + 1) (by omega) (by omega)]
    have ih2 := ih k (i + 1) (by omega) (by omega)
    rw [show ((i + 1 : Nat) : Int) = (i : Int) + 1 from by omega] at ih2
    have hd := all_drop (P := fun n => -2147483648 ≤ n ∧ n ≤ 2147483647) v i hlt
    by_cases h1 : v[i] < -2147483648
    · rw [if_pos h1, decide_eq_false (fun k => by have := (hd.1 k).1.1; omega)]; rfl
    · rw [if_neg h1]
      by_cases h2 : v[i] > 2147483647
      · rw [if_pos h2, decide_eq_false (fun k => by have := (hd.1 k).1.2; omega)]; rfl
      · rw [if_neg h2, ih2]
        congr 2
        rw [decide_eq_decide]
        exact ⟨fun k => hd.2 ⟨⟨by omega, by omega⟩, k⟩, fun k => (hd.1 k).2⟩
theorem right_l0 (m0 m1 m2 m3 m4 m5 m6 m7 m8 m9 : Int) (v m : List Int) (hv : v.length ≤ 9223372036854775807) (hm : m.length = 10) (d : Nat) : ∀ (k i : Nat), d + v.length + 1 < k → i + d = m.length →
    wire_Right.l0 k m (m.length : Int) (i : Int) m0 m1 m2 m3 m4 m5 m6 m7 m8 m9 v = some (decide (HdOk (m.drop i)) && (decide (VecOk v) && (decide (1 ≤ m0) && (decide (m0 ≤ 4) && decide (v.length ≤ 8))))) := by
  induction d with
  | zero =>
    intro k i hk hi
    obtain ⟨k, rfl⟩ : ∃ m, k = m + 1 := ⟨k - 1, by omega⟩
    simp only [wire_Right.l0]
    have := right_l1 m0 m1 m2 m3 m4 m5 m6 m7 m8 m9 v hv v.length k 0 (by omega) (by omega)
    rw [List.drop_zero] at this
    rw [if_neg (by omega), show (0 : Int) = ((0 : Nat) : Int) from rfl, this, List.drop_of_length_le (by omega)]
    rfl
  | succ d ih =>
    intro k i hk hi
    obtain ⟨k, rfl⟩ : ∃ m, k = m + 1 := ⟨k - 1, by omega⟩
    have hlt : i < m.length := by omega
    simp only [wire_Right.l0]
    rw [if_pos (by omega), if_pos (by omega), if_pos (by omega), rd_nat m i hlt, w64 (a := (i : Int) + 1) (by omega) (by omega)]
    have ih2 := ih k (i + 1) (by omega) (by omega)
    rw [show ((i + 1 : Nat) : Int) = (i : Int) + 1 from by omega] at ih2
    have hd := all_drop (P := fun n => 0 ≤ n ∧ n ≤ 2147483647) m i hlt
    by_cases h1 : m[i] < 0
    · rw [if_pos h1, decide_eq_false (fun k => by have := (hd.1 k).1.1; omega)]; rfl
    · rw [if_neg h1]
      by_cases h2 : m[i] > 2147483647
      · rw [if_pos h2, decide_eq_false (fun k => by have := (hd.1 k).1.2; omega)]; rfl
      · rw [if_neg h2, ih2]
        congr 2
        rw [decide_eq_decide]
        exact ⟨fun k => hd.2 ⟨⟨by omega, by omega⟩, k⟩, fun k => (hd.1 k).2⟩
theorem right_is (m0 m1 m2 m3 m4 m5 m6 m7 m8 m9 : Int) (v : List Int) (hv : v.length ≤ 9223372036854775807) (k : Nat) (hk : v.length + 12 ≤ k) :
    wire_Right.f k m0 m1 m2 m3 m4 m5 m6 m7 m8 m9 v = some (RightB [m0, m1, m2, m3, m4, m5, m6, m7, m8, m9] v) := by
  unfold wire_Right.f wire_numbers.f
  rw [Option.bind_some]
  exact right_l0 m0 m1 m2 m3 m4 m5 m6 m7 m8 m9 v [m0, m1, m2, m3, m4, m5, m6, m7, m8, m9] hv rfl 10 k 0 (by omega) rfl
/-- A message's numbers, and the bytes behind the first four, without the sum. -/
def listOf (m v : List Int) : List Int := m ++ [(v.length : Int)] ++ v
def bodyB (m v : List Int) : List UInt8 := flat (listOf m v)
/-- All its bytes. -/
noncomputable def putB (m v : List Int) : List UInt8 := flat ((4 * ((listOf m v).length : Int) + 4) :: (listOf m v ++ [crcI (bodyB m v)]))
theorem put_l0 (x : List Int) (d : Nat) : ∀ (k i : Nat) (s : ByteArray), d < k → i + d = x.length → s.size + 4 * d ≤ 140737488351000 → s.data.toList = flat (x.take i) →
    ∃ t : ByteArray, wire_Put.l0 k s x (x.length : Int) (i : Int) = some (t, 0) ∧ t.data.toList = flat ((4 * (x.length : Int) + 4) :: (x ++ [crcI (flat x)])) := by
  induction d with
  | zero =>
    intro k i s hk hi hs e
    obtain ⟨k, rfl⟩ : ∃ m, k = m + 1 := ⟨k - 1, by omega⟩
    rw [List.take_of_length_le (by omega)] at e
    have hlen : s.size = 4 * x.length := by rw [← data_length, e, flat_len]
    simp only [wire_Put.l0]
    rw [if_neg (by omega)]
    have hc : crc_Sum.f s = some (crcI s.data.toList) := by unfold crc_Sum.f; rw [if_pos (by omega)]
    rw [hc, Option.bind_some, four_is, Option.bind_some, if_pos (by rw [fourS_size]; omega), four_is, Option.bind_some, if_pos (by rw [fourS_size, ByteArray.size_append, fourS_size]; omega)]
    refine ⟨_, rfl, ?_⟩
    rw [ByteArray.size_append, fourS_size]
    simp only [ByteArray.data_append, Array.toList_append, fourS_bytes, e]
    rw [flat_cons, flat_append, flat_cons, flat_nil, List.append_nil]
    congr 2; omega
  | succ d ih =>
    intro k i s hk hi hs e
    obtain ⟨k, rfl⟩ : ∃ m, k = m + 1 := ⟨k - 1, by omega⟩
    have hlt : i < x.length := by omega
    simp only [wire_Put.l0]
    rw [if_pos (by omega), if_pos (by omega), if_pos (by omega), rd_nat x i hlt, four_is, Option.bind_some, if_pos (by rw [fourS_size]; omega)]
    have hlen : s.size = 4 * i := by rw [← data_length, e, flat_len, List.length_take]; omega
    rw [w64 (a := (i : Int) + 1) (by omega) (by omega)]
    have := ih k (i + 1) (s ++ fourS x[i]) (by omega) (by omega) (by rw [ByteArray.size_append, fourS_size]; omega) (by
      rw [ByteArray.data_append, Array.toList_append, fourS_bytes, e, List.take_succ_eq_append_getElem hlt, flat_append, flat_cons, flat_nil, List.append_nil])
    rw [show ((i + 1 : Nat) : Int) = (i : Int) + 1 from by omega] at this
    exact this
theorem put_is (m0 m1 m2 m3 m4 m5 m6 m7 m8 m9 : Int) (v : List Int) (hv : v.length ≤ 9223372036854775807) (k : Nat) (hk : v.length + 13 ≤ k) :
    if RightB [m0, m1, m2, m3, m4, m5, m6, m7, m8, m9] v = true then ∃ t : ByteArray, wire_Put.f k m0 m1 m2 m3 m4 m5 m6 m7 m8 m9 v = some (t, 0) ∧ t.data.toList = putB [m0, m1, m2, m3, m4, m5, m6, m7, m8, m9] v
    else wire_Put.f k m0 m1 m2 m3 m4 m5 m6 m7 m8 m9 v = some (⟨#[]⟩, 1) := by
  unfold wire_Put.f
  rw [right_is m0 m1 m2 m3 m4 m5 m6 m7 m8 m9 v hv k (by omega), Option.bind_some]
  by_cases h : RightB [m0, m1, m2, m3, m4, m5, m6, m7, m8, m9] v = true
  · rw [if_pos h, if_pos h]
    have hv8 : v.length ≤ 8 := by
      unfold RightB at h
      simp only [Bool.and_eq_true, decide_eq_true_eq] at h
      exact h.2.2.2.2
    unfold wire_numbers.f
    rw [Option.bind_some, Option.bind_some, if_pos (by simp), Option.bind_some, if_pos (by simp; omega), Option.bind_some]
    have := put_l0 (listOf [m0, m1, m2, m3, m4, m5, m6, m7, m8, m9] v) (v.length + 11) k 0 ⟨#[]⟩ (by omega) (by simp [listOf] <;> omega) (by show 0 + _ ≤ _; omega) rfl
    exact this
  · rw [if_neg h, if_neg h]
end Go.Proofs.Ytgfpkhihdahjlab.WireFun
