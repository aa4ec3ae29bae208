/- What the references of layer 7 answer, in plain words. -/
import Derived.Test.YtgfpkhihdahjlabQWirex13
import Derived.Test.YtgfpkhihdahjlabQWirex14
import Derived.Test.YtgfpkhihdahjlabWireRefA
import Derived.Test.YtgfpkhihdahjlabWireLaw
namespace Go.Proofs.Ytgfpkhihdahjlab.WireRef
open Go Go.RowKit Go.Proofs.Ytgfpkhihdahjlab.QWire Go.Proofs.YtgfpkhihdahjlabW.PrintWords Go.Proofs.YtgfpkhihdahjlabW.PrintLast Go.Proofs.Ytgfpkhihdahjlab.Given Go.Proofs.Ytgfpkhihdahjlab.CrcThy Go.Proofs.Ytgfpkhihdahjlab.WireThy Go.Proofs.Ytgfpkhihdahjlab.WireFun
open Go.Proofs.Ytgfpkhihdahjlab.WireLaw
theorem rfour_is (n : Int) (h0 : -4294967296 ≤ n) (h1 : n ≤ 4611686018427387904) : switchboardref07_four.f n = some (fourS n) := by
  have tp (x k : Int) (hx : 0 ≤ x) : Int.tdiv x k = x / k := Int.tdiv_eq_ediv_of_nonneg hx
  have tm (x k : Int) (hx : 0 ≤ x) : Int.tmod x k = x % k := Int.tmod_eq_emod_of_nonneg hx
  unfold switchboardref07_four.f
  by_cases h : n < 0
  · rw [if_pos h, w64 (a := n + 4294967296) (by omega) (by omega), tp _ 256 (by omega), tp _ 65536 (by omega), tp _ 16777216 (by omega), w64 (a := (n + 4294967296) / 256) (by omega) (by omega), w64 (a := (n + 4294967296) / 65536) (by omega) (by omega), w64 (a := (n + 4294967296) / 16777216) (by omega) (by omega), tm _ _ (by omega), tm _ _ (by omega), tm _ _ (by omega), tm _ _ (by omega)]
    unfold fourS
    rw [show (n + 4294967296) % 256 % 256 = n % 256 from by omega, show (n + 4294967296) / 256 % 256 % 256 = n / 256 % 256 from by omega, show (n + 4294967296) / 65536 % 256 % 256 = n / 65536 % 256 from by omega, show (n + 4294967296) / 16777216 % 256 % 256 = n / 16777216 % 256 from by omega]
  · rw [if_neg h, tp _ 256 (by omega), tp _ 65536 (by omega), tp _ 16777216 (by omega), w64 (a := n / 256) (by omega) (by omega), w64 (a := n / 65536) (by omega) (by omega), w64 (a := n / 16777216) (by omega) (by omega), tm _ _ (by omega), tm _ _ (by omega), tm _ _ (by omega), tm _ _ (by omega)]
    unfold fourS
    rw [show n % 256 % 256 = n % 256 from by omega, show n / 256 % 256 % 256 = n / 256 % 256 from by omega, show n / 65536 % 256 % 256 = n / 65536 % 256 from by omega, show n / 16777216 % 256 % 256 = n / 16777216 % 256 from by omega]
theorem rput_l0 (x : List Int) (hx : x.length ≤ 1000) (hr : ∀ n ∈ x, -4294967296 ≤ n ∧ n ≤ 4611686018427387904) (d : Nat) : ∀ (k i : Nat) (s : ByteArray), d + 41000 < k → i + d = x.length → s.data.toList = flat (x.take i) →
    ∃ t : ByteArray, switchboardref07_Put.l0 k s x (x.length : Int) (i : Int) = some t ∧ t.data.toList = flat ((4 * (x.length : Int) + 4) :: (x ++ [crcI (flat x)])) := by
  induction d with
  | zero =>
    intro k i s hk hi e
    obtain ⟨k, rfl⟩ : ∃ m, k = m + 1 := ⟨k - 1, by omega⟩
    rw [List.take_of_length_le (by omega)] at e
    have hlen : s.size = 4 * x.length := by rw [← data_length, e, flat_len]
    have c0 := crcI_lo s.data.toList; have c1 := crcI_hi s.data.toList
    simp only [switchboardref07_Put.l0]
    rw [if_neg (by omega), rsum_is s (by omega) k (by omega), Option.bind_some, rfour_is _ (by omega) (by omega), Option.bind_some, if_pos (by rw [fourS_size]; omega), rfour_is _ (by omega) (by rw [ByteArray.size_append, fourS_size]; omega), Option.bind_some, if_pos (by rw [fourS_size, ByteArray.size_append, fourS_size]; omega)]
    refine ⟨_, rfl, ?_⟩
    rw [ByteArray.size_append, fourS_size]
    simp only [ByteArray.data_append, Array.toList_append, fourS_bytes, e]
    rw [flat_cons, flat_append, flat_cons, flat_nil, List.append_nil]
    congr 2; omega
  | succ d ih =>
    intro k i s hk hi e
    obtain ⟨k, rfl⟩ : ∃ m, k = m + 1 := ⟨k - 1, by omega⟩
    have hlt : i < x.length := by omega
    have hb := hr x[i] (List.getElem_mem hlt)
    have hlen : s.size = 4 * i := by rw [← data_length, e, flat_len, List.length_take]; omega
    simp only [switchboardref07_Put.l0]
    rw [if_pos (by omega), if_pos (by omega), if_pos (by omega), rd_nat x i hlt, rfour_is _ hb.1 hb.2, Option.bind_some, if_pos (by rw [fourS_size]; omega), w64 (a := (i : Int) + 1) (by omega) (by omega)]
    have := ih k (i + 1) (s ++ fourS x[i]) (by omega) (by omega) (by
      rw [ByteArray.data_append, Array.toList_append, fourS_bytes, e, List.take_succ_eq_append_getElem hlt, flat_append, flat_cons, flat_nil, List.append_nil])
    rw [show ((i + 1 : Nat) : Int) = (i : Int) + 1 from by omega] at this
    exact this
theorem rput_is (m0 m1 m2 m3 m4 m5 m6 m7 m8 m9 : Int) (v : List Int) (hr : RightB [m0, m1, m2, m3, m4, m5, m6, m7, m8, m9] v = true) (k : Nat) (hk : 50000 ≤ k) :
    ∃ t : ByteArray, switchboardref07_Put.f k m0 m1 m2 m3 m4 m5 m6 m7 m8 m9 v = some t ∧ t.data.toList = putB [m0, m1, m2, m3, m4, m5, m6, m7, m8, m9] v := by
  obtain ⟨h1, h2, _, _, h5⟩ := right_parts hr
  unfold switchboardref07_Put.f
  rw [rlist_is m0 m1 m2 m3 m4 m5 m6 m7 m8 m9 v (by omega), Option.bind_some]
  have hl : (listOf [m0, m1, m2, m3, m4, m5, m6, m7, m8, m9] v).length = v.length + 11 := listOf_len rfl
  exact rput_l0 (listOf [m0, m1, m2, m3, m4, m5, m6, m7, m8, m9] v) (by omega) (by
    intro n hn
    unfold listOf at hn
    rw [List.mem_append, List.mem_append] at hn
    rcases hn with (hn | hn) | hn
    · have := h1 n hn; omega
    · rw [List.mem_singleton] at hn; omega
    · have := h2 n hn; omega) (v.length + 11) k 0 ⟨#[]⟩ (by omega) (by omega) rfl
end Go.Proofs.Ytgfpkhihdahjlab.WireRef
