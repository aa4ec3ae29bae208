/- What chunk.number, chunk.rows and the reference's number answer, in plain words. -/
import Derived.Test.YtdcojbamfchgiaaQChunkx14
import Derived.Test.YtdcojbamfchgiaaQChunkx30
import Derived.Test.YtdcojbamfchgiaaWireThy
import Derived.Lib.EndianBits
namespace Go.Proofs.Ytdcojbamfchgiaa.ChunkNum
open Go Go.RowKit Go.Proofs.Ytdcojbamfchgiaa.QChunk Go.Proofs.YtdcojbamfchgiaaW.PrintWords Go.Proofs.YtdcojbamfchgiaaW.PrintLast Go.Proofs.Ytdcojbamfchgiaa.Given Go.Proofs.Ytdcojbamfchgiaa.CrcThy Go.Proofs.Ytdcojbamfchgiaa.WireThy
theorem w64 {a : Int} (h1 : -9223372036854775808 ≤ a) (h2 : a ≤ 9223372036854775807) : wrap64 a = a := by unfold wrap64; omega
theorem bt_nat (s : ByteArray) (p : Nat) : bt s (p : Int) = ((s.data.toList.getD p 0).toNat : Int) := by
  rw [← rd_bytesOf]; unfold rd bytesOf
  rw [List.getD_eq_getElem?_getD, List.getD_eq_getElem?_getD, List.getElem?_map, Int.toNat_natCast]
  cases s.data.toList[p]? <;> rfl
theorem bt_range (s : ByteArray) (p : Int) : 0 ≤ bt s p ∧ bt s p ≤ 255 := by
  unfold bt; split
  · rename_i h
    have := (s[p.toNat]'h).toNat_lt; omega
  · omega
theorem or_low (i : Nat) (y x : Int) (h0 : 0 ≤ y) (hy : y < 2 ^ i) (hx0 : 0 ≤ x) (hx : x % 2 ^ i = 0) (hx1 : x < 4294967296) (hy1 : y < 4294967296) : Go.bits .or .u32 y x = y + x :=
  bits_join_low .u32 32 (by decide) (fun n h0 h1 => by
    have : IntKind.u32.wrap n = n % 4294967296 := by simp [IntKind.wrap, IntKind.bits, IntKind.signed]
    rw [this]; omega) i y x h0 hy (by omega) hx0 hx (by omega)
/-- Four bytes, the lowest first, laid together. -/
theorem or_four {a b c d : Int} (ha : 0 ≤ a ∧ a ≤ 255) (hb : 0 ≤ b ∧ b ≤ 255) (hc : 0 ≤ c ∧ c ≤ 255) (hd : 0 ≤ d ∧ d ≤ 255) :
    Go.bits .or .u32 (Go.bits .or .u32 (Go.bits .or .u32 (a % 4294967296) (b % 4294967296 * 256 % 4294967296)) (c % 4294967296 * 65536 % 4294967296)) (d % 4294967296 * 16777216 % 4294967296) = a + 256 * b + 65536 * c + 16777216 * d := by
  have e1 : a % 4294967296 = a := by omega
  have e2 : b % 4294967296 * 256 % 4294967296 = b * 256 := by omega
  have e3 : c % 4294967296 * 65536 % 4294967296 = c * 65536 := by omega
  have e4 : d % 4294967296 * 16777216 % 4294967296 = d * 16777216 := by omega
  rw [e1, e2, e3, e4, or_low 8 a (b * 256) (by omega) (by omega) (by omega) (by omega) (by omega) (by omega), or_low 16 (a + b * 256) (c * 65536) (by omega) (by omega) (by omega) (by omega) (by omega) (by omega), or_low 24 (a + b * 256 + c * 65536) (d * 16777216) (by omega) (by omega) (by omega) (by omega) (by omega) (by omega)]
  omega
theorem sg32 {x : Int} (h0 : 0 ≤ x) (h1 : x < 4294967296) : wrap64 (wrap32 x) = sg x := by
  unfold sg wrap32
  split
  · rw [w64 (by omega) (by omega)]; omega
  · rw [w64 (by omega) (by omega)]; omega
/-- The i-th number of bytes. -/
def numAt (l : List UInt8) (i : Nat) : Int := sg ((nums l).getD i 0)
theorem number_is (s : ByteArray) (hs : s.size ≤ 140737488351232) (i : Nat) (hi : 4 * i + 3 < s.size) : chunk_number.f s (i : Int) = some (numAt s.data.toList i) := by
  unfold chunk_number.f numAt
  rw [w64 (a := 4 * (i : Int)) (by omega) (by omega), w64 (a := 4 * (i : Int) + 1) (by omega) (by omega), w64 (a := 4 * (i : Int) + 2) (by omega) (by omega), w64 (a := 4 * (i : Int) + 3) (by omega) (by omega)]
  rw [if_pos (by omega), if_pos (by omega), if_pos (by omega), if_pos (by omega), if_pos (by omega), if_pos (by omega), if_pos (by omega), if_pos (by omega)]
  rw [or_four (bt_range s _) (bt_range s _) (bt_range s _) (bt_range s _)]
  rw [nums_get i _ (by rw [data_length]; exact hi)]
  rw [show 4 * (i : Int) + 1 = ((4 * i + 1 : Nat) : Int) by omega, show 4 * (i : Int) + 2 = ((4 * i + 2 : Nat) : Int) by omega, show 4 * (i : Int) + 3 = ((4 * i + 3 : Nat) : Int) by omega, show 4 * (i : Int) = ((4 * i : Nat) : Int) by omega]
  rw [bt_nat, bt_nat, bt_nat, bt_nat]
  congr 1
  exact sg32 (num4_lo _ _ _ _) (num4_hi _ _ _ _)
theorem at_is (s : ByteArray) (hs : s.size ≤ 140737488351232) (p i : Nat) (hp : p = 4 * i) (hi : 4 * i + 3 < s.size) : switchboardref16_at.f s (p : Int) = some (numAt s.data.toList i) := by
  subst hp
  unfold switchboardref16_at.f numAt
  have r0 := bt_range s ((4 * i : Nat) : Int); have r1 := bt_range s ((4 * i : Nat) + 1 : Int); have r2 := bt_range s ((4 * i : Nat) + 2 : Int); have r3 := bt_range s ((4 * i : Nat) + 3 : Int)
  rw [w64 (a := ((4 * i : Nat) : Int) + 1) (by omega) (by omega), w64 (a := ((4 * i : Nat) : Int) + 2) (by omega) (by omega), w64 (a := ((4 * i : Nat) : Int) + 3) (by omega) (by omega)]
  rw [w64 (a := bt s ((4 * i : Nat) : Int)) (by omega) (by omega), w64 (a := bt s ((4 * i : Nat) + 1 : Int)) (by omega) (by omega), w64 (a := bt s ((4 * i : Nat) + 2 : Int)) (by omega) (by omega), w64 (a := bt s ((4 * i : Nat) + 3 : Int)) (by omega) (by omega)]
  rw [w64 (a := 256 * bt s ((4 * i : Nat) + 1 : Int)) (by omega) (by omega), w64 (a := 65536 * bt s ((4 * i : Nat) + 2 : Int)) (by omega) (by omega), w64 (a := 16777216 * bt s ((4 * i : Nat) + 3 : Int)) (by omega) (by omega)]
  rw [w64 (a := bt s ((4 * i : Nat) : Int) + 256 * bt s ((4 * i : Nat) + 1 : Int)) (by omega) (by omega), w64 (a := bt s ((4 * i : Nat) : Int) + 256 * bt s ((4 * i : Nat) + 1 : Int) + 65536 * bt s ((4 * i : Nat) + 2 : Int)) (by omega) (by omega), w64 (a := bt s ((4 * i : Nat) : Int) + 256 * bt s ((4 * i : Nat) + 1 : Int) + 65536 * bt s ((4 * i : Nat) + 2 : Int) + 16777216 * bt s ((4 * i : Nat) + 3 : Int)) (by omega) (by omega)]
  rw [if_pos (by omega), if_pos (by omega), if_pos (by omega), if_pos (by omega), if_pos (by omega), if_pos (by omega), if_pos (by omega), if_pos (by omega)]
  rw [nums_get i _ (by rw [data_length]; exact hi)]
  have e : num4 (s.data.toList.getD (4 * i) 0) (s.data.toList.getD (4 * i + 1) 0) (s.data.toList.getD (4 * i + 2) 0) (s.data.toList.getD (4 * i + 3) 0) = bt s ((4 * i : Nat) : Int) + 256 * bt s ((4 * i : Nat) + 1 : Int) + 65536 * bt s ((4 * i : Nat) + 2 : Int) + 16777216 * bt s ((4 * i : Nat) + 3 : Int) := by
    unfold num4
    rw [← bt_nat, ← bt_nat, ← bt_nat, ← bt_nat]
    rfl
  rw [e]
  unfold sg
  split
  · rw [w64 (by omega) (by omega)]
  · rfl
/-- Rows of numbers of bytes. -/
def rowOf (l : List UInt8) (at_ long : Nat) : List Int := (List.range long).map (fun c => numAt l (at_ + c))
def rowsOf (l : List UInt8) (at_ many long : Nat) : List (List Int) := (List.range many).map (fun r => rowOf l (at_ + r * long) long)
theorem rowOf_succ (l : List UInt8) (a c : Nat) : rowOf l a (c + 1) = rowOf l a c ++ [numAt l (a + c)] := by unfold rowOf; rw [List.range_succ, List.map_append]; rfl
theorem rowsOf_succ (l : List UInt8) (a r c : Nat) : rowsOf l a (r + 1) c = rowsOf l a r c ++ [rowOf l (a + r * c) c] := by unfold rowsOf; rw [List.range_succ, List.map_append]; rfl
theorem rowOf_len (l : List UInt8) (a c : Nat) : (rowOf l a c).length = c := by unfold rowOf; simp
theorem rowsOf_len (l : List UInt8) (a r c : Nat) : (rowsOf l a r c).length = r := by unfold rowsOf; simp
theorem rows_l1 (s : ByteArray) (hs : s.size ≤ 140737488351232) (at_ many long r : Nat) (hm : many ≤ 1000) (hl : long ≤ 1000) (hr : r < many) (hin : 4 * (at_ + many * long) ≤ s.size) (d : Nat) : ∀ (k c : Nat) (out : List (List Int)), c + d = long → out.length = r →
    chunk_rows.l1 (k + d + 1) s (at_ : Int) (long : Int) out (r : Int) (rowOf s.data.toList (at_ + r * long) c) (many : Int) (r : Int) (long : Int) (c : Int) = chunk_rows.l0 k s (at_ : Int) (long : Int) (out ++ [rowOf s.data.toList (at_ + r * long) long]) (many : Int) ((r + 1 : Nat) : Int) := by
  have hml : r * long + long ≤ many * long := by
    rw [← Nat.succ_mul]; exact Nat.mul_le_mul_right _ hr
  have hmm : many * long ≤ 1000000 := Nat.mul_le_mul hm hl
  induction d with
  | zero =>
    intro k c out hc ho
    obtain rfl : c = long := by omega
    rw [chunk_rows.l1]
    rw [if_neg (by omega), if_pos (by omega), w64 (a := (r : Int) + 1) (by omega) (by omega)]
    rw [show (r : Int) + 1 = ((r + 1 : Nat) : Int) by omega]
  | succ d ih =>
    intro k c out hc ho
    rw [show k + (d + 1) + 1 = (k + d + 1) + 1 from by omega]
    rw [chunk_rows.l1]
    rw [if_pos (by omega)]
    have hrl : ((r : Int) * (long : Int)) = ((r * long : Nat) : Int) := by rw [Int.natCast_mul]
    rw [hrl, w64 (a := ((r * long : Nat) : Int)) (by omega) (by omega), w64 (a := (at_ : Int) + ((r * long : Nat) : Int)) (by omega) (by omega), w64 (a := (at_ : Int) + ((r * long : Nat) : Int) + (c : Int)) (by omega) (by omega)]
    rw [show (at_ : Int) + ((r * long : Nat) : Int) + (c : Int) = ((at_ + r * long + c : Nat) : Int) by omega]
    rw [number_is s hs _ (by omega), Option.bind_some, if_pos (by rw [rowOf_len]; omega), ← rowOf_succ, w64 (a := (c : Int) + 1) (by omega) (by omega)]
    rw [show (c : Int) + 1 = ((c + 1 : Nat) : Int) by omega]
    exact ih k (c + 1) out (by omega) ho
theorem rows_l0 (s : ByteArray) (hs : s.size ≤ 140737488351232) (at_ many long : Nat) (hm : many ≤ 1000) (hl : long ≤ 1000) (hin : 4 * (at_ + many * long) ≤ s.size) (d : Nat) : ∀ (k r : Nat), r + d = many →
    chunk_rows.l0 (k + d * (long + 2) + 1) s (at_ : Int) (long : Int) (rowsOf s.data.toList at_ r long) (many : Int) (r : Int) = some (rowsOf s.data.toList at_ many long) := by
  induction d with
  | zero =>
    intro k r hr
    obtain rfl : r = many := by omega
    rw [chunk_rows.l0]
    rw [if_neg (by omega)]
  | succ d ih =>
    intro k r hr
    rw [show k + (d + 1) * (long + 2) + 1 = ((k + d * (long + 2) + 1) + long + 1) + 1 by rw [Nat.succ_mul]; omega]
    rw [chunk_rows.l0]
    rw [if_pos (by omega)]
    have := rows_l1 s hs at_ many long r hm hl (by omega) hin long (k + d * (long + 2) + 1) 0 (rowsOf s.data.toList at_ r long) (by omega) (rowsOf_len _ _ _ _)
    rw [show rowOf s.data.toList (at_ + r * long) 0 = [] from rfl, show ((0 : Nat) : Int) = 0 from rfl] at this
    rw [this, ← rowsOf_succ]
    exact ih k (r + 1) (by omega)
theorem rows_is (s : ByteArray) (hs : s.size ≤ 140737488351232) (at_ many long k : Nat) (hm : many ≤ 8) (hl : long ≤ 8) (hin : 4 * (at_ + many * long) ≤ s.size) (hk : 100 ≤ k) :
    chunk_rows.f k s (at_ : Int) (many : Int) (long : Int) = some (rowsOf s.data.toList at_ many long) := by
  unfold chunk_rows.f
  have hb : many * (long + 2) ≤ 80 := Nat.mul_le_mul hm (show long + 2 ≤ 10 by omega)
  have := rows_l0 s hs at_ many long (by omega) (by omega) hin many (k - many * (long + 2) - 1) 0 (by omega)
  rw [show k - many * (long + 2) - 1 + many * (long + 2) + 1 = k by omega] at this
  exact this
end Go.Proofs.Ytdcojbamfchgiaa.ChunkNum
