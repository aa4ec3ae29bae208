import Derived.Test.YtdcojbamfchgiaaQChunkx14
import Derived.Test.YtdcojbamfchgiaaQChunkx30
import Derived.Test.YtdcojbamfchgiaaWireThy
import Derived.Lib.EndianBits
import Derived.Test.YtdcojbamfchgiaaQChunkx8
import Derived.Test.YtdcojbamfchgiaaExport
import Derived.Test.YtdcojbamfchgiaaQChunkx15
import Derived.Test.YtdcojbamfchgiaaQChunkx16
import Derived.Test.YtdcojbamfchgiaaJoin
/- What chunk.number, chunk.rows and the reference's number answer, in plain words. -/
namespace Go.Proofs.Ytdcojbamfchgiaa.ChunkNum
open Go Go.RowKit Go.Proofs.Ytdcojbamfchgiaa.QChunk Go.Proofs.YtdcojbamfchgiaaW.PrintWords Go.Proofs.YtdcojbamfchgiaaW.PrintLast Go.Proofs.Ytdcojbamfchgiaa.Given Go.Proofs.Ytdcojbamfchgiaa.CrcThy Go.Proofs.Ytdcojbamfchgiaa.WireThy
theorem w64 {a : Int} (h1 : -9223372036854775808 ≤ a) (h2 : a ≤ 9223372036854775807) : wrap64 a = a := by unfold wrap64; omega
theorem bt_nat (s : ByteArray) (p : Nat) : bt s (p : Int) = ((s.data.toList.getD p 0).toNat : Int) := by
  rw [← rd_bytesOf]; unfold rd bytesOf
  rw [List.getD_eq_getElem?_getD, List.getD_eq_getElem?_getD, List.getElem?_map, Int.toNat_natCast]
  cases s.data.toList[p]? <;> rfl
theorem bt_range (s : ByteArray) (p : Int) : 0 ≤ bt s p ∧ bt s p ≤ 255 := by
  unfold bt; split
  · rename_i h
    have := (s[p.toNat]'h).toNat_lt; omega
  · omega
theorem or_low (i : Nat) (y x : Int) (h0 : 0 ≤ y) (hy : y < 2 ^ i) (hx0 : 0 ≤ x) (hx : x % 2 ^ i = 0) (hx1 : x < 4294967296) (hy1 : y < 4294967296) : Go.bits .or .u32 y x = y + x :=
  bits_join_low .u32 32 (by decide) (fun n h0 h1 => by
    have : IntKind.u32.wrap n = n % 4294967296 := by simp [IntKind.wrap, IntKind.bits, IntKind.signed]
    rw [this]; omega) i y x h0 hy (by omega) hx0 hx (by omega)
/-- Four bytes, the lowest first, laid together. -/
theorem or_four {a b c d : Int} (ha : 0 ≤ a ∧ a ≤ 255) (hb : 0 ≤ b ∧ b ≤ 255) (hc : 0 ≤ c ∧ c ≤ 255) (hd : 0 ≤ d ∧ d ≤ 255) :
    Go.bits .or .u32 (Go.bits .or .u32 (Go.bits .or .u32 (a % 4294967296) (b % 4294967296 * 256 % 4294967296)) (c % 4294967296 * 65536 % 4294967296)) (d % 4294967296 * 16777216 % 4294967296) = a + 256 * b + 65536 * c + 16777216 * d := by
  have e1 : a % 4294967296 = a := by omega
  have e2 : b % 4294967296 * 256 % 4294967296 = b * 256 := by omega
  have e3 : c % 4294967296 * 65536 % 4294967296 = c * 65536 := by omega
  have e4 : d % 4294967296 * 16777216 % 4294967296 = d * 16777216 := by omega
  rw [e1, e2, e3, e4, or_low 8 a (b * 256) (by omega) (by omega) (by omega) (by omega) (by omega) (by omega), or_low 16 (a + b * 256) (c * 65536) (by omega) (by omega) (by omega) (by omega) (by omega) (by omega), or_low 24 (a + b * 256 + c * 65536) (d * 16777216) (by omega) (by omega) (by omega) (by omega) (by omega) (by omega)]
  omega
theorem sg32 {x : Int} (h0 : 0 ≤ x) (h1 : x < 4294967296) : wrap64 (wrap32 x) = sg x := by
  unfold sg wrap32
  split
  · rw [w64 (by omega) (by omega)]; omega
  · rw [w64 (by omega) (by omega)]; omega
/-- The i-th number of bytes. -/
def numAt (l : List UInt8) (i : Nat) : Int := sg ((nums l).getD i 0)
theorem number_is (s : ByteArray) (hs : s.size ≤ 140737488351232) (i : Nat) (hi : 4 * i + 3 < s.size) : chunk_number.f s (i : Int) = some (numAt s.data.toList i) := by
  unfold chunk_number.f numAt
  rw [w64 (a := 4 * (i : Int)) (by omega) (by omega), w64 (a := 4 * (i : Int) + 1) (by omega) (by omega), w64 (a := 4 * (i : Int) + 2) (by omega) (by omega), w64 (a := 4 * (i : Int) + 3) (by omega) (by omega)]
  rw [if_pos (by omega), if_pos (by omega), if_pos (by omega), if_pos (by omega), if_pos (by omega), if_pos (by omega), if_pos (by omega), if_pos (by omega)]
  rw [or_four (bt_range s _) (bt_range s _) (bt_range s _) (bt_range s _)]
  rw [nums_get i _ (by rw [data_length]; exact hi)]
  rw [show 4 * (i : Int) + 1 = ((4 * i + 1 : Nat) : Int) by omega, show 4 * (i : Int) + 2 = ((4 * i + 2 : Nat) : Int) by omega, show 4 * (i : Int) + 3 = ((4 * i + 3 : Nat) : Int) by omega, show 4 * (i : Int) = ((4 * i : Nat) : Int) by omega]
  rw [bt_nat, bt_nat, bt_nat, bt_nat]
  congr 1
  exact sg32 (num4_lo _ _ _ _) (num4_hi _ _ _ _)
theorem at_is (s : ByteArray) (hs : s.size ≤ 140737488351232) (p i : Nat) (hp : p = 4 * i) (hi : 4 * i + 3 < s.size) : switchboardref16_at.f s (p : Int) = some (numAt s.data.toList i) := by
  subst hp
  unfold switchboardref16_at.f numAt
  have r0 := bt_range s ((4 * i : Nat) : Int); have r1 := bt_range s ((4 * i : Nat) + 1 : Int); have r2 := bt_range s ((4 * i : Nat) + 2 : Int); have r3 := bt_range s ((4 * i : Nat) + 3 : Int)
  rw [w64 (a := ((4 * i : Nat) : Int) + 1) (by omega) (by omega), w64 (a := ((4 * i : Nat) : Int) + 2) (by omega) (by omega), w64 (a := ((4 * i : Nat) : Int) + 3) (by omega) (by omega)]
  rw [w64 (a := bt s ((4 * i : Nat) : Int)) (by omega) (by omega), w64 (a := bt s ((4 * i : Nat) + 1 : Int)) (by omega) (by omega), w64 (a := bt s ((4 * i : Nat) + 2 : Int)) (by omega) (by omega), w64 (a := bt s ((4 * i : Nat) + 3 : Int)) (by omega) (by omega)]
  rw [w64 (a := 256 * bt s ((4 * i : Nat) + 1 : Int)) (by omega) (by omega), w64 (a := 65536 * bt s ((4 * i : Nat) + 2 : Int)) (by omega) (by omega), w64 (a := 16777216 * bt s ((4 * i : Nat) + 3 : Int)) (by omega) (by omega)]
  rw [w64 (a := bt s ((4 * i : Nat) : Int) + 256 * bt s ((4 * i : Nat) + 1 : Int)) (by omega) (by omega), w64 (a := bt s ((4 * i : Nat) : Int) + 256 * bt s ((4 * i : Nat) + 1 : Int) + 65536 * bt s ((4 * i : Nat) + 2 : Int)) (by omega) (by omega), w64 (a := bt s ((4 * i : Nat) : Int) + 256 * bt s ((4 * i : Nat) + 1 : Int) + 65536 * bt s ((4 * i : Nat) + 2 : Int) + 16777216 * bt s ((4 * i : Nat) + 3 : Int)) (by omega) (by omega)]
  rw [if_pos (by omega), if_pos (by omega), if_pos (by omega), if_pos (by omega), if_pos (by omega), if_pos (by omega), if_pos (by omega), if_pos (by omega)]
  rw [nums_get i _ (by rw [data_length]; exact hi)]
  have e : num4 (s.data.toList.getD (4 * i) 0) (s.data.toList.getD (4 * i + 1) 0) (s.data.toList.getD (4 * i + 2) 0) (s.data.toList.getD (4 * i + 3) 0) = bt s ((4 * i : Nat) : Int) + 256 * bt s ((4 * i : Nat) + 1 : Int) + 65536 * bt s ((4 * i : Nat) + 2 : Int) + 16777216 * bt s ((4 * i : Nat) + 3 : Int) := by
    unfold num4
    rw [← bt_nat, ← bt_nat, ← bt_nat, ← bt_nat]
    rfl
  rw [e]
  unfold sg
  split
  · rw [w64 (by omega) (by omega)]
  · rfl
/-- Rows of numbers of bytes. -/
def rowOf (l : List UInt8) (at_ long : Nat) : List Int := (List.range long).map (fun c => numAt l (at_ + c))
def rowsOf (l : List UInt8) (at_ many long : Nat) : List (List Int) := (List.range many).map (fun r => rowOf l (at_ + r * long) long)
theorem rowOf_succ (l : List UInt8) (a c : Nat) : rowOf l a (c + 1) = rowOf l a c ++ [numAt l (a + c)] := by unfold rowOf; rw [List.range_succ, List.map_append]; rfl
theorem rowsOf_succ (l : List UInt8) (a r c : Nat) : rowsOf l a (r + 1) c = rowsOf l a r c ++ [rowOf l (a + r * c) c] := by unfold rowsOf; rw [List.range_succ, List.map_append]; rfl
theorem rowOf_len (l : List UInt8) (a c : Nat) : (rowOf l a c).length = c := by unfold rowOf; simp
theorem rowsOf_len (l : List UInt8) (a r c : Nat) : (rowsOf l a r c).length = r := by unfold rowsOf; simp
theorem rows_l1 (s : ByteArray) (hs : s.size ≤ 140737488351232) (at_ many long r : Nat) (hm : many ≤ 1000) (hl : long ≤ 1000) (hr : r < many) (hin : 4 * (at_ + many * long) ≤ s.size) (d : Nat) : ∀ (k c : Nat) (out : List (List Int)), c + d = long → out.length = r →
    chunk_rows.l1 (k + d + 1) s (at_ : Int) (long : Int) out (r : Int) (rowOf s.data.toList (at_ + r * long) c) (many : Int) (r : Int) (long : Int) (c : Int) = chunk_rows.l0 k s (at_ : Int) (long : Int) (out ++ [rowOf s.data.toList (at_ + r * long) long]) (many : Int) ((r + 1 : Nat) : Int) := by
  have hml : r * long + long ≤ many * long := by
    rw [← Nat.succ_mul]; exact Nat.mul_le_mul_right _ hr
  have hmm : many * long ≤ 1000000 := Nat.mul_le_mul hm hl
  induction d with
  | zero =>
    intro k c out hc ho
    obtain rfl : c = long := by omega
    rw [chunk_rows.l1]
    rw [if_neg (by omega), if_pos (by omega), w64 (a := (r : Int) + 1) (by omega) (by omega)]
    rw [show (r : Int) + 1 = ((r + 1 : Nat) : Int) by omega]
  | succ d ih =>
    intro k c out hc ho
    rw [show k + (d + 1) + 1 = (k + d + 1) + 1 from by omega]
    rw [chunk_rows.l1]
    rw [if_pos (by omega)]
    have hrl : ((r : Int) * (long : Int)) = ((r * long : Nat) : Int) := by rw [Int.natCast_mul]
    rw [hrl, w64 (a := ((r * long : Nat) : Int)) (by omega) (by omega), w64 (a := (at_ : Int) + ((r * long : Nat) : Int)) (by omega) (by omega), w64 (a := (at_ : Int) + ((r * long : Nat) : Int) + (c : Int)) (by omega) (by omega)]
    rw [show (at_ : Int) + ((r * long : Nat) : Int) + (c : Int) = ((at_ + r * long + c : Nat) : Int) by omega]
    rw [number_is s hs _ (by omega), Option.bind_some, if_pos (by rw [rowOf_len]; omega), ← rowOf_succ, w64 (a := (c : Int) + 1) (by omega) (by omega)]
    rw [show (c : Int) + 1 = ((c + 1 : Nat) : Int) by omega]
    exact ih k (c + 1) out (by omega) ho
theorem rows_l0 (s : ByteArray) (hs : s.size ≤ 140737488351232) (at_ many long : Nat) (hm : many ≤ 1000) (hl : long ≤ 1000) (hin : 4 * (at_ + many * long) ≤ s.size) (d : Nat) : ∀ (k r : Nat), r + d = many →
    chunk_rows.l0 (k + d * (long + 2) + 1) s (at_ : Int) (long : Int) (rowsOf s.data.toList at_ r long) (many : Int) (r : Int) = some (rowsOf s.data.toList at_ many long) := by
  induction d with
  | zero =>
    intro k r hr
    obtain rfl : r = many := by omega
    rw [chunk_rows.l0]
    rw [if_neg (by omega)]
  | succ d ih =>
    intro k r hr
    rw [show k + (d + 1) * (long + 2) + 1 = ((k + d * (long + 2) + 1) + long + 1) + 1 by rw [Nat.succ_mul]; omega]
    rw [chunk_rows.l0]
    rw [if_pos (by omega)]
    have := rows_l1 s hs at_ many long r hm hl (by omega) hin long (k + d * (long + 2) + 1) 0 (rowsOf s.data.toList at_ r long) (by omega) (rowsOf_len _ _ _ _)
    rw [show rowOf s.data.toList (at_ + r * long) 0 = [] from rfl, show ((0 : Nat) : Int) = 0 from rfl] at this
    rw [this, ← rowsOf_succ]
    exact ih k (r + 1) (by omega)
theorem rows_is (s : ByteArray) (hs : s.size ≤ 140737488351232) (at_ many long k : Nat) (hm : many ≤ 8) (hl : long ≤ 8) (hin : 4 * (at_ + many * long) ≤ s.size) (hk : 100 ≤ k) :
    chunk_rows.f k s (at_ : Int) (many : Int) (long : Int) = some (rowsOf s.data.toList at_ many long) := by
  unfold chunk_rows.f
  have hb : many * (long + 2) ≤ 80 := Nat.mul_le_mul hm (show long + 2 ≤ 10 by omega)
  have := rows_l0 s hs at_ many long (by omega) (by omega) hin many (k - many * (long + 2) - 1) 0 (by omega)
  rw [show k - many * (long + 2) - 1 + many * (long + 2) + 1 = k by omega] at this
  exact this
end Go.Proofs.Ytdcojbamfchgiaa.ChunkNum
/- What chunk.Cut answers, in plain words: pieces. -/
namespace Go.Proofs.Ytdcojbamfchgiaa.ChunkCut
open Go Go.RowKit Go.Proofs.Ytdcojbamfchgiaa.QChunk Go.Proofs.YtdcojbamfchgiaaW.PrintWords Go.Proofs.YtdcojbamfchgiaaW.PrintLast
def cutR : Nat → Nat → List UInt8 → List (List UInt8)
  | 0, _, _ => []
  | f + 1, n, l => if l = [] then [] else l.take n :: cutR f n (l.drop n)
/-- Pieces of n, but the last one. -/
def cutB (n : Nat) (l : List UInt8) : List (List UInt8) := cutR l.length n l
theorem cutR_nil (f n : Nat) : cutR f n [] = [] := by cases f <;> simp [cutR]
theorem cutR_fuel (n : Nat) (hn : 1 ≤ n) : ∀ (f g : Nat) (l : List UInt8), l.length ≤ f → l.length ≤ g → cutR f n l = cutR g n l := by
  intro f
  induction f with
  | zero =>
    intro g l hf hg
    obtain rfl := List.eq_nil_of_length_eq_zero (Nat.le_zero.mp hf)
    rw [cutR_nil, cutR_nil]
  | succ f ih =>
    intro g l hf hg
    cases g with
    | zero =>
      obtain rfl := List.eq_nil_of_length_eq_zero (Nat.le_zero.mp hg)
      rw [cutR_nil, cutR_nil]
    | succ g =>
      unfold cutR
      split
      · rfl
      · rename_i h
        have hp : 0 < l.length := List.length_pos_iff.mpr h
        rw [ih g (l.drop n) (by rw [List.length_drop]; omega) (by rw [List.length_drop]; omega)]
theorem cutB_nil (n : Nat) : cutB n [] = [] := rfl
theorem cutB_cons (n : Nat) (hn : 1 ≤ n) (l : List UInt8) (h : l ≠ []) : cutB n l = l.take n :: cutB n (l.drop n) := by
  have hp : 0 < l.length := List.length_pos_iff.mpr h
  unfold cutB
  obtain ⟨f, hf⟩ : ∃ f, l.length = f + 1 := ⟨l.length - 1, by omega⟩
  rw [hf]
  conv => lhs; unfold cutR
  rw [if_neg h, cutR_fuel n hn f (l.drop n).length (l.drop n) (by rw [List.length_drop]; omega) (Nat.le_refl _)]
theorem cut_ind (n : Nat) (hn : 1 ≤ n) {P : List UInt8 → Prop} (h0 : P []) (h1 : ∀ l, l ≠ [] → P (l.drop n) → P l) : ∀ l, P l := by
  have : ∀ (d : Nat) (l : List UInt8), l.length ≤ d → P l := by
    intro d
    induction d with
    | zero => intro l hl; obtain rfl := List.eq_nil_of_length_eq_zero (Nat.le_zero.mp hl); exact h0
    | succ d ih =>
      intro l hl
      by_cases h : l = []
      · subst h; exact h0
      · have hp : 0 < l.length := List.length_pos_iff.mpr h
        exact h1 l h (ih _ (by rw [List.length_drop]; omega))
  exact fun l => this l.length l (Nat.le_refl _)
theorem cutB_flat (n : Nat) (hn : 1 ≤ n) (l : List UInt8) : (cutB n l).flatten = l := by
  refine cut_ind n hn (P := fun l => (cutB n l).flatten = l) rfl (fun l h ih => ?_) l
  rw [cutB_cons n hn l h, List.flatten_cons, ih, List.take_append_drop]
theorem cutB_len (n : Nat) (hn : 1 ≤ n) (l : List UInt8) : (cutB n l).length = (l.length + n - 1) / n := by
  refine cut_ind n hn (P := fun l => (cutB n l).length = (l.length + n - 1) / n) ?_ (fun l h ih => ?_) l
  · rw [cutB_nil]; simp only [List.length_nil]; rw [Nat.div_eq_of_lt (by omega)]
  · have hp : 0 < l.length := List.length_pos_iff.mpr h
    rw [cutB_cons n hn l h, List.length_cons, ih, List.length_drop]
    rcases Nat.le_total n l.length with hle | hle
    · rw [show l.length + n - 1 = (l.length - n + n - 1) + n by omega, Nat.add_div_right _ (by omega)]
    · rw [show l.length - n + n - 1 = n - 1 by omega, Nat.div_eq_of_lt (by omega), show l.length + n - 1 = (l.length - 1) + n by omega, Nat.add_div_right _ (by omega), Nat.div_eq_of_lt (by omega)]
theorem cutB_piece (n : Nat) (hn : 1 ≤ n) (l : List UInt8) : ∀ (i : Nat) (p : List UInt8), (cutB n l)[i]? = some p → p.length ≤ n ∧ p ≠ [] ∧ (i + 1 < (cutB n l).length → p.length = n) := by
  refine cut_ind n hn (P := fun l => ∀ (i : Nat) (p : List UInt8), (cutB n l)[i]? = some p → p.length ≤ n ∧ p ≠ [] ∧ (i + 1 < (cutB n l).length → p.length = n)) ?_ (fun l h ih => ?_) l
  · intro i p hp; rw [cutB_nil] at hp; simp at hp
  · intro i p hp
    have hpos : 0 < l.length := List.length_pos_iff.mpr h
    rw [cutB_cons n hn l h] at hp ⊢
    cases i with
    | zero =>
      simp only [List.getElem?_cons_zero, Option.some.injEq] at hp
      subst hp
      refine ⟨by rw [List.length_take]; omega, fun e => ?_, fun hlt => ?_⟩
      · have := congrArg List.length e; rw [List.length_take, List.length_nil] at this; omega
      · rw [List.length_cons] at hlt
        have hd : l.drop n ≠ [] := fun e => by rw [e, cutB_nil] at hlt; simp at hlt
        have := List.length_pos_iff.mpr hd
        rw [List.length_drop] at this
        rw [List.length_take]; omega
    | succ i =>
      rw [List.getElem?_cons_succ] at hp
      have := ih i p hp
      refine ⟨this.1, this.2.1, fun hlt => this.2.2 ?_⟩
      rw [List.length_cons] at hlt; omega
/-- A size that goes in another one: cut twice is cut once. -/
theorem cut_part (a : Nat) (ha : 1 ≤ a) (m : Nat) : ∀ l : List UInt8, cutB a l = cutB a (l.take (a * m)) ++ cutB a (l.drop (a * m)) := by
  induction m with
  | zero => intro l; simp [cutB_nil]
  | succ m ih =>
    intro l
    by_cases h : l = []
    · subst h; simp [cutB_nil]
    · have hpos : 0 < l.length := List.length_pos_iff.mpr h
      have ht : l.take (a * (m + 1)) ≠ [] := fun e => by
        have := congrArg List.length e
        rw [List.length_take, List.length_nil, Nat.mul_succ] at this; omega
      have e1 : (l.take (a * (m + 1))).take a = l.take a := by rw [List.take_take, Nat.min_eq_left (by rw [Nat.mul_succ]; omega)]
      have e2 : (l.take (a * (m + 1))).drop a = (l.drop a).take (a * m) := by rw [List.drop_take, show a * (m + 1) - a = a * m by rw [Nat.mul_succ]; omega]
      have e3 : (l.drop a).drop (a * m) = l.drop (a * (m + 1)) := by rw [List.drop_drop, show a + a * m = a * (m + 1) by rw [Nat.mul_succ]; omega]
      rw [cutB_cons a ha l h, cutB_cons a ha _ ht, e1, e2, ih (l.drop a), e3, List.cons_append]
theorem cut_twice (a m : Nat) (ha : 1 ≤ a) (hm : 1 ≤ m) (l : List UInt8) : (cutB (a * m) l).flatMap (cutB a) = cutB a l := by
  have hb : 1 ≤ a * m := Nat.mul_pos ha hm
  refine cut_ind (a * m) hb (P := fun l => (cutB (a * m) l).flatMap (cutB a) = cutB a l) rfl (fun l h ih => ?_) l
  rw [cutB_cons (a * m) hb l h, List.flatMap_cons, ih, ← cut_part a ha m l]
def bl (s : ByteArray) : List UInt8 := s.data.toList
theorem bl_extract (s : ByteArray) (i j : Nat) : bl (s.extract i j) = ((bl s).take j).drop i := by
  unfold bl
  rw [ByteArray.data_extract, Array.toList_extract]
  rw [List.extract_eq_take_drop, List.drop_take]
theorem cut_l0 (n : Nat) (hn : 1 ≤ n) (d : Nat) : ∀ (k : Nat) (s : ByteArray) (out : List ByteArray), s.size ≤ d → d < k → d ≤ 1000000 → out.length + d ≤ 1000000 →
    ∃ l : List ByteArray, chunk_Cut.l0 k s (n : Int) out = some (out ++ l, true) ∧ l.map bl = cutB n (bl s) := by
  induction d with
  | zero =>
    intro k s out hs hk hd ho
    obtain ⟨k, rfl⟩ : ∃ m, k = m + 1 := ⟨k - 1, by omega⟩
    have hb : bl s = [] := List.eq_nil_of_length_eq_zero (by unfold bl; rw [data_length]; omega)
    refine ⟨[], ?_, by rw [hb]; rfl⟩
    rw [chunk_Cut.l0, if_neg (by omega), List.append_nil]
  | succ d ih =>
    intro k s out hs hk hd ho
    obtain ⟨k, rfl⟩ : ∃ m, k = m + 1 := ⟨k - 1, by omega⟩
    by_cases hz : s.size = 0
    · have hb : bl s = [] := List.eq_nil_of_length_eq_zero (by unfold bl; rw [data_length]; omega)
      refine ⟨[], ?_, by rw [hb]; rfl⟩
      rw [chunk_Cut.l0, if_neg (by omega), List.append_nil]
    · have hb : bl s ≠ [] := fun e => hz (by rw [← data_length]; unfold bl at e; rw [e]; rfl)
      obtain ⟨m, hm, hm1, hm2, hm3⟩ : ∃ m : Nat, mn (n : Int) (s.size : Int) = (m : Int) ∧ 1 ≤ m ∧ m ≤ s.size ∧ (m = n ∨ (m = s.size ∧ s.size ≤ n)) := by
        unfold mn
        split
        · exact ⟨s.size, rfl, by omega, by omega, .inr ⟨rfl, by omega⟩⟩
        · exact ⟨n, rfl, hn, by omega, .inl rfl⟩
      have hsz : (s.extract m s.size).size ≤ d := by rw [ByteArray.size_extract]; omega
      obtain ⟨l, hl, hlb⟩ := ih k (s.extract m s.size) (out ++ [s.extract 0 m]) hsz (by omega) (by omega) (by rw [List.length_append, List.length_singleton]; omega)
      refine ⟨s.extract 0 m :: l, ?_, ?_⟩
      · rw [chunk_Cut.l0, if_pos (by omega), hm, if_pos (by omega), if_pos (by omega), if_pos (by omega), Int.toNat_natCast, hl]
        simp
      · have hlen : (bl s).length = s.size := by unfold bl; exact data_length s
        rw [List.map_cons, hlb, cutB_cons n hn _ hb, bl_extract, bl_extract, List.drop_zero, ← hlen, List.take_length]
        rcases hm3 with rfl | ⟨rfl, hle⟩
        · rfl
        · rw [← hlen, List.take_of_length_le (l := bl s) (Nat.le_refl _), List.drop_of_length_le (Nat.le_refl _), List.take_of_length_le (l := bl s) (by omega), List.drop_of_length_le (l := bl s) (by omega)]
/-- Cut, at a right size. -/
theorem cut_is (s : ByteArray) (n k : Nat) (hn : 1 ≤ n) (h64 : n ≤ 64) (hs : s.size ≤ 10000) (hk : s.size + 3 ≤ k) : ∃ l : List ByteArray, chunk_Cut.f k s (n : Int) = some (l, true) ∧ l.map bl = cutB n (bl s) := by
  obtain ⟨k, rfl⟩ : ∃ m, k = m + 1 := ⟨k - 1, by omega⟩
  obtain ⟨l, hl, hb⟩ := cut_l0 n hn s.size k s [] (Nat.le_refl _) (by omega) (by omega) (by simp; omega)
  refine ⟨l, ?_, hb⟩
  unfold chunk_Cut.f
  rw [if_neg (by omega), show decide ((n : Int) > 64) = false by simp; omega, chunk_Cut.j0, if_neg (by decide)]
  exact hl
/-- .. at a wrong one. -/
theorem cut_no (s : ByteArray) (n : Int) (k : Nat) (hn : ¬ (1 ≤ n ∧ n ≤ 64)) (hk : 2 ≤ k) : chunk_Cut.f k s n = some ([], false) := by
  obtain ⟨k, rfl⟩ : ∃ m, k = m + 1 := ⟨k - 1, by omega⟩
  unfold chunk_Cut.f
  by_cases h : n < 1
  · rw [if_pos h, chunk_Cut.j0, if_pos rfl]
  · rw [if_neg h, show decide (n > 64) = true by simp; omega, chunk_Cut.j0, if_pos rfl]
end Go.Proofs.Ytdcojbamfchgiaa.ChunkCut
/- Import and Export as functions of bytes, and that each undoes the other. No walk. -/
namespace Go.Proofs.Ytdcojbamfchgiaa.ChunkImp
open Go Go.RowKit Go.Proofs.Ytdcojbamfchgiaa.Given Go.Proofs.Ytdcojbamfchgiaa.Right Go.Proofs.Ytdcojbamfchgiaa.CrcThy Go.Proofs.Ytdcojbamfchgiaa.WireThy Go.Proofs.Ytdcojbamfchgiaa.Export Go.Proofs.Ytdcojbamfchgiaa.ChunkNum
def rightX (x y : List (List Int)) (dim : Int) : Bool := decide (1 ≤ dim) && (decide (dim ≤ 8) && (decide (1 ≤ (x.length : Int)) && (decide ((x.length : Int) ≤ 8) && (matRight x x.length dim && matRight y dim x.length))))
theorem right_is (x y : List (List Int)) (dim : Int) : RExpert.expert_Right.f x y dim = some (rightX x y dim) := by
  unfold RExpert.expert_Right.f mat_Right.f rightX
  simp only [Option.bind_some]
  by_cases h1 : dim ≥ 1
  · by_cases h2 : dim ≤ 8
    · by_cases h3 : (x.length : Int) ≥ 1
      · by_cases h4 : (x.length : Int) ≤ 8
        · rw [if_pos h1, if_pos h2, if_pos h3, if_pos h4, decide_eq_true (show 1 ≤ dim from h1), decide_eq_true h2, decide_eq_true (show 1 ≤ (x.length : Int) from h3), decide_eq_true h4]
          cases matRight x x.length dim <;> simp
        · rw [if_pos h1, if_pos h2, if_pos h3, if_neg h4, decide_eq_false h4]; simp
      · rw [if_pos h1, if_pos h2, if_neg h3, decide_eq_false (show ¬ 1 ≤ (x.length : Int) from h3)]; simp
    · rw [if_pos h1, if_neg h2, decide_eq_false h2]; simp
  · rw [if_neg h1, decide_eq_false (show ¬ 1 ≤ dim from h1)]; simp
structure RightP (x y : List (List Int)) (dim : Int) (h d : Nat) : Prop where
  dim_ : dim = (d : Int)
  d1 : 1 ≤ d
  d8 : d ≤ 8
  len : x.length = h
  h1 : 1 ≤ h
  h8 : h ≤ 8
  leny : y.length = d
  rx : ∀ l ∈ x, l.length = d ∧ ∀ n ∈ l, -2147483647 ≤ n ∧ n ≤ 2147483647
  ry : ∀ l ∈ y, l.length = h ∧ ∀ n ∈ l, -2147483647 ≤ n ∧ n ≤ 2147483647
theorem right_p {x y : List (List Int)} {dim : Int} (h : rightX x y dim = true) : RightP x y dim x.length dim.toNat := by
  have hF := right_facts (x := x) (y := y) (dim := dim) (by rw [right_is, h])
  have h0 := mat_facts hF.2.2.1
  have h1 := mat_facts hF.2.2.2
  exact ⟨by omega, by omega, by omega, rfl, hF.2.1.1, hF.2.1.2, by omega, fun l hl => ⟨by have := (h0.2 l hl).1; omega, (h0.2 l hl).2⟩, fun l hl => ⟨by have := (h1.2 l hl).1; omega, (h1.2 l hl).2⟩⟩
theorem flatten_len {c : Nat} : ∀ {x : List (List Int)}, (∀ l ∈ x, l.length = c) → x.flatten.length = x.length * c
  | [], _ => by simp
  | l :: x, h => by
    rw [List.flatten_cons, List.length_append, flatten_len (fun l hl => h l (List.mem_cons_of_mem _ hl)), h l List.mem_cons_self, List.length_cons, Nat.succ_mul]; omega
theorem listX_len {x y : List (List Int)} {dim : Int} {h d : Nat} (p : RightP x y dim h d) : (listX x y dim).length = 2 + 2 * (h * d) := by
  unfold listX
  rw [List.length_cons, List.length_cons, List.length_append, flatten_len (fun l hl => (p.rx l hl).1), flatten_len (fun l hl => (p.ry l hl).1), p.len, p.leny, Nat.mul_comm d h]; omega
theorem listX_range {x y : List (List Int)} {dim : Int} {h d : Nat} (p : RightP x y dim h d) : ∀ n ∈ listX x y dim, -2147483648 ≤ n ∧ n ≤ 2147483647 := by
  intro n hn
  unfold listX at hn
  rw [List.mem_cons, List.mem_cons, List.mem_append, List.mem_flatten, List.mem_flatten] at hn
  have h8 := p.h8; have d8 := p.d8; have hl := p.len; have hd := p.dim_
  rcases hn with rfl | rfl | ⟨l, hl, hn⟩ | ⟨l, hl, hn⟩
  · omega
  · omega
  · have := (p.rx l hl).2 n hn; omega
  · have := (p.ry l hl).2 n hn; omega
/-- A number of numbers written, and of what lies behind them. -/
theorem numAt_flat (N : List Int) (r : List UInt8) (i : Nat) (hi : i < N.length) (hr : ∀ n ∈ N, -2147483648 ≤ n ∧ n ≤ 2147483647) : numAt (flat N ++ r) i = N.getD i 0 := by
  unfold numAt
  rw [nums_flat_append, List.getD_eq_getElem?_getD, List.getElem?_append_left (by rw [List.length_map]; exact hi), List.getElem?_map, List.getElem?_eq_getElem hi, List.getD_eq_getElem?_getD, List.getElem?_eq_getElem hi]
  simp only [Option.map_some, Option.getD_some]
  have := hr _ (List.getElem_mem hi)
  exact sg_of this.1 this.2
theorem range_split (l : List UInt8) (a r c : Nat) : (rowsOf l a r c).flatten = (List.range (r * c)).map (fun i => numAt l (a + i)) := by
  induction r with
  | zero => simp [rowsOf]
  | succ r ih =>
    rw [rowsOf_succ, List.flatten_append, ih, Nat.succ_mul, List.range_add, List.map_append]
    congr 1
    unfold rowOf
    simp [List.map_map, Function.comp_def, Nat.add_assoc]
theorem rows_get (l : List UInt8) (a : Nat) : ∀ (x : List (List Int)) (c : Nat), (∀ r ∈ x, r.length = c) → (∀ i, i < x.flatten.length → numAt l (a + i) = x.flatten.getD i 0) → rowsOf l a x.length c = x := by
  intro x c hx hi
  apply List.ext_getElem (rowsOf_len _ _ _ _)
  intro r h1 h2
  simp only [rowsOf, rowOf, List.getElem_map, List.getElem_range]
  have hr := hx _ (List.getElem_mem h2)
  apply List.ext_getElem (by simp [hr])
  intro j j1 j2
  rw [List.getElem_map, List.getElem_range]
  have hfl : x.flatten.length = x.length * c := flatten_len hx
  have hj : j < c := by omega
  have hlt : r * c + j < x.length * c := by
    have : (r + 1) * c ≤ x.length * c := Nat.mul_le_mul_right _ h2
    rw [Nat.succ_mul] at this; omega
  rw [Nat.add_assoc, hi (r * c + j) (by rw [hfl]; exact hlt)]
  have key : ∀ (x : List (List Int)) (r : Nat) (h2 : r < x.length), (∀ r ∈ x, r.length = c) → x.flatten.getD (r * c + j) 0 = (x[r]).getD j 0 := by
    intro x
    induction x with
    | nil => intro r h2; simp at h2
    | cons q x ih =>
      intro r h2 hx
      have hq := hx q List.mem_cons_self
      cases r with
      | zero =>
        simp only [Nat.zero_mul, Nat.zero_add, List.flatten_cons, List.getElem_cons_zero]
        rw [List.getD_eq_getElem?_getD, List.getElem?_append_left (by omega), List.getD_eq_getElem?_getD]
      | succ r =>
        simp only [List.flatten_cons, List.getElem_cons_succ]
        rw [List.getD_eq_getElem?_getD, List.getElem?_append_right (by rw [Nat.succ_mul]; omega), ← ih r (by simpa using h2) (fun l hl => hx l (List.mem_cons_of_mem _ hl)), List.getD_eq_getElem?_getD, hq, show (r + 1) * c + j - c = r * c + j by rw [Nat.succ_mul]; omega]
  rw [key x r h2 hx, List.getD_eq_getElem?_getD, List.getElem?_eq_getElem j2, Option.getD_some]
/-- Import, as a function of bytes. -/
noncomputable def impB (l : List UInt8) : List (List Int) × List (List Int) × Int × Int :=
  if l.length < 12 ∨ l.length % 4 ≠ 0 then ([], [], 0, 2)
  else if l.drop (l.length - 4) ≠ fourB (crcI (l.take (l.length - 4))) then ([], [], 0, 9)
  else if 1 ≤ numAt l 0 ∧ numAt l 0 ≤ 8 ∧ 1 ≤ numAt l 1 ∧ numAt l 1 ≤ 8 ∧ (l.length : Int) = 4 * (3 + 2 * numAt l 0 * numAt l 1) then
    (if rightX (rowsOf l 2 (numAt l 0).toNat (numAt l 1).toNat) (rowsOf l (2 + (numAt l 0).toNat * (numAt l 1).toNat) (numAt l 1).toNat (numAt l 0).toNat) (numAt l 1) = true
      then (rowsOf l 2 (numAt l 0).toNat (numAt l 1).toNat, rowsOf l (2 + (numAt l 0).toNat * (numAt l 1).toNat) (numAt l 1).toNat (numAt l 0).toNat, numAt l 1, 0) else ([], [], 0, 2))
  else ([], [], 0, 2)
theorem outX_len {x y : List (List Int)} {dim : Int} (h : rightX x y dim = true) : (outX x y dim).length = 12 + 8 * (x.length * dim.toNat) := by
  have p := right_p h
  unfold outX
  rw [List.length_append, flat_len, fourB_len, listX_len p]; omega
theorem outX_parts (x y : List (List Int)) (dim : Int) : (outX x y dim).drop ((outX x y dim).length - 4) = fourB (crcI ((outX x y dim).take ((outX x y dim).length - 4))) ∧ (outX x y dim).take ((outX x y dim).length - 4) = flat (listX x y dim) := by
  have hl : (outX x y dim).length - 4 = (flat (listX x y dim)).length := by unfold outX; rw [List.length_append, fourB_len]; omega
  have ht : (outX x y dim).take ((outX x y dim).length - 4) = flat (listX x y dim) := by rw [hl]; unfold outX; rw [List.take_left]
  refine ⟨?_, ht⟩
  rw [ht, hl]; unfold outX; rw [List.drop_left]
/-- What was exported is imported. -/
theorem imp_out {x y : List (List Int)} {dim : Int} (h : rightX x y dim = true) : impB (outX x y dim) = (x, y, dim, 0) := by
  have p := right_p h
  have hlen := outX_len h
  have hL := listX_len p
  have hn : ∀ i, i < 2 + 2 * (x.length * dim.toNat) → numAt (outX x y dim) i = (listX x y dim).getD i 0 := fun i hi => numAt_flat _ _ i (by rw [hL]; exact hi) (listX_range p)
  have h0 : numAt (outX x y dim) 0 = x.length := by rw [hn 0 (by omega)]; rfl
  have h1 : numAt (outX x y dim) 1 = dim := by rw [hn 1 (by omega)]; rfl
  have hd := p.dim_; have h8 := p.h8; have d8 := p.d8; have hh1 := p.h1; have hd1 := p.d1
  have hx : rowsOf (outX x y dim) 2 x.length dim.toNat = x := by
    refine rows_get _ 2 x dim.toNat (fun l hl => (p.rx l hl).1) (fun i hi => ?_)
    rw [flatten_len (fun l hl => (p.rx l hl).1)] at hi
    rw [hn (2 + i) (by omega)]
    unfold listX
    rw [show 2 + i = i + 1 + 1 by omega, List.getD_cons_succ, List.getD_cons_succ, List.getD_eq_getElem?_getD, List.getElem?_append_left (by rw [flatten_len (fun l hl => (p.rx l hl).1)]; exact hi), List.getD_eq_getElem?_getD]
  have hy : rowsOf (outX x y dim) (2 + x.length * dim.toNat) dim.toNat x.length = y := by
    have := rows_get (outX x y dim) (2 + x.length * dim.toNat) y x.length (fun l hl => (p.ry l hl).1) (fun i hi => ?_)
    · rw [p.leny] at this; exact this
    · rw [flatten_len (fun l hl => (p.ry l hl).1), p.leny] at hi
      rw [Nat.mul_comm] at hi
      rw [hn (2 + x.length * dim.toNat + i) (by omega)]
      unfold listX
      rw [show 2 + x.length * dim.toNat + i = (x.length * dim.toNat + i) + 1 + 1 by omega, List.getD_cons_succ, List.getD_cons_succ, List.getD_eq_getElem?_getD, List.getElem?_append_right (by rw [flatten_len (fun l hl => (p.rx l hl).1)]; omega), flatten_len (fun l hl => (p.rx l hl).1), List.getD_eq_getElem?_getD, show x.length * dim.toNat + i - x.length * dim.toNat = i by omega]
  have hp := outX_parts x y dim
  have hm : (2 * (x.length : Int) * dim) = ((2 * (x.length * dim.toNat) : Nat) : Int) := by
    rw [hd, Int.toNat_natCast, Int.natCast_mul, Int.natCast_mul, Int.mul_assoc]; rfl
  unfold impB
  rw [if_neg (by rw [hlen]; omega), if_neg (by rw [hp.1]; exact fun h => h rfl), h0, h1, if_pos ⟨by omega, by omega, by omega, by omega, by rw [hlen, hm]; omega⟩, Int.toNat_natCast, hx, hy, if_pos h]
theorem nums_take (l : List UInt8) (n : Nat) (h : 4 * n ≤ l.length) : (nums (l.take (4 * n))).map sg = (List.range n).map (numAt l) := by
  have hlt : (l.take (4 * n)).length = 4 * n := by rw [List.length_take]; omega
  apply List.ext_getElem
  · rw [List.length_map, nums_len, hlt, List.length_map, List.length_range]; omega
  · intro i h1 h2
    rw [List.getElem_map, List.getElem_map, List.getElem_range]
    rw [List.length_map, List.length_range] at h2
    unfold numAt
    have e1 : (nums (l.take (4 * n)))[i]'(by rw [List.length_map] at h1; exact h1) = (nums (l.take (4 * n))).getD i 0 := by rw [List.getD_eq_getElem?_getD, List.getElem?_eq_getElem (by rw [List.length_map] at h1; exact h1), Option.getD_some]
    rw [e1, nums_get i _ (by rw [hlt]; omega), nums_get i _ (by omega)]
    have e : ∀ j, j < 4 * n → (l.take (4 * n)).getD j 0 = l.getD j 0 := fun j hj => by rw [List.getD_eq_getElem?_getD, List.getElem?_take_of_lt hj, ← List.getD_eq_getElem?_getD]
    rw [e _ (by omega), e _ (by omega), e _ (by omega), e _ (by omega)]
theorem flat_sg (B : List UInt8) (h : B.length % 4 = 0) : flat ((nums B).map sg) = B := by
  rw [← flat_mod, List.map_map]
  have : (nums B).map ((· % 4294967296) ∘ sg) = nums B := by
    conv => rhs; rw [← List.map_id (nums B)]
    apply List.map_congr_left
    intro x hx
    have := nums_range B x hx
    exact sg_mod this.1 this.2
  rw [this, flat_nums B h]
/-- What is imported is exported as it was. -/
theorem out_imp {l : List UInt8} {x y : List (List Int)} {d : Int} (h : impB l = (x, y, d, 0)) : rightX x y d = true ∧ outX x y d = l := by
  unfold impB at h
  split at h
  · simp at h
  · rename_i hlen
    split at h
    · simp at h
    · rename_i hcrc
      split at h
      · rename_i hb
        split at h
        · rename_i hr
          obtain ⟨g1, g2, g3, g4, g5⟩ := hb
          obtain ⟨hh, eh⟩ : ∃ n : Nat, numAt l 0 = (n : Int) := ⟨(numAt l 0).toNat, by omega⟩
          obtain ⟨dd, ed⟩ : ∃ n : Nat, numAt l 1 = (n : Int) := ⟨(numAt l 1).toNat, by omega⟩
          rw [eh, ed] at g5 hr h
          simp only [Int.toNat_natCast] at hr h
          simp only [Prod.mk.injEq] at h
          obtain ⟨rfl, rfl, rfl, _⟩ := h
          refine ⟨hr, ?_⟩
          have hm : (2 * (hh : Int) * (dd : Int)) = ((2 * (hh * dd) : Nat) : Int) := by
            rw [Int.natCast_mul, Int.natCast_mul, Int.mul_assoc]; rfl
          rw [hm] at g5
          have hL : l.length = 4 * (3 + 2 * (hh * dd)) := by omega
          have hlist : listX (rowsOf l 2 hh dd) (rowsOf l (2 + hh * dd) dd hh) (dd : Int) = (List.range (2 + 2 * (hh * dd))).map (numAt l) := by
            unfold listX
            rw [rowsOf_len, range_split, range_split, show 2 + 2 * (hh * dd) = 2 + hh * dd + dd * hh by rw [Nat.mul_comm dd hh]; omega, List.range_add, List.map_append, List.range_add, List.map_append, List.map_map, List.map_map]
            rw [show List.range 2 = [0, 1] from rfl, List.map_cons, List.map_cons, List.map_nil, eh, ed]
            rfl
          have hflat : flat (listX (rowsOf l 2 hh dd) (rowsOf l (2 + hh * dd) dd hh) (dd : Int)) = l.take (l.length - 4) := by
            rw [hlist, ← nums_take l _ (by omega), show l.length - 4 = 4 * (2 + 2 * (hh * dd)) by omega]
            exact flat_sg _ (by rw [List.length_take]; omega)
          unfold outX
          rw [hflat, ← Decidable.not_not.mp hcrc, List.take_append_drop]
        · simp at h
      · simp at h
theorem imp_err {l : List UInt8} {x y : List (List Int)} {d e : Int} (h : impB l = (x, y, d, e)) (he : e ≠ 0) : x = [] ∧ y = [] ∧ d = 0 := by
  unfold impB at h
  split at h
  · simp at h; exact ⟨h.1, h.2.1, h.2.2.1.symm⟩
  · split at h
    · simp at h; exact ⟨h.1, h.2.1, h.2.2.1.symm⟩
    · split at h
      · split at h
        · simp at h; exact absurd h.2.2.2.symm he
        · simp at h; exact ⟨h.1, h.2.1, h.2.2.1.symm⟩
      · simp at h; exact ⟨h.1, h.2.1, h.2.2.1.symm⟩
end Go.Proofs.Ytdcojbamfchgiaa.ChunkImp
/- What chunk.Import and the reference's answer, in plain words. -/
namespace Go.Proofs.Ytdcojbamfchgiaa.ChunkTak
open Go Go.RowKit Go.Proofs.Ytdcojbamfchgiaa.QChunk Go.Proofs.YtdcojbamfchgiaaW.PrintWords Go.Proofs.YtdcojbamfchgiaaW.PrintLast Go.Proofs.Ytdcojbamfchgiaa.Given Go.Proofs.Ytdcojbamfchgiaa.Right Go.Proofs.Ytdcojbamfchgiaa.CrcThy Go.Proofs.Ytdcojbamfchgiaa.WireThy Go.Proofs.Ytdcojbamfchgiaa.Export Go.Proofs.Ytdcojbamfchgiaa.ChunkNum Go.Proofs.Ytdcojbamfchgiaa.ChunkImp Go.Proofs.Ytdcojbamfchgiaa.ChunkCut
theorem four_is (n : Int) : RExpert.chunk_four.f n = some (fourS n) := rfl
theorem bl_len (s : ByteArray) : (bl s).length = s.size := data_length s
theorem tl (s : ByteArray) : s.toList = bl s := ByteArray.toList_eq s
theorem bl_four (n : Int) : bl (fourS n) = fourB n := fourS_bytes n
theorem crc_is (s : ByteArray) (hs : s.size ≤ 140737488351232) : crc_Sum.f s = some (crcI (bl s)) := by unfold crc_Sum.f; rw [if_pos hs]; rfl
theorem import_j1 (s : ByteArray) (hs : s.size ≤ 1000000) (h d : Nat) (hh : h ≤ 8) (hd : d ≤ 8) (hl : s.size = 4 * (3 + 2 * (h * d))) (k : Nat) (hk : 101 ≤ k) :
    chunk_Import.j1 k s (h : Int) (d : Int) false = some (if rightX (rowsOf (bl s) 2 h d) (rowsOf (bl s) (2 + h * d) d h) (d : Int) = true then (rowsOf (bl s) 2 h d, rowsOf (bl s) (2 + h * d) d h, (d : Int), 0) else ([], [], 0, 2)) := by
  obtain ⟨k, rfl⟩ : ∃ m, k = m + 1 := ⟨k - 1, by omega⟩
  have hhd : h * d ≤ 64 := Nat.mul_le_mul hh hd
  have r1 : chunk_rows.f k s 2 (h : Int) (d : Int) = some (rowsOf (bl s) 2 h d) := rows_is s (by omega) 2 h d k hh hd (by omega) (by omega)
  have r2 : chunk_rows.f k s ((2 + h * d : Nat) : Int) (d : Int) (h : Int) = some (rowsOf (bl s) (2 + h * d) d h) := rows_is s (by omega) (2 + h * d) d h k hd hh (by rw [Nat.mul_comm d h]; omega) (by omega)
  rw [chunk_Import.j1, if_neg (by decide)]
  rw [r1, Option.bind_some]
  rw [show ((h : Int) * (d : Int)) = ((h * d : Nat) : Int) by rw [Int.natCast_mul], w64 (a := ((h * d : Nat) : Int)) (by omega) (by omega), w64 (a := (2 : Int) + ((h * d : Nat) : Int)) (by omega) (by omega), show (2 : Int) + ((h * d : Nat) : Int) = ((2 + h * d : Nat) : Int) by omega, r2, Option.bind_some]
  rw [right_is, Option.bind_some]
  by_cases hr : rightX (rowsOf (bl s) 2 h d) (rowsOf (bl s) (2 + h * d) d h) (d : Int) = true
  · rw [if_pos hr, if_pos hr]
  · rw [if_neg hr, if_neg hr]
theorem import_no (s : ByteArray) (h d : Int) (k : Nat) (hk : 2 ≤ k) : chunk_Import.j1 k s h d true = some ([], [], 0, 2) := by
  obtain ⟨k, rfl⟩ : ∃ m, k = m + 1 := ⟨k - 1, by omega⟩
  rw [chunk_Import.j1, if_pos rfl]
theorem import_is (s : ByteArray) (hs : s.size ≤ 1000000) (k : Nat) (hk : 110 ≤ k) : chunk_Import.f k s = some (impB (bl s)) := by
  obtain ⟨k, rfl⟩ : ∃ m, k = m + 1 := ⟨k - 1, by omega⟩
  have hl := bl_len s
  unfold chunk_Import.f impB
  by_cases h1 : (s.size : Int) < 12
  · rw [if_pos h1, chunk_Import.j0, if_pos rfl, if_pos (.inl (by omega))]
  · by_cases h2 : (s.size : Int) % 4 = 0
    · rw [if_neg h1, show (((s.size : Int) % 4) != 0) = false from bne_eq_false_iff_eq.mpr h2, chunk_Import.j0, if_neg (by decide), w64 (a := (s.size : Int) - 4) (by omega) (by omega), if_pos (by omega), if_pos (by omega), if_neg (by omega)]
      have e4 : ((s.size : Int) - 4).toNat = (bl s).length - 4 := by omega
      rw [e4, tl, bl_extract, ← hl, List.take_length]
      rw [crc_is _ (by rw [ByteArray.size_extract]; omega), Option.bind_some, four_is, Option.bind_some, tl, bl_four, bl_extract, List.drop_zero]
      by_cases h3 : (bl s).drop ((bl s).length - 4) = fourB (crcI ((bl s).take ((bl s).length - 4)))
      · rw [if_pos h3, if_neg (fun h => h h3)]
        have n0 := number_is s (by omega) 0 (by omega)
        have n1 := number_is s (by omega) 1 (by omega)
        rw [show ((0 : Nat) : Int) = 0 from rfl] at n0
        rw [show ((1 : Nat) : Int) = 1 from rfl] at n1
        rw [n0, Option.bind_some, n1, Option.bind_some]
        change (if numAt (bl s) 0 < 1 then _ else _) = _
        obtain ⟨H, hH⟩ : ∃ x, numAt (bl s) 0 = x := ⟨_, rfl⟩
        obtain ⟨D, hD⟩ : ∃ x, numAt (bl s) 1 = x := ⟨_, rfl⟩
        change (if numAt (bl s) 0 < 1 then chunk_Import.j1 k s (numAt (bl s) 0) (numAt (bl s) 1) true else if numAt (bl s) 0 > 8 then chunk_Import.j1 k s (numAt (bl s) 0) (numAt (bl s) 1) true else if numAt (bl s) 1 < 1 then chunk_Import.j1 k s (numAt (bl s) 0) (numAt (bl s) 1) true else if numAt (bl s) 1 > 8 then chunk_Import.j1 k s (numAt (bl s) 0) (numAt (bl s) 1) true else chunk_Import.j1 k s (numAt (bl s) 0) (numAt (bl s) 1) ((((bl s).length : Nat) : Int) != wrap64 (4 * wrap64 (3 + wrap64 (wrap64 (2 * numAt (bl s) 0) * numAt (bl s) 1))))) = _
        rw [hH, hD]
        by_cases a1 : H < 1
        · rw [if_pos a1, import_no _ _ _ _ (by omega), if_neg (by omega)]
        · by_cases a2 : H > 8
          · rw [if_neg a1, if_pos a2, import_no _ _ _ _ (by omega), if_neg (by omega)]
          · by_cases a3 : D < 1
            · rw [if_neg a1, if_neg a2, if_pos a3, import_no _ _ _ _ (by omega), if_neg (by omega)]
            · by_cases a4 : D > 8
              · rw [if_neg a1, if_neg a2, if_neg a3, if_pos a4, import_no _ _ _ _ (by omega), if_neg (by omega)]
              · rw [if_neg a1, if_neg a2, if_neg a3, if_neg a4]
                obtain ⟨h, rfl⟩ : ∃ n : Nat, H = (n : Int) := ⟨H.toNat, by omega⟩
                obtain ⟨d, rfl⟩ : ∃ n : Nat, D = (n : Int) := ⟨D.toNat, by omega⟩
                have hhd : h * d ≤ 64 := Nat.mul_le_mul (show h ≤ 8 by omega) (show d ≤ 8 by omega)
                have hm : (2 * (h : Int) * (d : Int)) = ((2 * (h * d) : Nat) : Int) := by rw [Int.natCast_mul, Int.natCast_mul, Int.mul_assoc]; rfl
                rw [w64 (a := 2 * (h : Int)) (by omega) (by omega), hm, w64 (a := ((2 * (h * d) : Nat) : Int)) (by omega) (by omega), w64 (a := 3 + ((2 * (h * d) : Nat) : Int)) (by omega) (by omega), w64 (a := 4 * (3 + ((2 * (h * d) : Nat) : Int))) (by omega) (by omega)]
                by_cases a5 : ((bl s).length : Int) = 4 * (3 + ((2 * (h * d) : Nat) : Int))
                · rw [show ((((bl s).length : Nat) : Int) != 4 * (3 + ((2 * (h * d) : Nat) : Int))) = false from bne_eq_false_iff_eq.mpr a5, import_j1 s hs h d (by omega) (by omega) (by omega) k (by omega), if_pos (show 1 ≤ (h : Int) ∧ (h : Int) ≤ 8 ∧ 1 ≤ (d : Int) ∧ (d : Int) ≤ 8 ∧ ((bl s).length : Int) = 4 * (3 + ((2 * (h * d) : Nat) : Int)) from ⟨by omega, by omega, by omega, by omega, a5⟩), Int.toNat_natCast, Int.toNat_natCast]
                · rw [show ((((bl s).length : Nat) : Int) != 4 * (3 + ((2 * (h * d) : Nat) : Int))) = true from bne_iff_ne.mpr a5, import_no _ _ _ _ (by omega), if_neg (fun (hx : 1 ≤ (h : Int) ∧ (h : Int) ≤ 8 ∧ 1 ≤ (d : Int) ∧ (d : Int) ≤ 8 ∧ ((bl s).length : Int) = 4 * (3 + ((2 * (h * d) : Nat) : Int))) => a5 hx.2.2.2.2)]
      · rw [if_neg h3, if_pos h3]
    · rw [if_neg h1, show (((s.size : Int) % 4) != 0) = true from bne_iff_ne.mpr h2, chunk_Import.j0, if_pos rfl, if_pos (.inr (by omega))]
end Go.Proofs.Ytdcojbamfchgiaa.ChunkTak
/- chunk.Export, chunk.Join in plain words; the fixed answer. -/
namespace Go.Proofs.Ytdcojbamfchgiaa.ChunkAwk
open Go Go.RowKit Go.Proofs.Ytdcojbamfchgiaa.QChunk Go.Proofs.YtdcojbamfchgiaaW.PrintWords Go.Proofs.YtdcojbamfchgiaaW.PrintLast Go.Proofs.Ytdcojbamfchgiaa.Given Go.Proofs.Ytdcojbamfchgiaa.Right Go.Proofs.Ytdcojbamfchgiaa.CrcThy Go.Proofs.Ytdcojbamfchgiaa.WireThy Go.Proofs.Ytdcojbamfchgiaa.Export Go.Proofs.Ytdcojbamfchgiaa.Join Go.Proofs.Ytdcojbamfchgiaa.ChunkNum Go.Proofs.Ytdcojbamfchgiaa.ChunkImp Go.Proofs.Ytdcojbamfchgiaa.ChunkCut Go.Proofs.Ytdcojbamfchgiaa.ChunkTak
noncomputable def outS (x y : List (List Int)) (d : Int) : ByteArray := ⟨(outX x y d).toArray⟩
theorem bl_out (x y : List (List Int)) (d : Int) : bl (outS x y d) = outX x y d := rfl
theorem out_size {x y : List (List Int)} {d : Int} (h : rightX x y d = true) : (outS x y d).size = 12 + 8 * (x.length * d.toNat) := by rw [← bl_len, bl_out, outX_len h]
theorem out_small {x y : List (List Int)} {d : Int} (h : rightX x y d = true) : (outS x y d).size ≤ 600 := by
  have p := right_p h
  have : x.length * d.toNat ≤ 8 * 8 := Nat.mul_le_mul p.h8 p.d8
  rw [out_size h]; omega
theorem export_yes {x y : List (List Int)} {d : Int} (h : rightX x y d = true) : chunk_Export.f x y d = some (outS x y d, 0) := by
  unfold chunk_Export.f; rw [right_is, h]; rfl
theorem export_no {x y : List (List Int)} {d : Int} (h : rightX x y d = false) : chunk_Export.f x y d = some (⟨#[]⟩, 1) := by
  unfold chunk_Export.f; rw [right_is, h]; rfl
theorem import_out {x y : List (List Int)} {d : Int} (h : rightX x y d = true) (k : Nat) (hk : 110 ≤ k) : chunk_Import.f k (outS x y d) = some (x, y, d, 0) := by
  rw [import_is _ (by have := out_small h; omega) k hk, bl_out, imp_out h]
theorem join_is (l : List ByteArray) (h1 : l.length ≤ 1000000) (h2 : (l.map bl).flatten.length ≤ 1000000) : chunk_Join.f l = some ⟨((l.map bl).flatten).toArray⟩ := by
  unfold chunk_Join.f
  have e : joined l = (l.map bl).flatten := rfl
  rw [if_pos ⟨by omega, by rw [e]; omega⟩, e]
theorem ba_eq {s t : ByteArray} (h : bl s = bl t) : s = t := by
  unfold bl at h
  exact ByteArray.ext (Array.toList_inj.mp h)
theorem ba_list (s : ByteArray) : (⟨(bl s).toArray⟩ : ByteArray) = s := ba_eq rfl
theorem len_le : ∀ L : List (List UInt8), (∀ p ∈ L, p ≠ []) → L.length ≤ L.flatten.length
  | [], _ => by simp
  | p :: L, h => by
    have hp : 0 < p.length := List.length_pos_iff.mpr (h p List.mem_cons_self)
    have := len_le L (fun q hq => h q (List.mem_cons_of_mem _ hq))
    rw [List.flatten_cons, List.length_append, List.length_cons]; omega
theorem cut_count (s : ByteArray) (l : List ByteArray) (n : Nat) (hn : 1 ≤ n) (h : l.map bl = cutB n (bl s)) : l.length ≤ s.size := by
  have h1 := len_le (cutB n (bl s)) (fun p hp => by
    obtain ⟨i, hi, rfl⟩ := List.mem_iff_getElem.mp hp
    exact (cutB_piece n hn (bl s) i _ (List.getElem?_eq_getElem hi)).2.1)
  rw [cutB_flat n hn, bl_len, ← h, List.length_map] at h1
  exact h1
/-- The pieces, joined. -/
theorem join_cut (s : ByteArray) (l : List ByteArray) (n : Nat) (hn : 1 ≤ n) (hs : s.size ≤ 10000) (h : l.map bl = cutB n (bl s)) : chunk_Join.f l = some s := by
  have hf : (l.map bl).flatten = bl s := by rw [h, cutB_flat n hn]
  have hlen := cut_count s l n hn h
  rw [join_is l (by omega) (by rw [hf, bl_len]; omega), hf, ba_list]
theorem awake_is (k : Nat) (hk : 200 ≤ k) : switchboardlaw16_awake.f k = some true := by
  have hr : rightX [[1]] [[2]] 1 = true := by decide
  obtain ⟨l, hl, hb⟩ := cut_is (⟨#[97, 98, 99]⟩ : ByteArray) 2 k (by omega) (by omega) (by decide) (by have : (⟨#[97, 98, 99]⟩ : ByteArray).size = 3 := rfl; omega)
  have hj := join_cut (⟨#[97, 98, 99]⟩ : ByteArray) l 2 (by omega) (by decide) hb
  have hsz := out_size hr
  rw [show cutB 2 (bl (⟨#[97, 98, 99]⟩ : ByteArray)) = [[97, 98], [99]] from by decide] at hb
  unfold switchboardlaw16_awake.f
  rw [export_yes hr, Option.bind_some, import_out hr k (by omega), Option.bind_some, show (2 : Int) = ((2 : Nat) : Int) from rfl, hl, Option.bind_some]
  have hl2 : l.length = 2 := by have := congrArg List.length hb; simpa using this
  match l, hl2 with
  | [s0, s1], _ =>
    simp only [List.map_cons, List.map_nil, List.cons.injEq, and_true] at hb
    have h1 : (rdOf ByteArray.empty [s0, s1] 1).toList = [99] := by rw [tl]; exact hb.2
    simp only [h1, hj, Option.bind_some, tl]
    rfl
end Go.Proofs.Ytdcojbamfchgiaa.ChunkAwk
