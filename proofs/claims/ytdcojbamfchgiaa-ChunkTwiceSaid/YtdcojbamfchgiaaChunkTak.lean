/- What chunk.Import and the reference's answer, in plain words. -/
import Derived.Test.YtdcojbamfchgiaaQChunkx15
import Derived.Test.YtdcojbamfchgiaaChunkImp
import Derived.Test.YtdcojbamfchgiaaChunkCut
namespace Go.Proofs.Ytdcojbamfchgiaa.ChunkTak
open Go Go.RowKit Go.Proofs.Ytdcojbamfchgiaa.QChunk Go.Proofs.YtdcojbamfchgiaaW.PrintWords Go.Proofs.YtdcojbamfchgiaaW.PrintLast Go.Proofs.Ytdcojbamfchgiaa.Given Go.Proofs.Ytdcojbamfchgiaa.Right Go.Proofs.Ytdcojbamfchgiaa.CrcThy Go.Proofs.Ytdcojbamfchgiaa.WireThy Go.Proofs.Ytdcojbamfchgiaa.Export Go.Proofs.Ytdcojbamfchgiaa.ChunkNum Go.Proofs.Ytdcojbamfchgiaa.ChunkImp Go.Proofs.Ytdcojbamfchgiaa.ChunkCut
theorem four_is (n : Int) : RExpert.chunk_four.f n = some (fourS n) := rfl
theorem bl_len (s : ByteArray) : (bl s).length = s.size := data_length s
theorem tl (s : ByteArray) : s.toList = bl s := ByteArray.toList_eq s
theorem bl_four (n : Int) : bl (fourS n) = fourB n := fourS_bytes n
theorem crc_is (s : ByteArray) (hs : s.size ≤ 140737488351232) : crc_Sum.f s = some (crcI (bl s)) := by unfold crc_Sum.f; rw [if_pos hs]; rfl
theorem import_j1 (s : ByteArray) (hs : s.size ≤ 1000000) (h d : Nat) (hh : h ≤ 8) (hd : d ≤ 8) (hl : s.size = 4 * (3 + 2 * (h * d))) (k : Nat) (hk : 101 ≤ k) :
    chunk_Import.j1 k s (h : Int) (d : Int) false = some (if rightX (rowsOf (bl s) 2 h d) (rowsOf (bl s) (2 + h * d) d h) (d : Int) = true then (rowsOf (bl s) 2 h d, rowsOf (bl s) (2 + h * d) d h, (d : Int), 0) else ([], [], 0, 2)) := by
  obtain ⟨k, rfl⟩ : ∃ m, k = m + 1 := ⟨k - 1, by omega⟩
  have hhd : h * d ≤ 64 := Nat.mul_le_mul hh hd
  have r1 : chunk_rows.f k s 2 (h : Int) (d : Int) = some (rowsOf (bl s) 2 h d) := rows_is s (by omega) 2 h d k hh hd (by omega) (by omega)
  have r2 : chunk_rows.f k s ((2 + h * d : Nat) : Int) (d : Int) (h : Int) = some (rowsOf (bl s) (2 + h * d) d h) := rows_is s (by omega) (2 + h * d) d h k hd hh (by rw [Nat.mul_comm d h]; omega) (by omega)
  rw [chunk_Import.j1, if_neg (by decide)]
  rw [r1, Option.bind_some]
  rw [show ((h : Int) * (d : Int)) = ((h * d : Nat) : Int) by rw [Int.natCast_mul], w64 (a := ((h * d : Nat) : Int)) (by omega) (by omega), w64 (a := (2 : Int) + ((h * d : Nat) : Int)) (by omega) (by omega), show (2 : Int) + ((h * d : Nat) : Int) = ((2 + h * d : Nat) : Int) by omega, r2, Option.bind_some]
  rw [right_is, Option.bind_some]
  by_cases hr : rightX (rowsOf (bl s) 2 h d) (rowsOf (bl s) (2 + h * d) d h) (d : Int) = true
  · rw [if_pos hr, if_pos hr]
  · rw [if_neg hr, if_neg hr]
theorem import_no (s : ByteArray) (h d : Int) (k : Nat) (hk : 2 ≤ k) : chunk_Import.j1 k s h d true = some ([], [], 0, 2) := by
  obtain ⟨k, rfl⟩ : ∃ m, k = m + 1 := ⟨k - 1, by omega⟩
  rw [chunk_Import.j1, if_pos rfl]
theorem import_is (s : ByteArray) (hs : s.size ≤ 1000000) (k : Nat) (hk : 110 ≤ k) : chunk_Import.f k s = some (impB (bl s)) := by
  obtain ⟨k, rfl⟩ : ∃ m, k = m + 1 := ⟨k - 1, by omega⟩
  have hl := bl_len s
  unfold chunk_Import.f impB
  by_cases h1 : (s.size : Int) < 12
  · rw [if_pos h1, chunk_Import.j0, if_pos rfl, if_pos (.inl (by omega))]
  · by_cases h2 : (s.size : Int) % 4 = 0
    · rw [if_neg h1, show (((s.size : Int) % 4) != 0) = false from bne_eq_false_iff_eq.mpr h2, chunk_Import.j0, if_neg (by decide), w64 (a := (s.size : Int) - 4) (by omega) (by omega), if_pos (by omega), if_pos (by omega), if_neg (by omega)]
      have e4 : ((s.size : Int) - 4).toNat = (bl s).length - 4 := by omega
      rw [e4, tl, bl_extract, ← hl, List.take_length]
      rw [crc_is _ (by rw [ByteArray.size_extract]; omega), Option.bind_some, four_is, Option.bind_some, tl, bl_four, bl_extract, List.drop_zero]
      by_cases h3 : (bl s).drop ((bl s).length - 4) = fourB (crcI ((bl s).take ((bl s).length - 4)))
      · rw [if_pos h3, if_neg (fun h => h h3)]
        have n0 := number_is s (by omega) 0 (by omega)
        have n1 := number_is s (by omega) 1 (by omega)
        rw [show ((0 : Nat) : Int) = 0 from rfl] at n0
        rw [show ((1 : Nat) : Int) = 1 from rfl] at n1
        rw [n0, Option.bind_some, n1, Option.bind_some]
        change (if numAt (bl s) 0 < 1 then _ else _) = _
        obtain ⟨H, hH⟩ : ∃ x, numAt (bl s) 0 = x := ⟨_, rfl⟩
        obtain ⟨D, hD⟩ : ∃ x, numAt (bl s) 1 = x := ⟨_, rfl⟩
        change (if numAt (bl s) 0 < 1 then chunk_Import.j1 k s (numAt (bl s) 0) (numAt (bl s) 1) true else if numAt (bl s) 0 > 8 then chunk_Import.j1 k s (numAt (bl s) 0) (numAt (bl s) 1) true else if numAt (bl s) 1 < 1 then chunk_Import.j1 k s (numAt (bl s) 0) (numAt (bl s) 1) true else if numAt (bl s) 1 > 8 then chunk_Import.j1 k s (numAt (bl s) 0) (numAt (bl s) 1) true else chunk_Import.j1 k s (numAt (bl s) 0) (numAt (bl s) 1) ((((bl s).length : Nat) : Int) != wrap64 (4 * wrap64 (3 + wrap64 (wrap64 (2 * numAt (bl s) 0) * numAt (bl s) 1))))) = _
        rw [hH, hD]
        by_cases a1 : H < 1
        · rw [if_pos a1, import_no _ _ _ _ (by omega), if_neg (by omega)]
        · by_cases a2 : H > 8
          · rw [if_neg a1, if_pos a2, import_no _ _ _ _ (by omega), if_neg (by omega)]
          · by_cases a3 : D < 1
            · rw [if_neg a1, if_neg a2, if_pos a3, import_no _ _ _ _ (by omega), if_neg (by omega)]
            · by_cases a4 : D > 8
              · rw [if_neg a1, if_neg a2, if_neg a3, if_pos a4, import_no _ _ _ _ (by omega), if_neg (by omega)]
              · rw [if_neg a1, if_neg a2, if_neg a3, if_neg a4]
                obtain ⟨h, rfl⟩ : ∃ n : Nat, H = (n : Int) := ⟨H.toNat, by omega⟩
                obtain ⟨d, rfl⟩ : ∃ n : Nat, D = (n : Int) := ⟨D.toNat, by omega⟩
                have hhd : h * d ≤ 64 := Nat.mul_le_mul (show h ≤ 8 by omega) (show d ≤ 8 by omega)
                have hm : (2 * (h : Int) * (d : Int)) = ((2 * (h * d) : Nat) : Int) := by rw [Int.natCast_mul, Int.natCast_mul, Int.mul_assoc]; rfl
                rw [w64 (a := 2 * (h : Int)) (by omega) (by omega), hm, w64 (a := ((2 * (h * d) : Nat) : Int)) (by omega) (by omega), w64 (a := 3 + ((2 * (h * d) : Nat) : Int)) (by omega) (by omega), w64 (a := 4 * (3 + ((2 * (h * d) : Nat) : Int))) (by omega) (by omega)]
                by_cases a5 : ((bl s).length : Int) = 4 * (3 + ((2 * (h * d) : Nat) : Int))
                · rw [show ((((bl s).length : Nat) : Int) != 4 * (3 + ((2 * (h * d) : Nat) : Int))) = false from bne_eq_false_iff_eq.mpr a5, import_j1 s hs h d (by omega) (by omega) (by omega) k (by omega), if_pos (show 1 ≤ (h : Int) ∧ (h : Int) ≤ 8 ∧ 1 ≤ (d : Int) ∧ (d : Int) ≤ 8 ∧ ((bl s).length : Int) = 4 * (3 + ((2 * (h * d) : Nat) : Int)) from ⟨by omega, by omega, by omega, by omega, a5⟩), Int.toNat_natCast, Int.toNat_natCast]
                · rw [show ((((bl s).length : Nat) : Int) != 4 * (3 + ((2 * (h * d) : Nat) : Int))) = true from bne_iff_ne.mpr a5, import_no _ _ _ _ (by omega), if_neg (fun (hx : 1 ≤ (h : Int) ∧ (h : Int) ≤ 8 ∧ 1 ≤ (d : Int) ∧ (d : Int) ≤ 8 ∧ ((bl s).length : Int) = 4 * (3 + ((2 * (h * d) : Nat) : Int))) => a5 hx.2.2.2.2)]
      · rw [if_neg h3, if_pos h3]
    · rw [if_neg h1, show (((s.size : Int) % 4) != 0) = true from bne_iff_ne.mpr h2, chunk_Import.j0, if_pos rfl, if_pos (.inr (by omega))]
end Go.Proofs.Ytdcojbamfchgiaa.ChunkTak
