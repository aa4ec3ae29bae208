import Derived.Test.YtdcojbamfchgiaaQChunkx33
import Derived.Test.YtdcojbamfchgiaaChunkAwk
import Derived.Test.YtdcojbamfchgiaaBytesRow
namespace Go.Proofs.Ytdcojbamfchgiaa.Pure
open Go Go.RowKit Go.Proofs.Ytdcojbamfchgiaa.QChunk Go.Proofs.YtdcojbamfchgiaaW.PrintWords Go.Proofs.YtdcojbamfchgiaaW.PrintLast Go.Proofs.Ytdcojbamfchgiaa.Join Go.Proofs.Ytdcojbamfchgiaa.ChunkNum Go.Proofs.Ytdcojbamfchgiaa.ChunkCut Go.Proofs.Ytdcojbamfchgiaa.ChunkTak Go.Proofs.Ytdcojbamfchgiaa.ChunkAwk

theorem cuts_rd (l : List ByteArray) (i : Nat) (h : i < l.length) : rdOf ByteArray.empty l (i : Int) = l[i] := by
  unfold rdOf
  rw [Int.toNat_natCast, List.getD_eq_getElem?_getD, List.getElem?_eq_getElem h, Option.getD_some]
theorem cuts_l0 (s : ByteArray) (l : List ByteArray) (n : Nat) (hn : 1 ≤ n) (hs : s.size ≤ 600) (hb : l.map bl = cutB n (bl s)) (d : Nat) : ∀ (k i : Nat), 300 + d ≤ k → i + d = l.length →
    switchboardlaw16_ChunkCuts.l0 k s (n : Int) l true l (l.length : Int) (i : Int) = some true := by
  have hlen := cut_count s l n hn hb
  induction d with
  | zero =>
    intro k i hk hi
    obtain ⟨k, rfl⟩ : ∃ m, k = m + 1 := ⟨k - 1, by omega⟩
    rw [switchboardlaw16_ChunkCuts.l0, if_neg (by omega), if_pos rfl, join_cut s l n hn (by omega) hb, Option.bind_some, if_pos rfl, awake_is k (by omega), Option.bind_some]
  | succ d ih =>
    intro k i hk hi
    obtain ⟨k, rfl⟩ : ∃ m, k = m + 1 := ⟨k - 1, by omega⟩
    have hil : i < l.length := by omega
    have hp := cutB_piece n hn (bl s) i (bl l[i]) (by rw [← hb, List.getElem?_map, List.getElem?_eq_getElem hil]; rfl)
    rw [bl_len] at hp
    have hc : (cutB n (bl s)).length = l.length := by rw [← hb, List.length_map]
    rw [hc] at hp
    have hnx := ih k (i + 1) (by omega) (by omega)
    rw [switchboardlaw16_ChunkCuts.l0, if_pos (by omega), if_pos (by omega), if_pos (by omega), cuts_rd l i hil, if_neg (by omega), if_neg (by rw [tl]; exact hp.2.1), w64 (a := (i : Int) + 1) (by omega) (by omega), show (i : Int) + 1 = ((i + 1 : Nat) : Int) by omega, w64 (a := (l.length : Int) - 1) (by omega) (by omega), hnx]
    by_cases hlast : (i : Int) < (l.length : Int) - 1
    · rw [if_pos hlast, if_pos (by have := hp.2.2 (by omega); omega)]
    · rw [if_neg hlast]
theorem ChunkCuts : switchboardlaw16_ChunkCuts.Pure := by
  intro s a1 hs hw
  have hr := BytesRow.wf_in (m := 0) (n := 255) hw rfl rfl
  refine ⟨2000, ?_⟩
  unfold switchboardlaw16_ChunkCuts.f
  by_cases h : (s.size : Int) > 600
  · rw [if_pos h, awake_is 2000 (by omega), Option.bind_some]
  · have hm : Int.tmod a1 64 = a1 % 64 := Int.tmod_eq_emod_of_nonneg (by omega)
    rw [if_neg h, hm, w64 (a := a1 % 64) (by omega) (by omega), w64 (a := 1 + a1 % 64) (by omega) (by omega)]
    obtain ⟨n, hn⟩ : ∃ n : Nat, 1 + a1 % 64 = (n : Int) := ⟨(1 + a1 % 64).toNat, by omega⟩
    rw [hn]
    obtain ⟨l, hl, hb⟩ := cut_is s n 2000 (by omega) (by omega) (by omega) (by omega)
    rw [hl, Option.bind_some]
    have hlen := cut_count s l n (by omega) hb
    exact cuts_l0 s l n (by omega) (by omega) hb l.length 2000 0 (by omega) (by omega)
end Go.Proofs.Ytdcojbamfchgiaa.Pure
