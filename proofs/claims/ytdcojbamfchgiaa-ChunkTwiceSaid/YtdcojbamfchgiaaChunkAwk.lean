/- chunk.Export, chunk.Join in plain words; the fixed answer. -/
import Derived.Test.YtdcojbamfchgiaaQChunkx16
import Derived.Test.YtdcojbamfchgiaaChunkTak
import Derived.Test.YtdcojbamfchgiaaJoin
namespace Go.Proofs.Ytdcojbamfchgiaa.ChunkAwk
open Go Go.RowKit Go.Proofs.Ytdcojbamfchgiaa.QChunk Go.Proofs.YtdcojbamfchgiaaW.PrintWords Go.Proofs.YtdcojbamfchgiaaW.PrintLast Go.Proofs.Ytdcojbamfchgiaa.Given Go.Proofs.Ytdcojbamfchgiaa.Right Go.Proofs.Ytdcojbamfchgiaa.CrcThy Go.Proofs.Ytdcojbamfchgiaa.WireThy Go.Proofs.Ytdcojbamfchgiaa.Export Go.Proofs.Ytdcojbamfchgiaa.Join Go.Proofs.Ytdcojbamfchgiaa.ChunkNum Go.Proofs.Ytdcojbamfchgiaa.ChunkImp Go.Proofs.Ytdcojbamfchgiaa.ChunkCut Go.Proofs.Ytdcojbamfchgiaa.ChunkTak
noncomputable def outS (x y : List (List Int)) (d : Int) : ByteArray := ⟨(outX x y d).toArray⟩
theorem bl_out (x y : List (List Int)) (d : Int) : bl (outS x y d) = outX x y d := rfl
theorem out_size {x y : List (List Int)} {d : Int} (h : rightX x y d = true) : (outS x y d).size = 12 + 8 * (x.length * d.toNat) := by rw [← bl_len, bl_out, outX_len h]
theorem out_small {x y : List (List Int)} {d : Int} (h : rightX x y d = true) : (outS x y d).size ≤ 600 := by
  have p := right_p h
  have : x.length * d.toNat ≤ 8 * 8 := Nat.mul_le_mul p.h8 p.d8
  rw [out_size h]; omega
theorem export_yes {x y : List (List Int)} {d : Int} (h : rightX x y d = true) : chunk_Export.f x y d = some (outS x y d, 0) := by
  unfold chunk_Export.f; rw [right_is, h]; rfl
theorem export_no {x y : List (List Int)} {d : Int} (h : rightX x y d = false) : chunk_Export.f x y d = some (⟨#[]⟩, 1) := by
  unfold chunk_Export.f; rw [right_is, h]; rfl
theorem import_out {x y : List (List Int)} {d : Int} (h : rightX x y d = true) (k : Nat) (hk : 110 ≤ k) : chunk_Import.f k (outS x y d) = some (x, y, d, 0) := by
  rw [import_is _ (by have := out_small h; omega) k hk, bl_out, imp_out h]
theorem join_is (l : List ByteArray) (h1 : l.length ≤ 1000000) (h2 : (l.map bl).flatten.length ≤ 1000000) : chunk_Join.f l = some ⟨((l.map bl).flatten).toArray⟩ := by
  unfold chunk_Join.f
  have e : joined l = (l.map bl).flatten := rfl
  rw [if_pos ⟨by omega, by rw [e]; omega⟩, e]
theorem ba_eq {s t : ByteArray} (h : bl s = bl t) : s = t := by
  unfold bl at h
  exact ByteArray.ext (Array.toList_inj.mp h)
theorem ba_list (s : ByteArray) : (⟨(bl s).toArray⟩ : ByteArray) = s := ba_eq rfl
theorem len_le : ∀ L : List (List UInt8), (∀ p ∈ L, p ≠ []) → L.length ≤ L.flatten.length
  | [], _ => by simp
  | p :: L, h => by
    have hp : 0 < p.length := List.length_pos_iff.mpr (h p List.mem_cons_self)
    have := len_le L (fun q hq => h q (List.mem_cons_of_mem _ hq))
    rw [List.flatten_cons, List.length_append, List.length_cons]; omega
theorem cut_count (s : ByteArray) (l : List ByteArray) (n : Nat) (hn : 1 ≤ n) (h : l.map bl = cutB n (bl s)) : l.length ≤ s.size := by
  have h1 := len_le (cutB n (bl s)) (fun p hp => by
    obtain ⟨i, hi, rfl⟩ := List.mem_iff_getElem.mp hp
    exact (cutB_piece n hn (bl s) i _ (List.getElem?_eq_getElem hi)).2.1)
  rw [cutB_flat n hn, bl_len, ← h, List.length_map] at h1
  exact h1
/-- The pieces, joined. -/
theorem join_cut (s : ByteArray) (l : List ByteArray) (n : Nat) (hn : 1 ≤ n) (hs : s.size ≤ 10000) (h : l.map bl = cutB n (bl s)) : chunk_Join.f l = some s := by
  have hf : (l.map bl).flatten = bl s := by rw [h, cutB_flat n hn]
  have hlen := cut_count s l n hn h
  rw [join_is l (by omega) (by rw [hf, bl_len]; omega), hf, ba_list]
theorem awake_is (k : Nat) (hk : 200 ≤ k) : switchboardlaw16_awake.f k = some true := by
  have hr : rightX [[1]] [[2]] 1 = true := by decide
  obtain ⟨l, hl, hb⟩ := cut_is (⟨#[97, 98, 99]⟩ : ByteArray) 2 k (by omega) (by omega) (by decide) (by have : (⟨#[97, 98, 99]⟩ : ByteArray).size = 3 := rfl; omega)
  have hj := join_cut (⟨#[97, 98, 99]⟩ : ByteArray) l 2 (by omega) (by decide) hb
  have hsz := out_size hr
  rw [show cutB 2 (bl (⟨#[97, 98, 99]⟩ : ByteArray)) = [[97, 98], [99]] from by decide] at hb
  unfold switchboardlaw16_awake.f
  rw [export_yes hr, Option.bind_some, import_out hr k (by omega), Option.bind_some, show (2 : Int) = ((2 : Nat) : Int) from rfl, hl, Option.bind_some]
  have hl2 : l.length = 2 := by have := congrArg List.length hb; simpa using this
  match l, hl2 with
  | [s0, s1], _ =>
    simp only [List.map_cons, List.map_nil, List.cons.injEq, and_true] at hb
    have h1 : (rdOf ByteArray.empty [s0, s1] 1).toList = [99] := by rw [tl]; exact hb.2
    simp only [h1, hj, Option.bind_some, tl]
    rfl
end Go.Proofs.Ytdcojbamfchgiaa.ChunkAwk
