import Derived.Test.YtdcojbamfchgiaaQChunkx21
import Derived.Test.YtdcojbamfchgiaaChunkAwk
import Derived.Test.YtdcojbamfchgiaaBytesRow
namespace Go.Proofs.Ytdcojbamfchgiaa.Pure
open Go Go.RowKit Go.Proofs.Ytdcojbamfchgiaa.QChunk Go.Proofs.YtdcojbamfchgiaaW.PrintWords Go.Proofs.YtdcojbamfchgiaaW.PrintLast Go.Proofs.Ytdcojbamfchgiaa.Join Go.Proofs.Ytdcojbamfchgiaa.ChunkNum Go.Proofs.Ytdcojbamfchgiaa.ChunkCut Go.Proofs.Ytdcojbamfchgiaa.ChunkTak Go.Proofs.Ytdcojbamfchgiaa.ChunkAwk

theorem twice_rd (l : List ByteArray) (i : Nat) (h : i < l.length) : rdOf ByteArray.empty l (i : Int) = l[i] := by
  unfold rdOf
  rw [Int.toNat_natCast, List.getD_eq_getElem?_getD, List.getElem?_eq_getElem h, Option.getD_some]
theorem ba_maps : ∀ {l m : List ByteArray}, l.map bl = m.map bl → l = m
  | [], [], _ => rfl
  | [], _ :: _, h => by simp at h
  | _ :: _, [], h => by simp at h
  | a :: l, b :: m, h => by
    rw [List.map_cons, List.map_cons] at h
    injection h with h1 h2
    rw [ba_eq h1, ba_maps h2]
theorem twice_l1 (s : ByteArray) (l : List ByteArray) (n : Nat) (hn : 1 ≤ n) (hs : s.size ≤ 600) (hb : l.map bl = cutB n (bl s)) (d : Nat) : ∀ (k i : Nat), 300 + d ≤ k → i + d = l.length →
    switchboardlaw16_ChunkTwice.l1 k s l l (l.length : Int) (i : Int) = some true := by
  have hlen := cut_count s l n hn hb
  induction d with
  | zero =>
    intro k i hk hi
    obtain ⟨k, rfl⟩ : ∃ m, k = m + 1 := ⟨k - 1, by omega⟩
    rw [switchboardlaw16_ChunkTwice.l1, if_neg (by omega), join_cut s l n hn (by omega) hb, Option.bind_some, if_pos rfl, awake_is k (by omega), Option.bind_some]
  | succ d ih =>
    intro k i hk hi
    obtain ⟨k, rfl⟩ : ∃ m, k = m + 1 := ⟨k - 1, by omega⟩
    have hnx := ih k (i + 1) (by omega) (by omega)
    rw [switchboardlaw16_ChunkTwice.l1, if_pos (by omega), if_pos (by omega), if_pos (by omega), if_pos (by omega), if_pos rfl, w64 (a := (i : Int) + 1) (by omega) (by omega), show (i : Int) + 1 = ((i + 1 : Nat) : Int) by omega, hnx]
theorem twice_l0 (s : ByteArray) (l once : List ByteArray) (a m : Nat) (ha : 1 ≤ a) (ha8 : a ≤ 8) (hm : 1 ≤ m) (hs : s.size ≤ 600) (hb : l.map bl = cutB (a * m) (bl s)) (ho : once.map bl = cutB a (bl s)) (d : Nat) : ∀ (k i : Nat) (all : List ByteArray), 1700 + d ≤ k → i + d = l.length →
    all.map bl = ((l.take i).map bl).flatMap (cutB a) →
    switchboardlaw16_ChunkTwice.l0 k s (a : Int) true once true all l (l.length : Int) (i : Int) = some true := by
  have hab : 1 ≤ a * m := Nat.mul_pos ha hm
  have hlen := cut_count s l (a * m) hab hb
  have holen := cut_count s once a ha ho
  induction d with
  | zero =>
    intro k i all hk hi hall
    obtain ⟨k, rfl⟩ : ∃ m, k = m + 2 := ⟨k - 2, by omega⟩
    have heq : all = once := by
      apply ba_maps
      rw [hall, ho, show i = l.length by omega, List.take_length, hb, cut_twice a m ha hm]
    subst heq
    rw [switchboardlaw16_ChunkTwice.l0, if_neg (by omega), if_pos rfl, if_pos rfl, show ((all.length : Int) != (all.length : Int)) = false from bne_self_eq_false _, switchboardlaw16_ChunkTwice.j1, if_neg (by decide)]
    exact twice_l1 s all a ha hs ho all.length k 0 (by omega) (by omega)
  | succ d ih =>
    intro k i all hk hi hall
    obtain ⟨k, rfl⟩ : ∃ m, k = m + 1 := ⟨k - 1, by omega⟩
    have hil : i < l.length := by omega
    have hp := cutB_piece (a * m) hab (bl s) i (bl l[i]) (by rw [← hb, List.getElem?_map, List.getElem?_eq_getElem hil]; rfl)
    have hsz : (l[i]).size ≤ 600 := by
      have : (bl l[i]).length ≤ (l.map bl).flatten.length := by
        obtain ⟨p, q, hpq⟩ := List.append_of_mem (List.mem_map_of_mem (f := bl) (List.getElem_mem hil))
        rw [hpq, List.flatten_append, List.flatten_cons, List.length_append, List.length_append]; omega
      rw [hb, cutB_flat _ hab, bl_len, bl_len] at this; omega
    obtain ⟨q, hq, hqb⟩ := cut_is l[i] a k ha (by omega) (by omega) (by omega)
    have hall' : (all ++ q).map bl = ((l.take (i + 1)).map bl).flatMap (cutB a) := by
      rw [List.map_append, hall, hqb, List.take_succ_eq_append_getElem hil, List.map_append, List.flatMap_append, List.map_cons, List.map_nil, List.flatMap_cons, List.flatMap_nil, List.append_nil]
    have hcnt : (all ++ q).length ≤ once.length := by
      have h1 : (all ++ q).length = (((l.take (i + 1)).map bl).flatMap (cutB a)).length := by rw [← hall', List.length_map]
      have h2 : once.length = ((l.map bl).flatMap (cutB a)).length := by rw [hb, cut_twice a m ha hm, ← ho, List.length_map]
      have h3 : (l.map bl).flatMap (cutB a) = ((l.take (i + 1)).map bl).flatMap (cutB a) ++ ((l.drop (i + 1)).map bl).flatMap (cutB a) := by
        rw [← List.flatMap_append, ← List.map_append, List.take_append_drop]
      rw [h1, h2, h3, List.length_append]; omega
    rw [List.length_append] at hcnt
    have hnx := ih k (i + 1) (all ++ q) (by omega) (by omega) hall'
    rw [switchboardlaw16_ChunkTwice.l0, if_pos (by omega), if_pos (by omega), if_pos (by omega), twice_rd l i hil, hq, Option.bind_some]
    rw [if_pos rfl, if_pos (show all.length + q.length < 8796093022208 by omega), w64 (a := (i : Int) + 1) (by omega) (by omega), show (i : Int) + 1 = ((i + 1 : Nat) : Int) by omega, hnx]
theorem ChunkTwice : switchboardlaw16_ChunkTwice.Pure := by
  intro s a1 a2 hs hw1 hw2
  have hr1 := BytesRow.wf_in (m := 0) (n := 255) hw1 rfl rfl
  have hr2 := BytesRow.wf_in (m := 0) (n := 255) hw2 rfl rfl
  refine ⟨4000, ?_⟩
  unfold switchboardlaw16_ChunkTwice.f
  by_cases h : (s.size : Int) > 600
  · rw [if_pos h, awake_is 4000 (by omega), Option.bind_some]
  · have hm1 : Int.tmod a1 8 = a1 % 8 := Int.tmod_eq_emod_of_nonneg (by omega)
    have hm2 : Int.tmod a2 8 = a2 % 8 := Int.tmod_eq_emod_of_nonneg (by omega)
    rw [if_neg h, hm1, hm2, w64 (a := a1 % 8) (by omega) (by omega), w64 (a := a2 % 8) (by omega) (by omega), w64 (a := 1 + a1 % 8) (by omega) (by omega), w64 (a := 1 + a2 % 8) (by omega) (by omega)]
    obtain ⟨a, ha⟩ : ∃ n : Nat, 1 + a1 % 8 = (n : Int) := ⟨(1 + a1 % 8).toNat, by omega⟩
    obtain ⟨m, hm⟩ : ∃ n : Nat, 1 + a2 % 8 = (n : Int) := ⟨(1 + a2 % 8).toNat, by omega⟩
    have hab : a * m ≤ 8 * 8 := Nat.mul_le_mul (by omega) (by omega)
    have hab1 : 1 ≤ a * m := Nat.mul_pos (by omega) (by omega)
    rw [ha, hm, show (a : Int) * (m : Int) = ((a * m : Nat) : Int) by rw [Int.natCast_mul], w64 (a := ((a * m : Nat) : Int)) (by omega) (by omega)]
    obtain ⟨l, hl, hb⟩ := cut_is s (a * m) 4000 hab1 (by omega) (by omega) (by omega)
    obtain ⟨once, hon, ho⟩ := cut_is s a 4000 (by omega) (by omega) (by omega) (by omega)
    rw [hl, Option.bind_some, hon, Option.bind_some]
    have hlen := cut_count s l (a * m) hab1 hb
    exact twice_l0 s l once a m (by omega) (by omega) (by omega) (by omega) hb ho l.length 4000 0 [] (by omega) (by omega) rfl
end Go.Proofs.Ytdcojbamfchgiaa.Pure
