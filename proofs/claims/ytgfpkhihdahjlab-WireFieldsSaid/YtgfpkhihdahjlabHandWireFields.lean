/- For every message: each number of a right one stands at its place in the bytes, in four. Conditions: none but what a slice holds. -/
import Derived.Test.YtgfpkhihdahjlabQWirex23
import Derived.Test.YtgfpkhihdahjlabWireRefA
import Derived.Test.YtgfpkhihdahjlabWireMor
namespace Go.Proofs.Ytgfpkhihdahjlab.Hand
open Go Go.RowKit Go.Proofs.Ytgfpkhihdahjlab.QWire Go.Proofs.YtgfpkhihdahjlabW.PrintWords Go.Proofs.YtgfpkhihdahjlabW.PrintLast Go.Proofs.Ytgfpkhihdahjlab.Given Go.Proofs.Ytgfpkhihdahjlab.CrcThy Go.Proofs.Ytgfpkhihdahjlab.WireThy Go.Proofs.Ytgfpkhihdahjlab.WireFun Go.Proofs.Ytgfpkhihdahjlab.WireLaw Go.Proofs.Ytgfpkhihdahjlab.WireRef
/-- The empty text has no bytes. -/
theorem empty_WireFields : (⟨#[]⟩ : ByteArray).toList = [] := by unfold ByteArray.toList ByteArray.toList.loop; rfl
/-- Equal bytes: one text. -/
theorem same_WireFields {s t : ByteArray} (h : s.data.toList = t.data.toList) : s = t := by
  apply ByteArray.ext; exact Array.toList_inj.1 h
theorem fields_l0 (s : ByteArray) (x : List Int) (hx : x.length ≤ 1000) (hs : s.size = 4 * x.length + 4) (hn : ∀ i (h : i < x.length), (nums s.data.toList).getD i 0 = x[i] % 4294967296) (hb : ∀ n ∈ x, -4294967296 ≤ n ∧ n ≤ 4294967296) (d : Nat) : ∀ (k i : Nat), d + 2000 < k → i + d = x.length →
    switchboardlaw07_WireFields.l0 k s x (x.length : Int) (i : Int) = some true := by
  induction d with
  | zero =>
    intro k i hk hi
    obtain ⟨k, rfl⟩ : ∃ m, k = m + 1 := ⟨k - 1, by omega⟩
    simp only [switchboardlaw07_WireFields.l0]
    rw [if_neg (by omega), awake_wire k (by omega)]; rfl
  | succ d ih =>
    intro k i hk hi
    obtain ⟨k, rfl⟩ : ∃ m, k = m + 1 := ⟨k - 1, by omega⟩
    have hlt : i < x.length := by omega
    have hnum := hn i hlt
    have hxb := hb x[i] (List.getElem_mem hlt)
    rw [nums_get i _ (by rw [data_length]; omega)] at hnum
    unfold num4 at hnum
    rw [← bt_nat, ← bt_nat, ← bt_nat, ← bt_nat] at hnum
    have r0 := WireFun.bt_range s ((4 * i : Nat) : Int); have r1 := WireFun.bt_range s ((4 * i + 1 : Nat) : Int); have r2 := WireFun.bt_range s ((4 * i + 2 : Nat) : Int); have r3 := WireFun.bt_range s ((4 * i + 3 : Nat) : Int)
    have i0 : wrap64 (4 * (i : Int)) = ((4 * i : Nat) : Int) := by rw [w64 (by omega) (by omega)]; omega
    have i1 : wrap64 (((4 * i : Nat) : Int) + 1) = ((4 * i + 1 : Nat) : Int) := by rw [w64 (by omega) (by omega)]; omega
    have i2 : wrap64 (((4 * i : Nat) : Int) + 2) = ((4 * i + 2 : Nat) : Int) := by rw [w64 (by omega) (by omega)]; omega
    have i3 : wrap64 (((4 * i : Nat) : Int) + 3) = ((4 * i + 3 : Nat) : Int) := by rw [w64 (by omega) (by omega)]; omega
    have ih2 := ih k (i + 1) (by omega) (by omega)
    rw [show ((i + 1 : Nat) : Int) = (i : Int) + 1 from by omega] at ih2
    simp only [switchboardlaw07_WireFields.l0]
    rw [if_pos (by omega), if_pos (by omega), if_pos (by omega), i0, i1, i2, i3, if_pos (by omega), if_pos (by omega), if_pos (by omega), if_pos (by omega), if_pos (by omega), if_pos (by omega), if_pos (by omega), if_pos (by omega), rd_nat x i hlt, w64 (a := (i : Int) + 1) (by omega) (by omega), ih2]
    generalize bt s ((4 * i : Nat) : Int) = b0 at *
    generalize bt s ((4 * i + 1 : Nat) : Int) = b1 at *
    generalize bt s ((4 * i + 2 : Nat) : Int) = b2 at *
    generalize bt s ((4 * i + 3 : Nat) : Int) = b3 at *
    rw [w64 (a := b0) (by omega) (by omega), w64 (a := b1) (by omega) (by omega), w64 (a := b2) (by omega) (by omega), w64 (a := b3) (by omega) (by omega), w64 (a := b1 * 256) (by omega) (by omega), w64 (a := b2 * 65536) (by omega) (by omega), w64 (a := b3 * 16777216) (by omega) (by omega), w64 (a := b0 + b1 * 256) (by omega) (by omega), w64 (a := b0 + b1 * 256 + b2 * 65536) (by omega) (by omega), w64 (a := b0 + b1 * 256 + b2 * 65536 + b3 * 16777216) (by omega) (by omega), w64 (by omega) (by omega), if_pos]
    apply Int.tmod_eq_zero_of_dvd
    exact ⟨x[i] / 4294967296, by omega⟩
theorem pure_WireFields (m0 m1 m2 m3 m4 m5 m6 m7 m8 m9 : Int) (v : List Int) (hv : v.length ≤ 9223372036854775807) : ∃ k, switchboardlaw07_WireFields.f k m0 m1 m2 m3 m4 m5 m6 m7 m8 m9 v = some true := by
  refine ⟨v.length + 5000, ?_⟩
  unfold switchboardlaw07_WireFields.f
  by_cases hr : RightB [m0, m1, m2, m3, m4, m5, m6, m7, m8, m9] v = true
  · obtain ⟨t, p1, p2, p3⟩ := put_yes hr (v.length + 5000) (by omega)
    obtain ⟨h1, h2, _, _, h5⟩ := right_parts hr
    have hl : (listOf [m0, m1, m2, m3, m4, m5, m6, m7, m8, m9] v).length = v.length + 11 := listOf_len rfl
    have w1 : wrap64 ((t.size : Int) - 4) = 4 * ((listOf [m0, m1, m2, m3, m4, m5, m6, m7, m8, m9] v).length : Int) + 4 := by unfold wrap64; omega
    rw [p1, Option.bind_some, if_pos rfl, Option.bind_some, rlist_is m0 m1 m2 m3 m4 m5 m6 m7 m8 m9 v (by omega), Option.bind_some, if_pos (by rw [hl]; simp; omega), Option.bind_some, w1]
    have hx : ([4 * ((listOf [m0, m1, m2, m3, m4, m5, m6, m7, m8, m9] v).length : Int) + 4] ++ listOf [m0, m1, m2, m3, m4, m5, m6, m7, m8, m9] v).length = v.length + 12 := by rw [List.length_append, hl, List.length_singleton]; omega
    have w2 : wrap64 (wrap64 (4 * (([4 * ((listOf [m0, m1, m2, m3, m4, m5, m6, m7, m8, m9] v).length : Int) + 4] ++ listOf [m0, m1, m2, m3, m4, m5, m6, m7, m8, m9] v).length : Int)) + 4) = (t.size : Int) := by rw [hx]; unfold wrap64; omega
    rw [w2, if_pos rfl]
    have hn : nums t.data.toList = ([4 * ((listOf [m0, m1, m2, m3, m4, m5, m6, m7, m8, m9] v).length : Int) + 4] ++ listOf [m0, m1, m2, m3, m4, m5, m6, m7, m8, m9] v).map (· % 4294967296) ++ [crcI (bodyB [m0, m1, m2, m3, m4, m5, m6, m7, m8, m9] v) % 4294967296] := by
      rw [p2]; unfold putB
      rw [nums_flat, List.map_cons, List.map_append, List.map_append]; rfl
    exact fields_l0 t _ (by rw [hx]; omega) (by rw [hx, p3]; omega) (fun i h => by
        rw [hn, List.getD_eq_getElem?_getD, List.getElem?_append_left (by rw [List.length_map]; exact h), List.getElem?_map, List.getElem?_eq_getElem h]; rfl)
      (by
        intro n hn
        rw [List.singleton_append, List.mem_cons] at hn
        rcases hn with hn | hn
        · omega
        · unfold listOf at hn
          rw [List.mem_append, List.mem_append] at hn
          rcases hn with (hn | hn) | hn
          · have := h1 n hn; omega
          · rw [List.mem_singleton] at hn; omega
          · have := h2 n hn; omega) (v.length + 12) (v.length + 5000) 0 (by omega) (by rw [hx]; omega)
  · rw [put_no hv hr _ (by omega), Option.bind_some, if_neg (by simp), empty_WireFields, if_pos rfl, awake_wire _ (by omega)]; rfl
theorem WireFields_walk (m0 m1 m2 m3 m4 m5 m6 m7 m8 m9 : Int) (A : Option Addr) (c : Nat) (v : List Int) (w : World) (hr : (Kd.int .i64).C w A v.length v) (hc : v.length ≤ c) (hm : v.length ≤ 9223372036854775807) :
    Calls Try.prog 12 #[.agg #[.int .i64 m0, .int .i64 m1, .int .i64 m2, .int .i64 m3, .int .i64 m4, .int .i64 m5, .int .i64 m6, .int .i64 m7, .int .i64 m8, .int .i64 m9, .slice A v.length c]] w fun e w' => e = .returned (.bool true) ∧ Below w.heap.size w w' := by
  obtain ⟨k, h⟩ := pure_WireFields m0 m1 m2 m3 m4 m5 m6 m7 m8 m9 v hm
  exact switchboardlaw07_WireFields.calls k m0 m1 m2 m3 m4 m5 m6 m7 m8 m9 A c v true w hr hc h
end Go.Proofs.Ytgfpkhihdahjlab.Hand
